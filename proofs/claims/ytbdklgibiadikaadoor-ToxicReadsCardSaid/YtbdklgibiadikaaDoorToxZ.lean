/- The contract of toxic.Parse. -/
import Derived.Test.YtbdklgibiadikaaDoorToxP
set_option linter.unusedVariables false
set_option linter.unusedSimpArgs false
namespace Go.Proofs.YtbdklgibiadikaaDoor.Tox
open Go.RowKit Go.Shelf Go.Proofs.YtbdklgibiadikaaDoor.Ext Go.Proofs.YtbdklgibiadikaaDoor.PToxB Go.Proofs.YtbdklgibiadikaaDoorW.PrintWords Go.Proofs.YtbdklgibiadikaaDoorW.PrintLast

abbrev Res7 := ByteArray × Int × Bool × Int × Int × Int × Int
def bad7 (e : Int) : Res7 := (⟨#[]⟩, 0, false, 0, 0, 0, e)
def valsOf (l : List ByteArray) (i : Nat) : Int := ((l.drop 3)[i]?.map fun x => (tickParse x).1).getD 0
def parse2 (l : List ByteArray) : Res7 :=
  let k := kindOf (l.getD 1 ByteArray.empty)
  if k = 0 ∨ (l.length : Int) ≠ 4 + numOf k then bad7 91
  else
    let n := l.getD 0 ByteArray.empty
    let up := decide (l.getD 2 ByteArray.empty = ⟨#[117, 112]⟩)
    let e := checkOf n k up (valsOf l 0) (valsOf l 1) (valsOf l 2)
    if e = 0 then (n, k, up, valsOf l 0, valsOf l 1, valsOf l 2, 0) else bad7 e
def wayBad (x : ByteArray) : Bool := decide (x ≠ ⟨#[117, 112]⟩) && decide (x ≠ ⟨#[100, 111, 119, 110]⟩)
def parse1 (l : List ByteArray) : Res7 :=
  if l.length < 5 ∨ 6 < l.length then bad7 90
  else if Lib.containsS l ⟨#[]⟩ then bad7 90
  else if wayBad (l.getD 2 ByteArray.empty) then bad7 90
  else if (l.drop 3).all fun x => (tickParse x).2 == 0 then parse2 l else bad7 90
def parseOf (s : ByteArray) : Res7 := parse1 (parts s)

/-- What Parse hands back. -/
def tup7 (r : Res7) : Value := .tuple #[.agg #[.string r.1, .int .i64 r.2.1, .bool r.2.2.1, .int .i64 r.2.2.2.1, .int .i64 r.2.2.2.2.1, .int .i64 r.2.2.2.2.2.1], .int .i64 r.2.2.2.2.2.2]

theorem results_ct {P : Program} {fn : Func} {tmps : Array Value} {W : World} {p q : Tmp} {ty : TypeId} {g : Nat} {t : TypeId} {cs : Array Value} {fr : Nat × Nat} {d : TypeDesc} (h : fn.results = #[.cell p ty, .tmp q]) (hp : tmps.getD p undef = .pointer (some ⟨g, 0, none⟩))
    (hg : W.heap[g]? = some (.cells cs t fr)) (hu : P.underlying ty = some d) (hd : (match d with | .struct _ | .array _ _ => true | _ => false) = true) (hi : (P.info? ty).map (·.size) = some cs.size) : (results fn tmps).run P W = .ok (.tuple #[.agg cs, tmps.getD q undef]) W := by
  unfold results
  rw [h, show (#[ResultVar.cell p ty, ResultVar.tmp q]) = [ResultVar.cell p ty, ResultVar.tmp q].toArray from rfl, List.mapM_toArray]
  have hp' : tmps[p]?.getD undef = .pointer (some ⟨g, 0, none⟩) := by simpa using hp
  simp [List.mapM_cons, hp', asAddr, run_loadVar_row W g t ty cs fr d hg hu hd hi]

/-- The end of Parse: its answer stands in the block that it made first. -/
theorem parse_end {tmps : Array Value} {W : World} {w : World} {cs : Array Value} {e : Value} {df : List Deferred} (hp : tmps.getD 2 undef = .pointer (some ⟨w.heap.size, 0, none⟩)) (he : tmps.getD 3 undef = e)
    (hg : W.heap[w.heap.size]? = some (.cells cs 23 (0, 0))) (hz : cs.size = 6) (hb : Below w.heap.size w W) (r : Res7) (hr : tup7 r = .tuple #[.agg cs, e]) (hdf : df = []) :
    bodyPost Tryd.prog Tryd.f17 (fun e w' => e = Ending.returned (tup7 r) ∧ Below w.heap.size w w') Exit.ret { tmps := tmps, defers := df } W := by
  subst hdf
  refine bodyPost_ret (v := .tuple #[.agg cs, e]) ?_ rfl ⟨by rw [hr], hb⟩
  rw [← he]
  exact results_ct rfl hp hg Tryd.underlying23 rfl (by rw [hz]; kernel_rfl)

theorem parse_short (s : ByteArray) (w : World) (hs : s.size < 4294967281) (hl : (parts s).length < 5 ∨ 6 < (parts s).length) :
    Calls Tryd.prog 17 #[.string s] w fun e w' => e = .returned (tup7 (bad7 90)) ∧ Below w.heap.size w w' := by
  have HS := Lib.hid (fun w => split_walk s w hs)
  obtain ⟨l, hpl⟩ : ∃ l, parts s = l := ⟨_, rfl⟩
  rw [hpl] at HS hl
  clear hpl hs
  rcases hl with h | h
  · have q1 : (l.length : Int) < 5 := by omega
    clear h
    go_enter Tryd.func17, Tryd.ntmps17
    go_wp2_with (first | (go_at_call 32; refine (HS.out _).mono ?_; rintro e w1 ⟨rfl, rfl⟩) | fail)
    exact parse_end rfl rfl (heap_two w _ _).1 rfl (((Below.refl _ w).alloc (Nat.le_refl _) _).alloc (by simp) _) _ rfl rfl
  · have q1 : ¬ (l.length : Int) < 5 := by omega
    have q2 : (6 : Int) < (l.length : Int) := by omega
    clear h
    go_enter Tryd.func17, Tryd.ntmps17
    go_wp2_with (first | (go_at_call 32; refine (HS.out _).mono ?_; rintro e w1 ⟨rfl, rfl⟩) | fail)
    exact parse_end rfl rfl (heap_two w _ _).1 rfl (((Below.refl _ w).alloc (Nat.le_refl _) _).alloc (by simp) _) _ rfl rfl
/-- A part's number, and its error. -/
def pn (l : List ByteArray) (i : Nat) : Int := (tickParse (l.getD (3 + i) ByteArray.empty)).1
def pe (l : List ByteArray) (i : Nat) : Int := (tickParse (l.getD (3 + i) ByteArray.empty)).2
/-- The cells of the three numbers, of which so many are read. -/
def three (l : List ByteArray) (j : Nat) : Array Value := #[.int .i64 (if 0 < j then pn l 0 else 0), .int .i64 (if 1 < j then pn l 1 else 0), .int .i64 (if 2 < j then pn l 2 else 0)]
/-- What the loop of Parse knows. -/
def PR (l : List ByteArray) (w1 : World) (n : Nat) (jv : Value) (wr : World) : Prop :=
  ∃ j : Nat, jv = .int .i64 j ∧ j ≤ n ∧ Below w1.heap.size w1 wr ∧ wr.heap[w1.heap.size]? = some (.cells (three l j) 45 (0, 0)) ∧ ∀ i, i < j → pe l i = 0

theorem cell_alloc {W : World} {a : Addr} {v : Value} (h : W.cell? a = some v) (o : Obj) : (W.alloc o).cell? a = some v := by
  rw [World.cell?_alloc_old _ _ _ (Nat.ne_of_lt (World.block_lt_of_cell? _ _ h))]; exact h
theorem heap_new (w : World) (o : Obj) : (w.alloc o).heap[w.heap.size]? = some o := (MapKept.heap_alloc w o).1
theorem six_below_at {W w : World} {x0 x1 x2 x3 x4 x5 : Value} (h : Below w.heap.size w W) :
    Below w.heap.size w ((((((W.setCell ⟨w.heap.size, 0, none⟩ x0).setCell ⟨w.heap.size, 1, none⟩ x1).setCell ⟨w.heap.size, 2, none⟩ x2).setCell ⟨w.heap.size, 3, none⟩ x3).setCell ⟨w.heap.size, 4, none⟩ x4).setCell ⟨w.heap.size, 5, none⟩ x5) :=
  (((((h.setCell (Nat.le_refl _) _).setCell (Nat.le_refl _) _).setCell (Nat.le_refl _) _).setCell (Nat.le_refl _) _).setCell (Nat.le_refl _) _).setCell (Nat.le_refl _) _
theorem below_undrew {w w' : World} (hb : Below w.drew.heap.size w.drew w') : Below w.heap.size w w' := ⟨hb.os, hb.tape, hb.output, hb.size, hb.block⟩
theorem fin_a {w W : World} {o : Obj} (h : Below w.heap.size w W) : Below w.heap.size w (W.alloc o) := h.alloc h.size o
theorem below_alloc_drew {w W : World} {o : Obj} (h : Below (w.alloc o).drew.heap.size (w.alloc o).drew W) : Below w.heap.size w W :=
  ((Below.refl _ w).alloc (Nat.le_refl _) o).drew.trans (h.mono (by simp))
theorem six_cells {W : World} {B : Nat} {a0 a1 a2 a3 a4 a5 : Value} {t : TypeId} (h : W.heap[B]? = some (.cells #[a0, a1, a2, a3, a4, a5] t (0, 0))) :
    W.cell? ⟨B, 0, none⟩ = some a0 ∧ W.cell? ⟨B, 1, none⟩ = some a1 ∧ W.cell? ⟨B, 2, none⟩ = some a2 ∧ W.cell? ⟨B, 3, none⟩ = some a3 ∧ W.cell? ⟨B, 4, none⟩ = some a4 ∧ W.cell? ⟨B, 5, none⟩ = some a5 ∧ ∀ i, W.frozen? ⟨B, i, none⟩ = false :=
  ⟨cell_of_cells h 0, cell_of_cells h 1, cell_of_cells h 2, cell_of_cells h 3, cell_of_cells h 4, cell_of_cells h 5, free_of_cells h⟩
theorem six_set {W : World} {B : Nat} {a0 a1 a2 a3 a4 a5 x0 x1 x2 x3 x4 x5 : Value} {t : TypeId} (h : W.heap[B]? = some (.cells #[a0, a1, a2, a3, a4, a5] t (0, 0))) :
    ((((((W.setCell ⟨B, 0, none⟩ x0).setCell ⟨B, 1, none⟩ x1).setCell ⟨B, 2, none⟩ x2).setCell ⟨B, 3, none⟩ x3).setCell ⟨B, 4, none⟩ x4).setCell ⟨B, 5, none⟩ x5).heap[B]? = some (.cells #[x0, x1, x2, x3, x4, x5] t (0, 0)) := by
  have := heap_set_eq (i := 5) _ x5 (heap_set_eq (i := 4) _ x4 (heap_set_eq (i := 3) _ x3 (heap_set_eq (i := 2) _ x2 (heap_set_eq (i := 1) _ x1 (heap_set_eq (i := 0) W x0 h)))))
  simpa using this

theorem six_below {W w : World} {x0 x1 x2 x3 x4 x5 : Value} (h : Below w.heap.size w W) :
    Below w.heap.size w ((((((W.setCell ⟨w.heap.size, 0, none⟩ x0).setCell ⟨w.heap.size, 1, none⟩ x1).setCell ⟨w.heap.size, 2, none⟩ x2).setCell ⟨w.heap.size, 3, none⟩ x3).setCell ⟨w.heap.size, 4, none⟩ x4).setCell ⟨w.heap.size, 5, none⟩ x5) :=
  (((((h.setCell (Nat.le_refl _) _).setCell (Nat.le_refl _) _).setCell (Nat.le_refl _) _).setCell (Nat.le_refl _) _).setCell (Nat.le_refl _) _).setCell (Nat.le_refl _) _
theorem getD_drop (l : List ByteArray) (i : Nat) : (l.drop 3)[i]? = l[3 + i]? := by rw [List.getElem?_drop]
theorem vals_in (l : List ByteArray) (i : Nat) (h : 3 + i < l.length) : valsOf l i = pn l i := by
  unfold valsOf pn
  rw [getD_drop]
  simp [h]
theorem vals_out (l : List ByteArray) (i : Nat) (h : ¬ 3 + i < l.length) : valsOf l i = 0 := by
  unfold valsOf
  rw [getD_drop]
  simp [h]
theorem way_up {x : ByteArray} (h : x.toList = [117, 112]) : ¬ wayBad x = true := by
  have : x = ⟨#[117, 112]⟩ := (toList_eq_iff _ _).1 (by rw [h, ByteArray.toList_eq])
  simp [wayBad, this]
theorem way_down {x : ByteArray} (h : x.toList = [100, 111, 119, 110]) : ¬ wayBad x = true := by
  have : x = ⟨#[100, 111, 119, 110]⟩ := (toList_eq_iff _ _).1 (by rw [h, ByteArray.toList_eq])
  simp [wayBad, this]
theorem parse1_con (l : List ByteArray) (h5 : ¬ l.length < 5 ∧ ¬ 6 < l.length) (h : Lib.containsS l ⟨#[]⟩ = true) : parse1 l = bad7 90 := by
  unfold parse1
  rw [if_neg (by omega), h]
  rfl
theorem parse1_way (l : List ByteArray) (h5 : ¬ l.length < 5 ∧ ¬ 6 < l.length) (h : wayBad (l.getD 2 ByteArray.empty) = true) : parse1 l = bad7 90 := by
  unfold parse1
  rw [if_neg (by omega), h]
  split <;> rfl
theorem parse1_bad (l : List ByteArray) (j : Nat) (h5 : ¬ l.length < 5 ∧ ¬ 6 < l.length) (hj : 3 + j < l.length) (he : pe l j ≠ 0) : parse1 l = bad7 90 := by
  have : ((l.drop 3).all fun x => (tickParse x).2 == 0) = false := by
    rw [Bool.eq_false_iff]
    intro hall
    have hm : l[3 + j] ∈ l.drop 3 := by
      refine List.mem_of_getElem? (i := j) ?_
      rw [getD_drop]
      simp [hj]
    have := List.all_eq_true.1 hall _ hm
    apply he
    unfold pe
    simpa [hj] using this
  unfold parse1
  rw [if_neg (by omega), this]
  split
  · rfl
  · split
    · rfl
    · rfl
theorem parse1_good (l : List ByteArray) (h5 : ¬ l.length < 5 ∧ ¬ 6 < l.length) (hc : Lib.containsS l ⟨#[]⟩ = false) (hw : ¬ wayBad (l.getD 2 ByteArray.empty) = true) (he : ∀ j, j < l.length - 3 → pe l j = 0) : parse1 l = parse2 l := by
  have : ((l.drop 3).all fun x => (tickParse x).2 == 0) = true := by
    rw [List.all_eq_true]
    intro x hx
    obtain ⟨j, hj⟩ := List.getElem?_of_mem hx
    rw [getD_drop] at hj
    have hl : 3 + j < l.length := by
      rcases Nat.lt_or_ge (3 + j) l.length with h | h
      · exact h
      · rw [List.getElem?_eq_none h] at hj; cases hj
    have := he j (by omega)
    unfold pe at this
    rw [List.getElem?_eq_getElem hl] at hj
    cases hj
    simpa [hl] using this
  unfold parse1
  rw [if_neg (by omega), hc, if_neg (by decide), if_neg hw, this, if_pos rfl]
theorem three_next (l : List ByteArray) (j : Nat) (hj : j < 3) : (three l j).setIfInBounds j (.int .i64 (pn l j)) = three l (j + 1) := by
  have : j = 0 ∨ j = 1 ∨ j = 2 := by omega
  rcases this with rfl | rfl | rfl <;> rfl
theorem three_cell (l : List ByteArray) (j : Nat) (hj : j < 3) : (three l j)[j]? = some (.int .i64 0) := by
  have : j = 0 ∨ j = 1 ∨ j = 2 := by omega
  rcases this with rfl | rfl | rfl <;> rfl

theorem parse2_noKind (l : List ByteArray) (h : kindOf (l.getD 1 ByteArray.empty) = 0) : parse2 l = bad7 91 := by
  unfold parse2
  rw [h]
  rfl
theorem parse2_noLen (l : List ByteArray) (h : (l.length : Int) ≠ 4 + numOf (kindOf (l.getD 1 ByteArray.empty))) : parse2 l = bad7 91 := by
  unfold parse2
  simp only
  rw [if_pos (.inr h)]
theorem parse2_check (l : List ByteArray) (n : ByteArray) (k : Int) (up : Bool) (o a b e : Int) (hk : kindOf (l.getD 1 ByteArray.empty) = k) (hn : l.getD 0 ByteArray.empty = n) (hup : decide (l.getD 2 ByteArray.empty = ⟨#[117, 112]⟩) = up)
    (h0 : k ≠ 0) (h1 : (l.length : Int) = 4 + numOf k) (ho : valsOf l 0 = o) (ha : valsOf l 1 = a) (hb : valsOf l 2 = b) (he : checkOf n k up o a b = e) : parse2 l = if e = 0 then (n, k, up, o, a, b, 0) else bad7 e := by
  unfold parse2
  simp only
  rw [hk, hn, hup, ho, ha, hb, he, if_neg (by rintro (h | h); exact h0 h; exact h h1)]

set_option maxHeartbeats 16000000 in
set_option maxRecDepth 100000 in
theorem parse_con (s : ByteArray) (w : World) (hs : s.size < 4294967281) (hl5 : ¬ (parts s).length < 5) (hl6 : ¬ 6 < (parts s).length) (hcon : Lib.containsS (parts s) ⟨#[]⟩ = true) :
    Calls Tryd.prog 17 #[.string s] w fun e w' => e = .returned (tup7 (parseOf s)) ∧ Below w.heap.size w w' := by
  have HS := Lib.hid (fun w => split_walk s w hs)
  unfold parseOf
  obtain ⟨l, hpl⟩ : ∃ l, parts s = l := ⟨_, rfl⟩
  rw [hpl] at HS hl5 hl6 hcon
  rw [hpl]
  have hw1 : Below w.heap.size w ((w.alloc (Obj.cells #[Value.string { data := #[] }, Value.int IntKind.i64 0, Value.bool false, Value.int IntKind.i64 0, Value.int IntKind.i64 0, Value.int IntKind.i64 0] 23)).alloc (Obj.cells (List.map Value.string l).toArray 9)) :=
    ((Below.refl _ w).alloc (Nat.le_refl _) _).alloc (by simp) _
  have hb := heap_two w (Obj.cells #[Value.string { data := #[] }, Value.int IntKind.i64 0, Value.bool false, Value.int IntKind.i64 0, Value.int IntKind.i64 0, Value.int IntKind.i64 0] 23) (Obj.cells (List.map Value.string l).toArray 9)
  obtain ⟨w1, hw1e⟩ : ∃ w1, (w.alloc (Obj.cells #[Value.string { data := #[] }, Value.int IntKind.i64 0, Value.bool false, Value.int IntKind.i64 0, Value.int IntKind.i64 0, Value.int IntKind.i64 0] 23)).alloc (Obj.cells (List.map Value.string l).toArray 9) = w1 := ⟨_, rfl⟩
  rw [hw1e] at hw1 hb
  obtain ⟨hb0, hb1⟩ := hb
  have hcell : ∀ j, j < l.length → w1.cell? ⟨w.heap.size + 1, j, none⟩ = some (.string (l.getD j ByteArray.empty)) := by
    intro j hj
    simp [World.cell?, hb1, hj]
  have HCON := Lib.hid (fun x => Tryd.slices_Contains_string (w.heap.size + 1) 0 l.length l.length l x w1 (Nat.le_refl _) (by omega) (fun j hj => by rw [Nat.zero_add]; exact hcell j hj))
  rw [List.take_length] at HCON
  have q1 : ¬ (l.length : Int) < 5 := by omega
  have q2 : ¬ (6 : Int) < (l.length : Int) := by omega
  have hc2 := hcell 2 (by omega)
  obtain ⟨x2, hx2⟩ : ∃ x2, l.getD 2 ByteArray.empty = x2 := ⟨_, rfl⟩
  rw [hx2] at hc2
  have HX2 := Lib.hid hx2
  have HB0 := Lib.hid hb0
  have HB1 := Lib.hid hb1
  have HW1 := Lib.hid hw1
  have HCELL := Lib.hid hcell
  have HL := Lib.hid (And.intro hl5 hl6)
  obtain ⟨r7, hr7⟩ : ∃ r7, parse1 l = r7 := ⟨_, rfl⟩
  rw [hr7]
  have HR7 := Lib.hid hr7
  clear hpl hs hx2 hb0 hb1 hw1 hcell hl5 hl6 hr7
  go_enter Tryd.func17, Tryd.ntmps17
  rw [show (⟨#[]⟩ : ByteArray) = { data := #[] } from rfl] at hcon
  obtain ⟨z0, z1, z2, z3, z4, z5, zf⟩ := six_cells HB0.out
  go_wp2_with (first | (go_at_call 32; refine (HS.out _).mono ?_; rintro e w1 ⟨rfl, rfl⟩; rw [hw1e]; skip) | (go_at_call 33; refine (HCON.out _).mono ?_; rintro e w1 ⟨rfl, rfl⟩) | fail)
  have hr7 := HR7.out
  rw [parse1_con l HL.out hcon] at hr7
  subst hr7
  exact parse_end rfl rfl (six_set HB0.out) rfl (six_below HW1.out) _ rfl rfl
set_option maxHeartbeats 16000000 in
set_option maxRecDepth 100000 in
theorem parse_way (s : ByteArray) (w : World) (hs : s.size < 4294967281) (hl5 : ¬ (parts s).length < 5) (hl6 : ¬ 6 < (parts s).length) (hcon : Lib.containsS (parts s) ⟨#[]⟩ = false) (hu : (((parts s).getD 2 ByteArray.empty).toList == [117, 112]) = false) (hd : (((parts s).getD 2 ByteArray.empty).toList == [100, 111, 119, 110]) = false) :
    Calls Tryd.prog 17 #[.string s] w fun e w' => e = .returned (tup7 (parseOf s)) ∧ Below w.heap.size w w' := by
  have HS := Lib.hid (fun w => split_walk s w hs)
  unfold parseOf
  obtain ⟨l, hpl⟩ : ∃ l, parts s = l := ⟨_, rfl⟩
  rw [hpl] at HS hl5 hl6 hcon hu hd
  rw [hpl]
  have hw1 : Below w.heap.size w ((w.alloc (Obj.cells #[Value.string { data := #[] }, Value.int IntKind.i64 0, Value.bool false, Value.int IntKind.i64 0, Value.int IntKind.i64 0, Value.int IntKind.i64 0] 23)).alloc (Obj.cells (List.map Value.string l).toArray 9)) :=
    ((Below.refl _ w).alloc (Nat.le_refl _) _).alloc (by simp) _
  have hb := heap_two w (Obj.cells #[Value.string { data := #[] }, Value.int IntKind.i64 0, Value.bool false, Value.int IntKind.i64 0, Value.int IntKind.i64 0, Value.int IntKind.i64 0] 23) (Obj.cells (List.map Value.string l).toArray 9)
  obtain ⟨w1, hw1e⟩ : ∃ w1, (w.alloc (Obj.cells #[Value.string { data := #[] }, Value.int IntKind.i64 0, Value.bool false, Value.int IntKind.i64 0, Value.int IntKind.i64 0, Value.int IntKind.i64 0] 23)).alloc (Obj.cells (List.map Value.string l).toArray 9) = w1 := ⟨_, rfl⟩
  rw [hw1e] at hw1 hb
  obtain ⟨hb0, hb1⟩ := hb
  have hcell : ∀ j, j < l.length → w1.cell? ⟨w.heap.size + 1, j, none⟩ = some (.string (l.getD j ByteArray.empty)) := by
    intro j hj
    simp [World.cell?, hb1, hj]
  have HCON := Lib.hid (fun x => Tryd.slices_Contains_string (w.heap.size + 1) 0 l.length l.length l x w1 (Nat.le_refl _) (by omega) (fun j hj => by rw [Nat.zero_add]; exact hcell j hj))
  rw [List.take_length] at HCON
  have q1 : ¬ (l.length : Int) < 5 := by omega
  have q2 : ¬ (6 : Int) < (l.length : Int) := by omega
  have hc2 := hcell 2 (by omega)
  obtain ⟨x2, hx2⟩ : ∃ x2, l.getD 2 ByteArray.empty = x2 := ⟨_, rfl⟩
  rw [hx2] at hc2 hu hd
  have HX2 := Lib.hid hx2
  have HB0 := Lib.hid hb0
  have HB1 := Lib.hid hb1
  have HW1 := Lib.hid hw1
  have HCELL := Lib.hid hcell
  have HL := Lib.hid (And.intro hl5 hl6)
  obtain ⟨r7, hr7⟩ : ∃ r7, parse1 l = r7 := ⟨_, rfl⟩
  rw [hr7]
  have HR7 := Lib.hid hr7
  clear hpl hs hx2 hb0 hb1 hw1 hcell hl5 hl6 hr7
  go_enter Tryd.func17, Tryd.ntmps17
  rw [show (⟨#[]⟩ : ByteArray) = { data := #[] } from rfl] at hcon
  have hwb : wayBad x2 = true := by
    simp only [wayBad, Bool.and_eq_true, decide_eq_true_eq]
    refine ⟨?_, ?_⟩
    · rintro rfl; simp [ByteArray.toList_eq] at hu
    · rintro rfl; simp [ByteArray.toList_eq] at hd
  have HWB := Lib.hid hwb
  clear hwb
  obtain ⟨z0, z1, z2, z3, z4, z5, zf⟩ := six_cells HB0.out
  go_wp2_with (first | (go_at_call 32; refine (HS.out _).mono ?_; rintro e w1 ⟨rfl, rfl⟩; rw [hw1e]; skip) | (go_at_call 33; refine (HCON.out _).mono ?_; rintro e w1 ⟨rfl, rfl⟩) | fail)
  have hr7 := HR7.out
  rw [parse1_way l HL.out (by rw [HX2.out]; exact HWB.out)] at hr7
  subst hr7
  exact parse_end rfl rfl (six_set HB0.out) rfl (six_below HW1.out) _ rfl rfl
end Go.Proofs.YtbdklgibiadikaaDoor.Tox

/- The contract of toxic.Parse: the way up. -/
set_option linter.unusedVariables false
set_option linter.unusedSimpArgs false
namespace Go.Proofs.YtbdklgibiadikaaDoor.Tox
open Go.RowKit Go.Shelf Go.Proofs.YtbdklgibiadikaaDoor.Ext Go.Proofs.YtbdklgibiadikaaDoor.PToxB Go.Proofs.YtbdklgibiadikaaDoorW.PrintWords Go.Proofs.YtbdklgibiadikaaDoorW.PrintLast
set_option maxHeartbeats 16000000 in
set_option maxRecDepth 100000 in
theorem parse_up (s : ByteArray) (w : World) (hs : s.size < 4294967281) (hl5 : ¬ (parts s).length < 5) (hl6 : ¬ 6 < (parts s).length) (hcon : Lib.containsS (parts s) ⟨#[]⟩ = false) (hu : ((parts s).getD 2 ByteArray.empty).toList = [117, 112]) :
    Calls Tryd.prog 17 #[.string s] w fun e w' => e = .returned (tup7 (parseOf s)) ∧ Below w.heap.size w w' := by
  have HS := Lib.hid (fun w => split_walk s w hs)
  unfold parseOf
  obtain ⟨l, hpl⟩ : ∃ l, parts s = l := ⟨_, rfl⟩
  rw [hpl] at HS hl5 hl6 hcon hu
  rw [hpl]
  have hw1 : Below w.heap.size w ((w.alloc (Obj.cells #[Value.string { data := #[] }, Value.int IntKind.i64 0, Value.bool false, Value.int IntKind.i64 0, Value.int IntKind.i64 0, Value.int IntKind.i64 0] 23)).alloc (Obj.cells (List.map Value.string l).toArray 9)) :=
    ((Below.refl _ w).alloc (Nat.le_refl _) _).alloc (by simp) _
  have hb := heap_two w (Obj.cells #[Value.string { data := #[] }, Value.int IntKind.i64 0, Value.bool false, Value.int IntKind.i64 0, Value.int IntKind.i64 0, Value.int IntKind.i64 0] 23) (Obj.cells (List.map Value.string l).toArray 9)
  obtain ⟨w1, hw1e⟩ : ∃ w1, (w.alloc (Obj.cells #[Value.string { data := #[] }, Value.int IntKind.i64 0, Value.bool false, Value.int IntKind.i64 0, Value.int IntKind.i64 0, Value.int IntKind.i64 0] 23)).alloc (Obj.cells (List.map Value.string l).toArray 9) = w1 := ⟨_, rfl⟩
  rw [hw1e] at hw1 hb
  obtain ⟨hb0, hb1⟩ := hb
  have hcell : ∀ j, j < l.length → w1.cell? ⟨w.heap.size + 1, j, none⟩ = some (.string (l.getD j ByteArray.empty)) := by
    intro j hj
    simp [World.cell?, hb1, hj]
  have HCON := Lib.hid (fun x => Tryd.slices_Contains_string (w.heap.size + 1) 0 l.length l.length l x w1 (Nat.le_refl _) (by omega) (fun j hj => by rw [Nat.zero_add]; exact hcell j hj))
  rw [List.take_length] at HCON
  have q1 : ¬ (l.length : Int) < 5 := by omega
  have q2 : ¬ (6 : Int) < (l.length : Int) := by omega
  have hc2 := hcell 2 (by omega)
  obtain ⟨x2, hx2⟩ : ∃ x2, l.getD 2 ByteArray.empty = x2 := ⟨_, rfl⟩
  rw [hx2] at hc2 hu
  have HX2 := Lib.hid hx2
  have HB0 := Lib.hid hb0
  have HB1 := Lib.hid hb1
  have HW1 := Lib.hid hw1
  have HCELL := Lib.hid hcell
  have HL := Lib.hid (And.intro hl5 hl6)
  obtain ⟨r7, hr7⟩ : ∃ r7, parse1 l = r7 := ⟨_, rfl⟩
  rw [hr7]
  have HR7 := Lib.hid hr7
  clear hpl hs hx2 hb0 hb1 hw1 hcell hl5 hl6 hr7
  go_enter Tryd.func17, Tryd.ntmps17
  rw [show (⟨#[]⟩ : ByteArray) = { data := #[] } from rfl] at hcon
  have hway := way_up hu
  go_wp2_with (first | (go_at_call 32; refine (HS.out _).mono ?_; rintro e w1 ⟨rfl, rfl⟩; rw [hw1e]; skip) | (go_at_call 33; refine (HCON.out _).mono ?_; rintro e w1 ⟨rfl, rfl⟩) | fail)
  go_loopw [43] (fun jv wr => PR l w1 (l.length - 3) jv wr) (fun jv _ => l.length - (intOf jv).toNat)
  case atStart => exact ⟨0, rfl, Nat.zero_le _, (Below.refl _ w1).alloc (Nat.le_refl _) _, heap_new w1 _, fun i hi => absurd hi (Nat.not_lt_zero _)⟩
  case round =>
    obtain ⟨j, rfl, hj, hbw, harr, herr⟩ := hrel
    by_cases hjn : j < l.length - 3
    · have hj' := hbw
      have q3 : (j : Int) < ((l.length - 3 : Nat) : Int) := by omega
      have hcj := cell_later hbw (HCELL.out (3 + j) (by omega))
      have HBW := Lib.hid hbw
      have HARR := Lib.hid harr
      have HERR := Lib.hid herr
      clear hbw harr herr hj'
      obtain ⟨xj, hxj⟩ : ∃ xj, l.getD (3 + j) ByteArray.empty = xj := ⟨_, rfl⟩
      rw [hxj] at hcj
      obtain ⟨r1, r2, hp⟩ : ∃ r1 r2, tickParse xj = (r1, r2) := ⟨_, _, rfl⟩
      have HP := Lib.hid (tick_Parse.calls xj r1 r2 wr (by rw [tick_Parse.f, hp]))
      have HXJ := Lib.hid hxj
      have HPP := Lib.hid hp
      clear hxj hp
      by_cases hr2 : r2 = 0
      · subst hr2
        have hj3 : j < 3 := by have := HL.out; omega
        have q5 : (j : Int) < 3 := by omega
        have htc := three_cell l j hj3
        have HTC := Lib.hid htc
        clear htc
        go_wp2_with (first | (go_at_call 34; refine HP.out.mono ?_; rintro e w2 ⟨rfl, hb2⟩; have hbw2 := HBW.out.trans (hb2.mono HBW.out.size); have hr0 := (hb2.block _ (lt_of_heap HARR.out)).trans HARR.out; have hcj2 := (cell_of_cells hr0 j).trans HTC.out; have hfj := free_of_cells hr0 j; have HR0 := Lib.hid hr0; clear hr0) | fail)
        go_roundw
        case measure => simp [intOf]; omega
        · have h1 := HXJ.out
          have h2 := HPP.out
          refine ⟨j + 1, rfl, by omega, hbw2.setCell (Nat.le_refl _) _, ?_, ?_⟩
          · rw [← three_next l j hj3, show pn l j = r1 by unfold pn; rw [h1, h2]]
            exact heap_set_eq _ _ HR0.out
          · intro i hi
            by_cases hij : i = j
            · subst hij; unfold pe; rw [h1, h2]
            · exact HERR.out i (by omega)
      · have q4 : (r2 != 0) = true := by simpa using hr2
        have hb02 := HB0.out
        have HB2 := Lib.hid hr2
        clear hr2
        go_wp2_with (first | (go_at_call 34; refine HP.out.mono ?_; rintro e w2 ⟨rfl, hb2⟩; have hbw2 := HBW.out.trans (hb2.mono HBW.out.size); have hr0 := (hbw2.block _ (lt_of_heap hb02)).trans hb02; obtain ⟨z0, z1, z2, z3, z4, z5, zf⟩ := six_cells hr0) | fail)
        have hr7 := HR7.out
        have hl := HL.out
        rw [parse1_bad l j hl (by omega) (by have h1 := HXJ.out; have h2 := HPP.out; unfold pe; rw [h1, h2]; exact HB2.out)] at hr7
        subst hr7
        exact parse_end rfl rfl (six_set hr0) rfl (six_below (HW1.out.trans (hbw2.mono HW1.out.size))) _ rfl rfl
    · have hjn' : j = l.length - 3 := by omega
      subst hjn'
      have q3 : ¬ ((l.length - 3 : Nat) : Int) < ((l.length - 3 : Nat) : Int) := by omega
      have HBW := Lib.hid hbw
      have HARR := Lib.hid harr
      have HERR := Lib.hid herr
      obtain ⟨x0, hx0⟩ : ∃ x0, l.getD 0 ByteArray.empty = x0 := ⟨_, rfl⟩
      obtain ⟨x1, hx1⟩ : ∃ x1, l.getD 1 ByteArray.empty = x1 := ⟨_, rfl⟩
      have hc0 := cell_later hbw (HCELL.out 0 (by omega))
      have hc1 := cell_later hbw (HCELL.out 1 (by omega))
      have hc2' := cell_later hbw (HCELL.out 2 (by omega))
      rw [hx0] at hc0
      rw [hx1] at hc1
      rw [HX2.out] at hc2'
      have hd0 := cell_of_cells harr 0
      have hd1 := cell_of_cells harr 1
      have hd2 := cell_of_cells harr 2
      obtain ⟨a0, ha0⟩ : ∃ a0, (if 0 < l.length - 3 then pn l 0 else 0) = a0 := ⟨_, rfl⟩
      obtain ⟨a1, ha1⟩ : ∃ a1, (if 1 < l.length - 3 then pn l 1 else 0) = a1 := ⟨_, rfl⟩
      obtain ⟨a2, ha2⟩ : ∃ a2, (if 2 < l.length - 3 then pn l 2 else 0) = a2 := ⟨_, rfl⟩
      have hd0' : wr.cell? ⟨w1.heap.size, 0, none⟩ = some (.int .i64 a0) := by rw [hd0, ← ha0]; rfl
      have hd1' : wr.cell? ⟨w1.heap.size, 1, none⟩ = some (.int .i64 a1) := by rw [hd1, ← ha1]; rfl
      have hd2' : wr.cell? ⟨w1.heap.size, 2, none⟩ = some (.int .i64 a2) := by rw [hd2, ← ha2]; rfl
      have HX0 := Lib.hid hx0
      have HX1 := Lib.hid hx1
      have HA0 := Lib.hid ha0
      have HA1 := Lib.hid ha1
      have HA2 := Lib.hid ha2
      clear hbw harr herr hx0 hx1 ha0 ha1 ha2 hd0 hd1 hd2 hc2
      obtain ⟨kd, hkd⟩ : ∃ kd, kindOf x1 = kd := ⟨_, rfl⟩
      have HKC := Lib.hid (fun w => toxic_Kind.calls 9 x1 kd w (by rw [← hkd]; exact kind_is x1 9 (by decide)))
      have HKD := Lib.hid hkd
      clear hkd
      have hb3' : True := trivial
      have n1 : wr.heap.size ≠ w.heap.size + 1 := World.new_ne wr _ hc0
      have n2 : wr.heap.size ≠ w1.heap.size := World.new_ne wr _ hd0'
      go_upto_region 13 with fail
      go_cut [10] (fun s10 wx => ∃ g : Nat, s10 = .pointer (some ⟨g, 0, none⟩) ∧ wx.heap[g]? = some (.cells #[.string x0, .int .i64 kd, .bool true, .int .i64 a0, .int .i64 a1, .int .i64 a2] 23 (0, 0)) ∧ Below wr.heap.size wr wx ∧ wr.heap.size ≤ g)
      case first =>
        have i0 : 0 < l.length := by have := HL.out; omega
        have i1 : (1 : Int) < (l.length : Int) := by omega
        have i2 : (2 : Int) < (l.length : Int) := by omega
        go_region_held3 (fun W => W.cell? ⟨w.heap.size + 1, 0, none⟩ = some (.string x0) ∧ W.cell? ⟨w.heap.size + 1, 1, none⟩ = some (.string x1) ∧ W.cell? ⟨w.heap.size + 1, 2, none⟩ = some (.string x2) ∧
            W.cell? ⟨w1.heap.size, 0, none⟩ = some (.int .i64 a0) ∧ W.cell? ⟨w1.heap.size, 1, none⟩ = some (.int .i64 a1) ∧ W.cell? ⟨w1.heap.size, 2, none⟩ = some (.int .i64 a2))
          (go_keep)
          (first | (go_at_call 22; refine (HKC.out _).mono ?_; rintro e w3 ⟨rfl, hb3⟩; obtain ⟨g0, g1, g2, g3, g4, g5⟩ := ‹_ ∧ _ ∧ _ ∧ _ ∧ _ ∧ _›; have k0 := cell_later hb3 g0; have k1 := cell_later hb3 g1; have k2 := cell_later hb3 g2; have k3 := cell_later hb3 g3; have k4 := cell_later hb3 g4; have k5 := cell_later hb3 g5; have n3 := World.new_ne w3 _ k0; have n4 := World.new_ne w3 _ k3; have hbq := below_undrew hb3; have HBR : Hid (Below wr.heap.size wr w3) := Lib.hid (by first | (with_reducible exact hbq) | (with_reducible exact ((Below.refl _ wr).alloc (Nat.le_refl _) _).trans (hbq.mono (by simp)))); clear hbq; have HAL := Lib.hid (heap_new w3); (try (have hzr := (hb3.block wr.heap.size (by simp)).trans (heap_new wr _); have zz := six_cells (W := w3) (B := wr.heap.size) hzr; obtain ⟨z0, z1, z2, z3, z4, z5, zf⟩ := zz; have HZR := Lib.hid hzr; clear hzr))))
        all_goals
          go_wp2_with fail
          go_meet
          refine ⟨_, rfl, ?_, ?_, ?_⟩
          · first
            | with_reducible exact HAL.out _
            | with_reducible exact six_set HZR.out
          · first
            | with_reducible exact fin_a HBR.out
            | with_reducible exact six_below_at HBR.out
          · first
            | with_reducible exact Nat.le_refl _
            | with_reducible exact HBR.out.size
      case rest =>
        obtain ⟨g, rfl, hg, hbx, hgl⟩ := hcut
        obtain ⟨y0, y1, y2, y3, y4, y5, yf⟩ := six_cells hg
        have hbw3 := (HBW.out.trans (hbx.mono HBW.out.size))
        have hres := (hbw3.block _ (lt_of_heap HB0.out)).trans HB0.out
        have HG := Lib.hid hg
        have HBX := Lib.hid hbw3
        have HRES := Lib.hid hres
        obtain ⟨nm, hnm⟩ : ∃ nm, numOf kd = nm := ⟨_, rfl⟩
        have HNM := Lib.hid (fun w => toxic_Numbers.calls kd nm w (by rw [← hnm]; exact numbers_is kd))
        have hnb : 0 ≤ nm ∧ nm ≤ 2 := by rw [← hnm]; unfold numOf; split <;> (try split) <;> omega
        obtain ⟨hn0, hn2⟩ := hnb
        have HN := Lib.hid hnm
        clear hg hbx hgl hbw3 hres hnm hc0 hc1 hc2' hd0' hd1' hd2' n1 n2
        have GOOD : Hid (parse1 l = parse2 l) := Lib.hid (parse1_good l HL.out hcon (by rw [HX2.out]; exact hway) HERR.out)
        by_cases hk0 : kd = 0
        · have qk : (kd == 0) = true := by simp [hk0]
          have HK0 := Lib.hid hk0
          clear hk0
          obtain ⟨z0, z1, z2, z3, z4, z5, zf⟩ := six_cells HRES.out
          go_wp2_with fail
          have hr7 := HR7.out
          rw [GOOD.out, parse2_noKind l (by rw [HX1.out, HKD.out]; exact HK0.out)] at hr7
          subst hr7
          exact parse_end rfl rfl (six_set HRES.out) rfl (six_below (HW1.out.trans (HBX.out.mono HW1.out.size))) _ rfl rfl
        · have qk : (kd == 0) = false := by simp [hk0]
          have HK0 := Lib.hid hk0
          clear hk0
          by_cases hln : (l.length : Int) = 4 + nm
          · have ql : ((l.length : Int) != 4 + nm) = false := by simp [hln]
            have hv0 : valsOf l 0 = a0 := by
              have hl := HL.out
              rw [vals_in l 0 (by omega), ← HA0.out, if_pos (by omega)]
            have hv1 : valsOf l 1 = a1 := by
              have hl := HL.out
              rw [vals_in l 1 (by omega), ← HA1.out, if_pos (by omega)]
            have hv2 : valsOf l 2 = a2 := by
              have hl := HL.out
              by_cases h2 : 2 < l.length - 3
              · rw [vals_in l 2 (by omega), ← HA2.out, if_pos h2]
              · rw [vals_out l 2 (by omega), ← HA2.out, if_neg h2]
            obtain ⟨ev, hev⟩ : ∃ ev, checkOf x0 kd true a0 a1 a2 = ev := ⟨_, rfl⟩
            have hpc := parse2_check l x0 kd true a0 a1 a2 ev (by rw [HX1.out, HKD.out]) HX0.out (by rw [HX2.out]; simp [← toList_eq_iff, hu]) HK0.out (by rw [HN.out]; exact hln) hv0 hv1 hv2 hev
            have HCC := Lib.hid (fun w => toxic_Check.calls x0 kd true a0 a1 a2 ev w (by rw [← hev]; exact check_is _ _ _ _ _ _))
            have hr7 := HR7.out
            rw [GOOD.out, hpc] at hr7
            have HR8 := Lib.hid hr7
            clear hpc hev hv0 hv1 hv2 hln hr7
            by_cases he0 : ev = 0
            · subst he0
              have hr8 := HR8.out
              rw [if_pos rfl] at hr8
              subst hr8
              go_wp2_with (first | (go_at_call 19; refine (HNM.out _).mono ?_; rintro e w4 ⟨rfl, hb4⟩; have hg4 := (hb4.block _ (lt_of_heap HG.out)).trans HG.out; obtain ⟨y0, y1, y2, y3, y4, y5, yf⟩ := six_cells hg4) | (go_at_call 10; refine (HCC.out _).mono ?_; rintro e w5 ⟨rfl, hb5⟩; have hg5 := (hb5.block _ (lt_of_heap hg4)).trans hg4; obtain ⟨yy0, yy1, yy2, yy3, yy4, yy5, yyf⟩ := six_cells hg5; have hr4 := (hb4.block _ (lt_of_heap HRES.out)).trans HRES.out; have hr5 := (hb5.block _ (lt_of_heap hr4)).trans hr4; obtain ⟨z0, z1, z2, z3, z4, z5, zf⟩ := six_cells hr5) | fail)
              have hbb := HW1.out.trans (HBX.out.mono HW1.out.size)
              have hbc := hbb.trans (hb4.mono hbb.size)
              exact parse_end rfl rfl (six_set hr5) rfl (six_below (hbc.trans (hb5.mono hbc.size))) _ rfl rfl
            · have qe : (ev != 0) = true := by simpa using he0
              have hr8 := HR8.out
              rw [if_neg he0] at hr8
              subst hr8
              clear he0
              go_wp2_with (first | (go_at_call 19; refine (HNM.out _).mono ?_; rintro e w4 ⟨rfl, hb4⟩; have hg4 := (hb4.block _ (lt_of_heap HG.out)).trans HG.out; obtain ⟨y0, y1, y2, y3, y4, y5, yf⟩ := six_cells hg4) | (go_at_call 10; refine (HCC.out _).mono ?_; rintro e w5 ⟨rfl, hb5⟩; have hr4 := (hb4.block _ (lt_of_heap HRES.out)).trans HRES.out; have hr5 := (hb5.block _ (lt_of_heap hr4)).trans hr4; obtain ⟨z0, z1, z2, z3, z4, z5, zf⟩ := six_cells hr5) | fail)
              have hbb := HW1.out.trans (HBX.out.mono HW1.out.size)
              have hbc := hbb.trans (hb4.mono hbb.size)
              exact parse_end rfl rfl (six_set hr5) rfl (six_below (hbc.trans (hb5.mono hbc.size))) _ rfl rfl
          · have ql : ((l.length : Int) != 4 + nm) = true := by simpa using hln
            have HLN := Lib.hid hln
            clear hln
            go_wp2_with (first | (go_at_call 19; refine (HNM.out _).mono ?_; rintro e w4 ⟨rfl, hb4⟩; have hr4 := (hb4.block _ (lt_of_heap HRES.out)).trans HRES.out; obtain ⟨z0, z1, z2, z3, z4, z5, zf⟩ := six_cells hr4) | fail)
            have hr7 := HR7.out
            rw [GOOD.out, parse2_noLen l (by rw [HX1.out, HKD.out, HN.out]; exact HLN.out)] at hr7
            subst hr7
            exact parse_end rfl rfl (six_set hr4) rfl (six_below ((HW1.out.trans (HBX.out.mono HW1.out.size)).trans (hb4.mono (HW1.out.trans (HBX.out.mono HW1.out.size)).size))) _ rfl rfl
end Go.Proofs.YtbdklgibiadikaaDoor.Tox

/- The contract of toxic.Parse: the way down. -/
set_option linter.unusedVariables false
set_option linter.unusedSimpArgs false
namespace Go.Proofs.YtbdklgibiadikaaDoor.Tox
open Go.RowKit Go.Shelf Go.Proofs.YtbdklgibiadikaaDoor.Ext Go.Proofs.YtbdklgibiadikaaDoor.PToxB Go.Proofs.YtbdklgibiadikaaDoorW.PrintWords Go.Proofs.YtbdklgibiadikaaDoorW.PrintLast
set_option maxHeartbeats 16000000 in
set_option maxRecDepth 100000 in
theorem parse_down (s : ByteArray) (w : World) (hs : s.size < 4294967281) (hl5 : ¬ (parts s).length < 5) (hl6 : ¬ 6 < (parts s).length) (hcon : Lib.containsS (parts s) ⟨#[]⟩ = false) (hu : (((parts s).getD 2 ByteArray.empty).toList == [117, 112]) = false) (hd : ((parts s).getD 2 ByteArray.empty).toList = [100, 111, 119, 110]) :
    Calls Tryd.prog 17 #[.string s] w fun e w' => e = .returned (tup7 (parseOf s)) ∧ Below w.heap.size w w' := by
  have HS := Lib.hid (fun w => split_walk s w hs)
  unfold parseOf
  obtain ⟨l, hpl⟩ : ∃ l, parts s = l := ⟨_, rfl⟩
  rw [hpl] at HS hl5 hl6 hcon hu hd
  rw [hpl]
  have hw1 : Below w.heap.size w ((w.alloc (Obj.cells #[Value.string { data := #[] }, Value.int IntKind.i64 0, Value.bool false, Value.int IntKind.i64 0, Value.int IntKind.i64 0, Value.int IntKind.i64 0] 23)).alloc (Obj.cells (List.map Value.string l).toArray 9)) :=
    ((Below.refl _ w).alloc (Nat.le_refl _) _).alloc (by simp) _
  have hb := heap_two w (Obj.cells #[Value.string { data := #[] }, Value.int IntKind.i64 0, Value.bool false, Value.int IntKind.i64 0, Value.int IntKind.i64 0, Value.int IntKind.i64 0] 23) (Obj.cells (List.map Value.string l).toArray 9)
  obtain ⟨w1, hw1e⟩ : ∃ w1, (w.alloc (Obj.cells #[Value.string { data := #[] }, Value.int IntKind.i64 0, Value.bool false, Value.int IntKind.i64 0, Value.int IntKind.i64 0, Value.int IntKind.i64 0] 23)).alloc (Obj.cells (List.map Value.string l).toArray 9) = w1 := ⟨_, rfl⟩
  rw [hw1e] at hw1 hb
  obtain ⟨hb0, hb1⟩ := hb
  have hcell : ∀ j, j < l.length → w1.cell? ⟨w.heap.size + 1, j, none⟩ = some (.string (l.getD j ByteArray.empty)) := by
    intro j hj
    simp [World.cell?, hb1, hj]
  have HCON := Lib.hid (fun x => Tryd.slices_Contains_string (w.heap.size + 1) 0 l.length l.length l x w1 (Nat.le_refl _) (by omega) (fun j hj => by rw [Nat.zero_add]; exact hcell j hj))
  rw [List.take_length] at HCON
  have q1 : ¬ (l.length : Int) < 5 := by omega
  have q2 : ¬ (6 : Int) < (l.length : Int) := by omega
  have hc2 := hcell 2 (by omega)
  obtain ⟨x2, hx2⟩ : ∃ x2, l.getD 2 ByteArray.empty = x2 := ⟨_, rfl⟩
  rw [hx2] at hc2 hu hd
  have HX2 := Lib.hid hx2
  have HB0 := Lib.hid hb0
  have HB1 := Lib.hid hb1
  have HW1 := Lib.hid hw1
  have HCELL := Lib.hid hcell
  have HL := Lib.hid (And.intro hl5 hl6)
  obtain ⟨r7, hr7⟩ : ∃ r7, parse1 l = r7 := ⟨_, rfl⟩
  rw [hr7]
  have HR7 := Lib.hid hr7
  clear hpl hs hx2 hb0 hb1 hw1 hcell hl5 hl6 hr7
  go_enter Tryd.func17, Tryd.ntmps17
  rw [show (⟨#[]⟩ : ByteArray) = { data := #[] } from rfl] at hcon
  have hway := way_down hd
  go_wp2_with (first | (go_at_call 32; refine (HS.out _).mono ?_; rintro e w1 ⟨rfl, rfl⟩; rw [hw1e]; skip) | (go_at_call 33; refine (HCON.out _).mono ?_; rintro e w1 ⟨rfl, rfl⟩) | fail)
  go_loopw [43] (fun jv wr => PR l w1 (l.length - 3) jv wr) (fun jv _ => l.length - (intOf jv).toNat)
  case atStart => exact ⟨0, rfl, Nat.zero_le _, (Below.refl _ w1).alloc (Nat.le_refl _) _, heap_new w1 _, fun i hi => absurd hi (Nat.not_lt_zero _)⟩
  case round =>
    obtain ⟨j, rfl, hj, hbw, harr, herr⟩ := hrel
    by_cases hjn : j < l.length - 3
    · have hj' := hbw
      have q3 : (j : Int) < ((l.length - 3 : Nat) : Int) := by omega
      have hcj := cell_later hbw (HCELL.out (3 + j) (by omega))
      have HBW := Lib.hid hbw
      have HARR := Lib.hid harr
      have HERR := Lib.hid herr
      clear hbw harr herr hj'
      obtain ⟨xj, hxj⟩ : ∃ xj, l.getD (3 + j) ByteArray.empty = xj := ⟨_, rfl⟩
      rw [hxj] at hcj
      obtain ⟨r1, r2, hp⟩ : ∃ r1 r2, tickParse xj = (r1, r2) := ⟨_, _, rfl⟩
      have HP := Lib.hid (tick_Parse.calls xj r1 r2 wr (by rw [tick_Parse.f, hp]))
      have HXJ := Lib.hid hxj
      have HPP := Lib.hid hp
      clear hxj hp
      by_cases hr2 : r2 = 0
      · subst hr2
        have hj3 : j < 3 := by have := HL.out; omega
        have q5 : (j : Int) < 3 := by omega
        have htc := three_cell l j hj3
        have HTC := Lib.hid htc
        clear htc
        go_wp2_with (first | (go_at_call 34; refine HP.out.mono ?_; rintro e w2 ⟨rfl, hb2⟩; have hbw2 := HBW.out.trans (hb2.mono HBW.out.size); have hr0 := (hb2.block _ (lt_of_heap HARR.out)).trans HARR.out; have hcj2 := (cell_of_cells hr0 j).trans HTC.out; have hfj := free_of_cells hr0 j; have HR0 := Lib.hid hr0; clear hr0) | fail)
        go_roundw
        case measure => simp [intOf]; omega
        · have h1 := HXJ.out
          have h2 := HPP.out
          refine ⟨j + 1, rfl, by omega, hbw2.setCell (Nat.le_refl _) _, ?_, ?_⟩
          · rw [← three_next l j hj3, show pn l j = r1 by unfold pn; rw [h1, h2]]
            exact heap_set_eq _ _ HR0.out
          · intro i hi
            by_cases hij : i = j
            · subst hij; unfold pe; rw [h1, h2]
            · exact HERR.out i (by omega)
      · have q4 : (r2 != 0) = true := by simpa using hr2
        have hb02 := HB0.out
        have HB2 := Lib.hid hr2
        clear hr2
        go_wp2_with (first | (go_at_call 34; refine HP.out.mono ?_; rintro e w2 ⟨rfl, hb2⟩; have hbw2 := HBW.out.trans (hb2.mono HBW.out.size); have hr0 := (hbw2.block _ (lt_of_heap hb02)).trans hb02; obtain ⟨z0, z1, z2, z3, z4, z5, zf⟩ := six_cells hr0) | fail)
        have hr7 := HR7.out
        have hl := HL.out
        rw [parse1_bad l j hl (by omega) (by have h1 := HXJ.out; have h2 := HPP.out; unfold pe; rw [h1, h2]; exact HB2.out)] at hr7
        subst hr7
        exact parse_end rfl rfl (six_set hr0) rfl (six_below (HW1.out.trans (hbw2.mono HW1.out.size))) _ rfl rfl
    · have hjn' : j = l.length - 3 := by omega
      subst hjn'
      have q3 : ¬ ((l.length - 3 : Nat) : Int) < ((l.length - 3 : Nat) : Int) := by omega
      have HBW := Lib.hid hbw
      have HARR := Lib.hid harr
      have HERR := Lib.hid herr
      obtain ⟨x0, hx0⟩ : ∃ x0, l.getD 0 ByteArray.empty = x0 := ⟨_, rfl⟩
      obtain ⟨x1, hx1⟩ : ∃ x1, l.getD 1 ByteArray.empty = x1 := ⟨_, rfl⟩
      have hc0 := cell_later hbw (HCELL.out 0 (by omega))
      have hc1 := cell_later hbw (HCELL.out 1 (by omega))
      have hc2' := cell_later hbw (HCELL.out 2 (by omega))
      rw [hx0] at hc0
      rw [hx1] at hc1
      rw [HX2.out] at hc2'
      have hd0 := cell_of_cells harr 0
      have hd1 := cell_of_cells harr 1
      have hd2 := cell_of_cells harr 2
      obtain ⟨a0, ha0⟩ : ∃ a0, (if 0 < l.length - 3 then pn l 0 else 0) = a0 := ⟨_, rfl⟩
      obtain ⟨a1, ha1⟩ : ∃ a1, (if 1 < l.length - 3 then pn l 1 else 0) = a1 := ⟨_, rfl⟩
      obtain ⟨a2, ha2⟩ : ∃ a2, (if 2 < l.length - 3 then pn l 2 else 0) = a2 := ⟨_, rfl⟩
      have hd0' : wr.cell? ⟨w1.heap.size, 0, none⟩ = some (.int .i64 a0) := by rw [hd0, ← ha0]; rfl
      have hd1' : wr.cell? ⟨w1.heap.size, 1, none⟩ = some (.int .i64 a1) := by rw [hd1, ← ha1]; rfl
      have hd2' : wr.cell? ⟨w1.heap.size, 2, none⟩ = some (.int .i64 a2) := by rw [hd2, ← ha2]; rfl
      have HX0 := Lib.hid hx0
      have HX1 := Lib.hid hx1
      have HA0 := Lib.hid ha0
      have HA1 := Lib.hid ha1
      have HA2 := Lib.hid ha2
      clear hbw harr herr hx0 hx1 ha0 ha1 ha2 hd0 hd1 hd2 hc2
      obtain ⟨kd, hkd⟩ : ∃ kd, kindOf x1 = kd := ⟨_, rfl⟩
      have HKC := Lib.hid (fun w => toxic_Kind.calls 9 x1 kd w (by rw [← hkd]; exact kind_is x1 9 (by decide)))
      have HKD := Lib.hid hkd
      clear hkd
      have hb3' : True := trivial
      have n1 : wr.heap.size ≠ w.heap.size + 1 := World.new_ne wr _ hc0
      have n2 : wr.heap.size ≠ w1.heap.size := World.new_ne wr _ hd0'
      go_upto_region 13 with fail
      go_cut [10] (fun s10 wx => ∃ g : Nat, s10 = .pointer (some ⟨g, 0, none⟩) ∧ wx.heap[g]? = some (.cells #[.string x0, .int .i64 kd, .bool false, .int .i64 a0, .int .i64 a1, .int .i64 a2] 23 (0, 0)) ∧ Below wr.heap.size wr wx ∧ wr.heap.size ≤ g)
      case first =>
        have i0 : 0 < l.length := by have := HL.out; omega
        have i1 : (1 : Int) < (l.length : Int) := by omega
        have i2 : (2 : Int) < (l.length : Int) := by omega
        go_region_held3 (fun W => W.cell? ⟨w.heap.size + 1, 0, none⟩ = some (.string x0) ∧ W.cell? ⟨w.heap.size + 1, 1, none⟩ = some (.string x1) ∧ W.cell? ⟨w.heap.size + 1, 2, none⟩ = some (.string x2) ∧
            W.cell? ⟨w1.heap.size, 0, none⟩ = some (.int .i64 a0) ∧ W.cell? ⟨w1.heap.size, 1, none⟩ = some (.int .i64 a1) ∧ W.cell? ⟨w1.heap.size, 2, none⟩ = some (.int .i64 a2))
          (go_keep)
          (first | (go_at_call 22; refine (HKC.out _).mono ?_; rintro e w3 ⟨rfl, hb3⟩; obtain ⟨g0, g1, g2, g3, g4, g5⟩ := ‹_ ∧ _ ∧ _ ∧ _ ∧ _ ∧ _›; have k0 := cell_later hb3 g0; have k1 := cell_later hb3 g1; have k2 := cell_later hb3 g2; have k3 := cell_later hb3 g3; have k4 := cell_later hb3 g4; have k5 := cell_later hb3 g5; have n3 := World.new_ne w3 _ k0; have n4 := World.new_ne w3 _ k3; have hbq := below_undrew hb3; have HBR : Hid (Below wr.heap.size wr w3) := Lib.hid (by first | (with_reducible exact hbq) | (with_reducible exact ((Below.refl _ wr).alloc (Nat.le_refl _) _).trans (hbq.mono (by simp)))); clear hbq; have HAL := Lib.hid (heap_new w3); (try (have hzr := (hb3.block wr.heap.size (by simp)).trans (heap_new wr _); have zz := six_cells (W := w3) (B := wr.heap.size) hzr; obtain ⟨z0, z1, z2, z3, z4, z5, zf⟩ := zz; have HZR := Lib.hid hzr; clear hzr))))
        all_goals
          go_wp2_with fail
          go_meet
          refine ⟨_, rfl, ?_, ?_, ?_⟩
          · first
            | with_reducible exact HAL.out _
            | with_reducible exact six_set HZR.out
          · first
            | with_reducible exact fin_a HBR.out
            | with_reducible exact six_below_at HBR.out
          · first
            | with_reducible exact Nat.le_refl _
            | with_reducible exact HBR.out.size
      case rest =>
        obtain ⟨g, rfl, hg, hbx, hgl⟩ := hcut
        obtain ⟨y0, y1, y2, y3, y4, y5, yf⟩ := six_cells hg
        have hbw3 := (HBW.out.trans (hbx.mono HBW.out.size))
        have hres := (hbw3.block _ (lt_of_heap HB0.out)).trans HB0.out
        have HG := Lib.hid hg
        have HBX := Lib.hid hbw3
        have HRES := Lib.hid hres
        obtain ⟨nm, hnm⟩ : ∃ nm, numOf kd = nm := ⟨_, rfl⟩
        have HNM := Lib.hid (fun w => toxic_Numbers.calls kd nm w (by rw [← hnm]; exact numbers_is kd))
        have hnb : 0 ≤ nm ∧ nm ≤ 2 := by rw [← hnm]; unfold numOf; split <;> (try split) <;> omega
        obtain ⟨hn0, hn2⟩ := hnb
        have HN := Lib.hid hnm
        clear hg hbx hgl hbw3 hres hnm hc0 hc1 hc2' hd0' hd1' hd2' n1 n2
        have GOOD : Hid (parse1 l = parse2 l) := Lib.hid (parse1_good l HL.out hcon (by rw [HX2.out]; exact hway) HERR.out)
        by_cases hk0 : kd = 0
        · have qk : (kd == 0) = true := by simp [hk0]
          have HK0 := Lib.hid hk0
          clear hk0
          obtain ⟨z0, z1, z2, z3, z4, z5, zf⟩ := six_cells HRES.out
          go_wp2_with fail
          have hr7 := HR7.out
          rw [GOOD.out, parse2_noKind l (by rw [HX1.out, HKD.out]; exact HK0.out)] at hr7
          subst hr7
          exact parse_end rfl rfl (six_set HRES.out) rfl (six_below (HW1.out.trans (HBX.out.mono HW1.out.size))) _ rfl rfl
        · have qk : (kd == 0) = false := by simp [hk0]
          have HK0 := Lib.hid hk0
          clear hk0
          by_cases hln : (l.length : Int) = 4 + nm
          · have ql : ((l.length : Int) != 4 + nm) = false := by simp [hln]
            have hv0 : valsOf l 0 = a0 := by
              have hl := HL.out
              rw [vals_in l 0 (by omega), ← HA0.out, if_pos (by omega)]
            have hv1 : valsOf l 1 = a1 := by
              have hl := HL.out
              rw [vals_in l 1 (by omega), ← HA1.out, if_pos (by omega)]
            have hv2 : valsOf l 2 = a2 := by
              have hl := HL.out
              by_cases h2 : 2 < l.length - 3
              · rw [vals_in l 2 (by omega), ← HA2.out, if_pos h2]
              · rw [vals_out l 2 (by omega), ← HA2.out, if_neg h2]
            obtain ⟨ev, hev⟩ : ∃ ev, checkOf x0 kd false a0 a1 a2 = ev := ⟨_, rfl⟩
            have hpc := parse2_check l x0 kd false a0 a1 a2 ev (by rw [HX1.out, HKD.out]) HX0.out (by rw [HX2.out]; simp only [decide_eq_false_iff_not]; intro hx; rw [hx] at hd; exact absurd hd (by rw [ByteArray.toList_eq]; decide)) HK0.out (by rw [HN.out]; exact hln) hv0 hv1 hv2 hev
            have HCC := Lib.hid (fun w => toxic_Check.calls x0 kd false a0 a1 a2 ev w (by rw [← hev]; exact check_is _ _ _ _ _ _))
            have hr7 := HR7.out
            rw [GOOD.out, hpc] at hr7
            have HR8 := Lib.hid hr7
            clear hpc hev hv0 hv1 hv2 hln hr7
            by_cases he0 : ev = 0
            · subst he0
              have hr8 := HR8.out
              rw [if_pos rfl] at hr8
              subst hr8
              go_wp2_with (first | (go_at_call 19; refine (HNM.out _).mono ?_; rintro e w4 ⟨rfl, hb4⟩; have hg4 := (hb4.block _ (lt_of_heap HG.out)).trans HG.out; obtain ⟨y0, y1, y2, y3, y4, y5, yf⟩ := six_cells hg4) | (go_at_call 10; refine (HCC.out _).mono ?_; rintro e w5 ⟨rfl, hb5⟩; have hg5 := (hb5.block _ (lt_of_heap hg4)).trans hg4; obtain ⟨yy0, yy1, yy2, yy3, yy4, yy5, yyf⟩ := six_cells hg5; have hr4 := (hb4.block _ (lt_of_heap HRES.out)).trans HRES.out; have hr5 := (hb5.block _ (lt_of_heap hr4)).trans hr4; obtain ⟨z0, z1, z2, z3, z4, z5, zf⟩ := six_cells hr5) | fail)
              have hbb := HW1.out.trans (HBX.out.mono HW1.out.size)
              have hbc := hbb.trans (hb4.mono hbb.size)
              exact parse_end rfl rfl (six_set hr5) rfl (six_below (hbc.trans (hb5.mono hbc.size))) _ rfl rfl
            · have qe : (ev != 0) = true := by simpa using he0
              have hr8 := HR8.out
              rw [if_neg he0] at hr8
              subst hr8
              clear he0
              go_wp2_with (first | (go_at_call 19; refine (HNM.out _).mono ?_; rintro e w4 ⟨rfl, hb4⟩; have hg4 := (hb4.block _ (lt_of_heap HG.out)).trans HG.out; obtain ⟨y0, y1, y2, y3, y4, y5, yf⟩ := six_cells hg4) | (go_at_call 10; refine (HCC.out _).mono ?_; rintro e w5 ⟨rfl, hb5⟩; have hr4 := (hb4.block _ (lt_of_heap HRES.out)).trans HRES.out; have hr5 := (hb5.block _ (lt_of_heap hr4)).trans hr4; obtain ⟨z0, z1, z2, z3, z4, z5, zf⟩ := six_cells hr5) | fail)
              have hbb := HW1.out.trans (HBX.out.mono HW1.out.size)
              have hbc := hbb.trans (hb4.mono hbb.size)
              exact parse_end rfl rfl (six_set hr5) rfl (six_below (hbc.trans (hb5.mono hbc.size))) _ rfl rfl
          · have ql : ((l.length : Int) != 4 + nm) = true := by simpa using hln
            have HLN := Lib.hid hln
            clear hln
            go_wp2_with (first | (go_at_call 19; refine (HNM.out _).mono ?_; rintro e w4 ⟨rfl, hb4⟩; have hr4 := (hb4.block _ (lt_of_heap HRES.out)).trans HRES.out; obtain ⟨z0, z1, z2, z3, z4, z5, zf⟩ := six_cells hr4) | fail)
            have hr7 := HR7.out
            rw [GOOD.out, parse2_noLen l (by rw [HX1.out, HKD.out, HN.out]; exact HLN.out)] at hr7
            subst hr7
            exact parse_end rfl rfl (six_set hr4) rfl (six_below ((HW1.out.trans (HBX.out.mono HW1.out.size)).trans (hb4.mono (HW1.out.trans (HBX.out.mono HW1.out.size)).size))) _ rfl rfl
end Go.Proofs.YtbdklgibiadikaaDoor.Tox

/- The contracts of package toxic, each with one total function. -/
set_option linter.unusedVariables false
set_option linter.unusedSimpArgs false
namespace Go.Proofs.YtbdklgibiadikaaDoor.ToxZ
open Go.RowKit Go.Proofs.YtbdklgibiadikaaDoor.Tox

theorem parse_all (s : ByteArray) (w : World) (hs : s.size < 4294967281) :
    Calls Tryd.prog 17 #[.string s] w fun e w' => e = .returned (tup7 (parseOf s)) ∧ Below w.heap.size w w' := by
  by_cases hl : (Ext.parts s).length < 5 ∨ 6 < (Ext.parts s).length
  · have := parse_short s w hs hl
    rw [show parseOf s = bad7 90 by unfold parseOf parse1; rw [if_pos hl]]
    exact this
  · have h5 : ¬ (Ext.parts s).length < 5 := by omega
    have h6 : ¬ 6 < (Ext.parts s).length := by omega
    cases hc : Lib.containsS (Ext.parts s) ⟨#[]⟩
    · cases hu : (((Ext.parts s).getD 2 ByteArray.empty).toList == [117, 112])
      · cases hd : (((Ext.parts s).getD 2 ByteArray.empty).toList == [100, 111, 119, 110])
        · exact parse_way s w hs h5 h6 hc hu hd
        · exact parse_down s w hs h5 h6 hc hu (beq_iff_eq.1 hd)
      · exact parse_up s w hs h5 h6 hc (beq_iff_eq.1 hu)
    · exact parse_con s w hs h5 h6 hc

def toxic_Parse.f (a0 : ByteArray) : Option (ByteArray × Int × Bool × Int × Int × Int × Int) := if a0.size < 4294967281 then some (parseOf a0) else none
theorem toxic_Parse.calls (a0 : ByteArray) (r1 : ByteArray) (r2 : Int) (r3 : Bool) (r4 : Int) (r5 : Int) (r6 : Int) (r7 : Int) (w : World) (h : toxic_Parse.f a0 = some (r1, r2, r3, r4, r5, r6, r7)) :
    Calls Tryd.prog 17 #[.string a0] w fun e w' => e = .returned (.tuple #[.agg #[.string r1, .int .i64 r2, .bool r3, .int .i64 r4, .int .i64 r5, .int .i64 r6], .int .i64 r7]) ∧ Below w.heap.size w w' := by
  unfold toxic_Parse.f at h
  split at h
  · rename_i hs
    have := parse_all a0 w hs
    rw [Option.some.inj h] at this
    exact this
  · cases h
def toxic_Word.f (a0 : Int) : Option ByteArray := some (wordOf a0)
theorem toxic_Word.calls (a0 : Int) (r : ByteArray) (w : World) (h : toxic_Word.f a0 = some r) :
    Calls Tryd.prog 20 #[.int .i64 a0] w fun e w' => e = .returned (.string r) ∧ Below w.heap.size w w' :=
  PToxB.toxic_Word.calls a0 r w (by rw [word_is]; exact h)
def toxic_Numbers.f (a0 : Int) : Option Int := some (numOf a0)
theorem toxic_Numbers.calls (a0 : Int) (r : Int) (w : World) (h : toxic_Numbers.f a0 = some r) :
    Calls Tryd.prog 19 #[.int .i64 a0] w fun e w' => e = .returned (.int .i64 r) ∧ Below w.heap.size w w' :=
  PToxB.toxic_Numbers.calls a0 r w (by rw [numbers_is]; exact h)
def toxic_Kind.f (a0 : ByteArray) : Option Int := some (kindOf a0)
theorem toxic_Kind.calls (a0 : ByteArray) (r : Int) (w : World) (h : toxic_Kind.f a0 = some r) :
    Calls Tryd.prog 22 #[.string a0] w fun e w' => e = .returned (.int .i64 r) ∧ Below w.heap.size w w' :=
  PToxB.toxic_Kind.calls 9 a0 r w (by rw [kind_is a0 9 (by decide)]; exact h)
def toxic_Check.f (a0_0 : ByteArray) (a0_1 : Int) (a0_2 : Bool) (a0_3 a0_4 a0_5 : Int) : Option Int := some (checkOf a0_0 a0_1 a0_2 a0_3 a0_4 a0_5)
theorem toxic_Check.calls (a0_0 : ByteArray) (a0_1 : Int) (a0_2 : Bool) (a0_3 : Int) (a0_4 : Int) (a0_5 : Int) (r : Int) (w : World) (h : toxic_Check.f a0_0 a0_1 a0_2 a0_3 a0_4 a0_5 = some r) :
    Calls Tryd.prog 10 #[.agg #[.string a0_0, .int .i64 a0_1, .bool a0_2, .int .i64 a0_3, .int .i64 a0_4, .int .i64 a0_5]] w fun e w' => e = .returned (.int .i64 r) ∧ Below w.heap.size w w' :=
  PToxB.toxic_Check.calls a0_0 a0_1 a0_2 a0_3 a0_4 a0_5 r w (by rw [check_is]; exact h)
def toxic_Right.f (a0_0 : ByteArray) (a0_1 : Int) (a0_2 : Bool) (a0_3 a0_4 a0_5 : Int) : Option Bool := some (checkOf a0_0 a0_1 a0_2 a0_3 a0_4 a0_5 == 0)
theorem toxic_Right.calls (a0_0 : ByteArray) (a0_1 : Int) (a0_2 : Bool) (a0_3 : Int) (a0_4 : Int) (a0_5 : Int) (r : Bool) (w : World) (h : toxic_Right.f a0_0 a0_1 a0_2 a0_3 a0_4 a0_5 = some r) :
    Calls Tryd.prog 12 #[.agg #[.string a0_0, .int .i64 a0_1, .bool a0_2, .int .i64 a0_3, .int .i64 a0_4, .int .i64 a0_5]] w fun e w' => e = .returned (.bool r) ∧ Below w.heap.size w w' :=
  PToxB.toxic_Right.calls a0_0 a0_1 a0_2 a0_3 a0_4 a0_5 r w (by rw [right_is]; exact h)
def toxic_Text.f (a0_0 : ByteArray) (a0_1 : Int) (a0_2 : Bool) (a0_3 a0_4 a0_5 : Int) : Option ByteArray := some (textOf a0_0 a0_1 a0_2 a0_3 a0_4 a0_5)
theorem toxic_Text.calls (a0_0 : ByteArray) (a0_1 : Int) (a0_2 : Bool) (a0_3 : Int) (a0_4 : Int) (a0_5 : Int) (r : ByteArray) (w : World) (h : toxic_Text.f a0_0 a0_1 a0_2 a0_3 a0_4 a0_5 = some r) :
    Calls Tryd.prog 13 #[.agg #[.string a0_0, .int .i64 a0_1, .bool a0_2, .int .i64 a0_3, .int .i64 a0_4, .int .i64 a0_5]] w fun e w' => e = .returned (.string r) ∧ Below w.heap.size w w' :=
  PToxB.toxic_Text.calls a0_0 a0_1 a0_2 a0_3 a0_4 a0_5 r w (by rw [text_is]; exact h)
end Go.Proofs.YtbdklgibiadikaaDoor.ToxZ
