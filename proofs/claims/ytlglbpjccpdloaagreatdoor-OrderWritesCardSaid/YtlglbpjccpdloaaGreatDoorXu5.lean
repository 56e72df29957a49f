/- Gathered by a program of this session (shake.py): what the claim's theorem needs. -/
import Derived.Test.YtlglbpjccpdloaaGreatDoorXu0
import Derived.Test.YtlglbpjccpdloaaGreatDoorXu1
import Derived.Test.YtlglbpjccpdloaaGreatDoorXu2
import Derived.Test.YtlglbpjccpdloaaGreatDoorXu3
import Derived.Test.YtlglbpjccpdloaaGreatDoorXu4
import Derived.Below
import Derived.Deep.Draws
import Derived.Deep.AppendLies
import Derived.Maps.AppendAt
import Derived.OwnWalk
import Derived.Laws.BytesArg
import Derived.Laws.MakeOwn
import Derived.Laws.OwnMore
import Derived.Deep.OwnRows
import Derived.Tactics
import Derived.Lib.ConvBytes
import Derived.Laws.Slices
import Derived.WalkKit
import Derived.KernelRfl
import Derived.RowKit3
import Derived.Deep.LoopGhost
import Derived.Deep.QuietTactic
import Derived.BigQuiet
import Derived.WideLaws
import Derived.Deep.DeepCutAuto
import Derived.Deep.CutBlock
import Derived.Deep.RegionHeld3
import Derived.Laws.Rows
import Derived.Lib.AppendStr
import Derived.ArgAppend
import Derived.Laws.IdiomCopy
import Derived.OrdersHeld
import Derived.Laws.BitsLemmas
import Derived.RowKit
import Derived.Test.YtlglbpjccpdloaaGreatDoorProg
set_option linter.unusedVariables false
set_option linter.unusedSimpArgs false
namespace Go.Proofs.YtlglbpjccpdloaaGreatDoor.Ext
end Go.Proofs.YtlglbpjccpdloaaGreatDoor.Ext
namespace Go.Proofs.YtlglbpjccpdloaaGreatDoor.PToxB
end Go.Proofs.YtlglbpjccpdloaaGreatDoor.PToxB
namespace Go.Proofs.YtlglbpjccpdloaaGreatDoor.PWrdA
end Go.Proofs.YtlglbpjccpdloaaGreatDoor.PWrdA
namespace Go.Proofs.YtlglbpjccpdloaaGreatDoor.Tox
end Go.Proofs.YtlglbpjccpdloaaGreatDoor.Tox
namespace Go.Proofs.YtlglbpjccpdloaaGreatDoor.ToxZ
end Go.Proofs.YtlglbpjccpdloaaGreatDoor.ToxZ
namespace Go.Proofs.YtlglbpjccpdloaaGreatDoorW.PrintLast
end Go.Proofs.YtlglbpjccpdloaaGreatDoorW.PrintLast
namespace Go.Proofs.YtlglbpjccpdloaaGreatDoorW.PrintMore
end Go.Proofs.YtlglbpjccpdloaaGreatDoorW.PrintMore
namespace Go.Proofs.YtlglbpjccpdloaaGreatDoorW.PrintWords
end Go.Proofs.YtlglbpjccpdloaaGreatDoorW.PrintWords
set_option linter.unusedVariables false
set_option linter.unusedSimpArgs false
namespace Go.Proofs.YtlglbpjccpdloaaGreatDoor.Tox
open Go.RowKit Go.Shelf Go.Proofs.YtlglbpjccpdloaaGreatDoor.Ext Go.Proofs.YtlglbpjccpdloaaGreatDoor.PToxB Go.Proofs.YtlglbpjccpdloaaGreatDoorW.PrintWords Go.Proofs.YtlglbpjccpdloaaGreatDoorW.PrintLast
abbrev Res7 := ByteArray × Int × Bool × Int × Int × Int × Int
def bad7 (e : Int) : Res7 := (⟨#[]⟩, 0, false, 0, 0, 0, e)
def valsOf (l : List ByteArray) (i : Nat) : Int := ((l.drop 3)[i]?.map fun x => (tickParse x).1).getD 0
def parse2 (l : List ByteArray) : Res7 :=
  let k := kindOf (l.getD 1 ByteArray.empty)
  if k = 0 ∨ (l.length : Int) ≠ 4 + numOf k then bad7 91
  else
    let n := l.getD 0 ByteArray.empty
    let up := decide (l.getD 2 ByteArray.empty = ⟨#[117, 112]⟩)
    let e := checkOf n k up (valsOf l 0) (valsOf l 1) (valsOf l 2)
    if e = 0 then (n, k, up, valsOf l 0, valsOf l 1, valsOf l 2, 0) else bad7 e
def wayBad (x : ByteArray) : Bool := decide (x ≠ ⟨#[117, 112]⟩) && decide (x ≠ ⟨#[100, 111, 119, 110]⟩)
def parse1 (l : List ByteArray) : Res7 :=
  if l.length < 5 ∨ 6 < l.length then bad7 90
  else if Lib.containsS l ⟨#[]⟩ then bad7 90
  else if wayBad (l.getD 2 ByteArray.empty) then bad7 90
  else if (l.drop 3).all fun x => (tickParse x).2 == 0 then parse2 l else bad7 90
def parseOf (s : ByteArray) : Res7 := parse1 (parts s)
def tup7 (r : Res7) : Value := .tuple #[.agg #[.string r.1, .int .i64 r.2.1, .bool r.2.2.1, .int .i64 r.2.2.2.1, .int .i64 r.2.2.2.2.1, .int .i64 r.2.2.2.2.2.1], .int .i64 r.2.2.2.2.2.2]
theorem results_ct {P : Program} {fn : Func} {tmps : Array Value} {W : World} {p q : Tmp} {ty : TypeId} {g : Nat} {t : TypeId} {cs : Array Value} {fr : Nat × Nat} {d : TypeDesc} (h : fn.results = #[.cell p ty, .tmp q]) (hp : tmps.getD p undef = .pointer (some ⟨g, 0, none⟩))
    (hg : W.heap[g]? = some (.cells cs t fr)) (hu : P.underlying ty = some d) (hd : (match d with | .struct _ | .array _ _ => true | _ => false) = true) (hi : (P.info? ty).map (·.size) = some cs.size) : (results fn tmps).run P W = .ok (.tuple #[.agg cs, tmps.getD q undef]) W := by
  unfold results
  rw [h, show (#[ResultVar.cell p ty, ResultVar.tmp q]) = [ResultVar.cell p ty, ResultVar.tmp q].toArray from rfl, List.mapM_toArray]
  have hp' : tmps[p]?.getD undef = .pointer (some ⟨g, 0, none⟩) := by simpa using hp
  simp [List.mapM_cons, hp', asAddr, run_loadVar_row W g t ty cs fr d hg hu hd hi]
theorem parse_end {tmps : Array Value} {W : World} {w : World} {cs : Array Value} {e : Value} {df : List Deferred} (hp : tmps.getD 2 undef = .pointer (some ⟨w.heap.size, 0, none⟩)) (he : tmps.getD 3 undef = e)
    (hg : W.heap[w.heap.size]? = some (.cells cs 25 (0, 0))) (hz : cs.size = 6) (hb : Below w.heap.size w W) (r : Res7) (hr : tup7 r = .tuple #[.agg cs, e]) (hdf : df = []) :
    bodyPost Tryz.prog Tryz.f51 (fun e w' => e = Ending.returned (tup7 r) ∧ Below w.heap.size w w') Exit.ret { tmps := tmps, defers := df } W := by
  subst hdf
  refine bodyPost_ret (v := .tuple #[.agg cs, e]) ?_ rfl ⟨by rw [hr], hb⟩
  rw [← he]
  exact results_ct rfl hp hg Tryz.underlying25 rfl (by rw [hz]; kernel_rfl)
theorem parse_short (s : ByteArray) (w : World) (hs : s.size < 4294967281) (hl : (parts s).length < 5 ∨ 6 < (parts s).length) :
    Calls Tryz.prog 51 #[.string s] w fun e w' => e = .returned (tup7 (bad7 90)) ∧ Below w.heap.size w w' := by
  have HS := Lib.hid (fun w => split_walk s w hs)
  obtain ⟨l, hpl⟩ : ∃ l, parts s = l := ⟨_, rfl⟩
  rw [hpl] at HS hl
  clear hpl hs
  rcases hl with h | h
  · have q1 : (l.length : Int) < 5 := by omega
    clear h
    go_enter Tryz.func51, Tryz.ntmps51
    go_wp2_with (first | (go_at_call 75; refine (HS.out _).mono ?_; rintro e w1 ⟨rfl, rfl⟩) | fail)
    exact parse_end rfl rfl (heap_two w _ _).1 rfl (((Below.refl _ w).alloc (Nat.le_refl _) _).alloc (by simp) _) _ rfl rfl
  · have q1 : ¬ (l.length : Int) < 5 := by omega
    have q2 : (6 : Int) < (l.length : Int) := by omega
    clear h
    go_enter Tryz.func51, Tryz.ntmps51
    go_wp2_with (first | (go_at_call 75; refine (HS.out _).mono ?_; rintro e w1 ⟨rfl, rfl⟩) | fail)
    exact parse_end rfl rfl (heap_two w _ _).1 rfl (((Below.refl _ w).alloc (Nat.le_refl _) _).alloc (by simp) _) _ rfl rfl
def pn (l : List ByteArray) (i : Nat) : Int := (tickParse (l.getD (3 + i) ByteArray.empty)).1
def pe (l : List ByteArray) (i : Nat) : Int := (tickParse (l.getD (3 + i) ByteArray.empty)).2
def three (l : List ByteArray) (j : Nat) : Array Value := #[.int .i64 (if 0 < j then pn l 0 else 0), .int .i64 (if 1 < j then pn l 1 else 0), .int .i64 (if 2 < j then pn l 2 else 0)]
def PR (l : List ByteArray) (w1 : World) (n : Nat) (jv : Value) (wr : World) : Prop :=
  ∃ j : Nat, jv = .int .i64 j ∧ j ≤ n ∧ Below w1.heap.size w1 wr ∧ wr.heap[w1.heap.size]? = some (.cells (three l j) 85 (0, 0)) ∧ ∀ i, i < j → pe l i = 0
theorem heap_new (w : World) (o : Obj) : (w.alloc o).heap[w.heap.size]? = some o := (MapKept.heap_alloc w o).1
theorem six_below_at {W w : World} {x0 x1 x2 x3 x4 x5 : Value} (h : Below w.heap.size w W) :
    Below w.heap.size w ((((((W.setCell ⟨w.heap.size, 0, none⟩ x0).setCell ⟨w.heap.size, 1, none⟩ x1).setCell ⟨w.heap.size, 2, none⟩ x2).setCell ⟨w.heap.size, 3, none⟩ x3).setCell ⟨w.heap.size, 4, none⟩ x4).setCell ⟨w.heap.size, 5, none⟩ x5) :=
  (((((h.setCell (Nat.le_refl _) _).setCell (Nat.le_refl _) _).setCell (Nat.le_refl _) _).setCell (Nat.le_refl _) _).setCell (Nat.le_refl _) _).setCell (Nat.le_refl _) _
theorem below_undrew {w w' : World} (hb : Below w.drew.heap.size w.drew w') : Below w.heap.size w w' := ⟨hb.os, hb.tape, hb.output, hb.size, hb.block⟩
theorem fin_a {w W : World} {o : Obj} (h : Below w.heap.size w W) : Below w.heap.size w (W.alloc o) := h.alloc h.size o
theorem six_cells {W : World} {B : Nat} {a0 a1 a2 a3 a4 a5 : Value} {t : TypeId} (h : W.heap[B]? = some (.cells #[a0, a1, a2, a3, a4, a5] t (0, 0))) :
    W.cell? ⟨B, 0, none⟩ = some a0 ∧ W.cell? ⟨B, 1, none⟩ = some a1 ∧ W.cell? ⟨B, 2, none⟩ = some a2 ∧ W.cell? ⟨B, 3, none⟩ = some a3 ∧ W.cell? ⟨B, 4, none⟩ = some a4 ∧ W.cell? ⟨B, 5, none⟩ = some a5 ∧ ∀ i, W.frozen? ⟨B, i, none⟩ = false :=
  ⟨cell_of_cells h 0, cell_of_cells h 1, cell_of_cells h 2, cell_of_cells h 3, cell_of_cells h 4, cell_of_cells h 5, free_of_cells h⟩
theorem six_set {W : World} {B : Nat} {a0 a1 a2 a3 a4 a5 x0 x1 x2 x3 x4 x5 : Value} {t : TypeId} (h : W.heap[B]? = some (.cells #[a0, a1, a2, a3, a4, a5] t (0, 0))) :
    ((((((W.setCell ⟨B, 0, none⟩ x0).setCell ⟨B, 1, none⟩ x1).setCell ⟨B, 2, none⟩ x2).setCell ⟨B, 3, none⟩ x3).setCell ⟨B, 4, none⟩ x4).setCell ⟨B, 5, none⟩ x5).heap[B]? = some (.cells #[x0, x1, x2, x3, x4, x5] t (0, 0)) := by
  have := heap_set_eq (i := 5) _ x5 (heap_set_eq (i := 4) _ x4 (heap_set_eq (i := 3) _ x3 (heap_set_eq (i := 2) _ x2 (heap_set_eq (i := 1) _ x1 (heap_set_eq (i := 0) W x0 h)))))
  simpa using this
theorem six_below {W w : World} {x0 x1 x2 x3 x4 x5 : Value} (h : Below w.heap.size w W) :
    Below w.heap.size w ((((((W.setCell ⟨w.heap.size, 0, none⟩ x0).setCell ⟨w.heap.size, 1, none⟩ x1).setCell ⟨w.heap.size, 2, none⟩ x2).setCell ⟨w.heap.size, 3, none⟩ x3).setCell ⟨w.heap.size, 4, none⟩ x4).setCell ⟨w.heap.size, 5, none⟩ x5) :=
  (((((h.setCell (Nat.le_refl _) _).setCell (Nat.le_refl _) _).setCell (Nat.le_refl _) _).setCell (Nat.le_refl _) _).setCell (Nat.le_refl _) _).setCell (Nat.le_refl _) _
theorem getD_drop (l : List ByteArray) (i : Nat) : (l.drop 3)[i]? = l[3 + i]? := by rw [List.getElem?_drop]
theorem vals_in (l : List ByteArray) (i : Nat) (h : 3 + i < l.length) : valsOf l i = pn l i := by
  unfold valsOf pn
  rw [getD_drop]
  simp [h]
theorem vals_out (l : List ByteArray) (i : Nat) (h : ¬ 3 + i < l.length) : valsOf l i = 0 := by
  unfold valsOf
  rw [getD_drop]
  simp [h]
theorem way_up {x : ByteArray} (h : x.toList = [117, 112]) : ¬ wayBad x = true := by
  have : x = ⟨#[117, 112]⟩ := (toList_eq_iff _ _).1 (by rw [h, ByteArray.toList_eq])
  simp [wayBad, this]
theorem way_down {x : ByteArray} (h : x.toList = [100, 111, 119, 110]) : ¬ wayBad x = true := by
  have : x = ⟨#[100, 111, 119, 110]⟩ := (toList_eq_iff _ _).1 (by rw [h, ByteArray.toList_eq])
  simp [wayBad, this]
theorem parse1_con (l : List ByteArray) (h5 : ¬ l.length < 5 ∧ ¬ 6 < l.length) (h : Lib.containsS l ⟨#[]⟩ = true) : parse1 l = bad7 90 := by
  unfold parse1
  rw [if_neg (by omega), h]
  rfl
theorem parse1_way (l : List ByteArray) (h5 : ¬ l.length < 5 ∧ ¬ 6 < l.length) (h : wayBad (l.getD 2 ByteArray.empty) = true) : parse1 l = bad7 90 := by
  unfold parse1
  rw [if_neg (by omega), h]
  split <;> rfl
theorem parse1_bad (l : List ByteArray) (j : Nat) (h5 : ¬ l.length < 5 ∧ ¬ 6 < l.length) (hj : 3 + j < l.length) (he : pe l j ≠ 0) : parse1 l = bad7 90 := by
  have : ((l.drop 3).all fun x => (tickParse x).2 == 0) = false := by
    rw [Bool.eq_false_iff]
    intro hall
    have hm : l[3 + j] ∈ l.drop 3 := by
      refine List.mem_of_getElem? (i := j) ?_
      rw [getD_drop]
      simp [hj]
    have := List.all_eq_true.1 hall _ hm
    apply he
    unfold pe
    simpa [hj] using this
  unfold parse1
  rw [if_neg (by omega), this]
  split
  · rfl
  · split
    · rfl
    · rfl
theorem parse1_good (l : List ByteArray) (h5 : ¬ l.length < 5 ∧ ¬ 6 < l.length) (hc : Lib.containsS l ⟨#[]⟩ = false) (hw : ¬ wayBad (l.getD 2 ByteArray.empty) = true) (he : ∀ j, j < l.length - 3 → pe l j = 0) : parse1 l = parse2 l := by
  have : ((l.drop 3).all fun x => (tickParse x).2 == 0) = true := by
    rw [List.all_eq_true]
    intro x hx
    obtain ⟨j, hj⟩ := List.getElem?_of_mem hx
    rw [getD_drop] at hj
    have hl : 3 + j < l.length := by
      rcases Nat.lt_or_ge (3 + j) l.length with h | h
      · exact h
      · rw [List.getElem?_eq_none h] at hj; cases hj
    have := he j (by omega)
    unfold pe at this
    rw [List.getElem?_eq_getElem hl] at hj
    cases hj
    simpa [hl] using this
  unfold parse1
  rw [if_neg (by omega), hc, if_neg (by decide), if_neg hw, this, if_pos rfl]
theorem three_next (l : List ByteArray) (j : Nat) (hj : j < 3) : (three l j).setIfInBounds j (.int .i64 (pn l j)) = three l (j + 1) := by
  have : j = 0 ∨ j = 1 ∨ j = 2 := by omega
  rcases this with rfl | rfl | rfl <;> rfl
theorem three_cell (l : List ByteArray) (j : Nat) (hj : j < 3) : (three l j)[j]? = some (.int .i64 0) := by
  have : j = 0 ∨ j = 1 ∨ j = 2 := by omega
  rcases this with rfl | rfl | rfl <;> rfl
theorem parse2_noKind (l : List ByteArray) (h : kindOf (l.getD 1 ByteArray.empty) = 0) : parse2 l = bad7 91 := by
  unfold parse2
  rw [h]
  rfl
theorem parse2_noLen (l : List ByteArray) (h : (l.length : Int) ≠ 4 + numOf (kindOf (l.getD 1 ByteArray.empty))) : parse2 l = bad7 91 := by
  unfold parse2
  simp only
  rw [if_pos (.inr h)]
theorem parse2_check (l : List ByteArray) (n : ByteArray) (k : Int) (up : Bool) (o a b e : Int) (hk : kindOf (l.getD 1 ByteArray.empty) = k) (hn : l.getD 0 ByteArray.empty = n) (hup : decide (l.getD 2 ByteArray.empty = ⟨#[117, 112]⟩) = up)
    (h0 : k ≠ 0) (h1 : (l.length : Int) = 4 + numOf k) (ho : valsOf l 0 = o) (ha : valsOf l 1 = a) (hb : valsOf l 2 = b) (he : checkOf n k up o a b = e) : parse2 l = if e = 0 then (n, k, up, o, a, b, 0) else bad7 e := by
  unfold parse2
  simp only
  rw [hk, hn, hup, ho, ha, hb, he, if_neg (by rintro (h | h); exact h0 h; exact h h1)]
set_option maxHeartbeats 16000000 in
set_option maxRecDepth 100000 in
theorem parse_con (s : ByteArray) (w : World) (hs : s.size < 4294967281) (hl5 : ¬ (parts s).length < 5) (hl6 : ¬ 6 < (parts s).length) (hcon : Lib.containsS (parts s) ⟨#[]⟩ = true) :
    Calls Tryz.prog 51 #[.string s] w fun e w' => e = .returned (tup7 (parseOf s)) ∧ Below w.heap.size w w' := by
  have HS := Lib.hid (fun w => split_walk s w hs)
  unfold parseOf
  obtain ⟨l, hpl⟩ : ∃ l, parts s = l := ⟨_, rfl⟩
  rw [hpl] at HS hl5 hl6 hcon
  rw [hpl]
  have hw1 : Below w.heap.size w ((w.alloc (Obj.cells #[Value.string { data := #[] }, Value.int IntKind.i64 0, Value.bool false, Value.int IntKind.i64 0, Value.int IntKind.i64 0, Value.int IntKind.i64 0] 25)).alloc (Obj.cells (List.map Value.string l).toArray 9)) :=
    ((Below.refl _ w).alloc (Nat.le_refl _) _).alloc (by simp) _
  have hb := heap_two w (Obj.cells #[Value.string { data := #[] }, Value.int IntKind.i64 0, Value.bool false, Value.int IntKind.i64 0, Value.int IntKind.i64 0, Value.int IntKind.i64 0] 25) (Obj.cells (List.map Value.string l).toArray 9)
  obtain ⟨w1, hw1e⟩ : ∃ w1, (w.alloc (Obj.cells #[Value.string { data := #[] }, Value.int IntKind.i64 0, Value.bool false, Value.int IntKind.i64 0, Value.int IntKind.i64 0, Value.int IntKind.i64 0] 25)).alloc (Obj.cells (List.map Value.string l).toArray 9) = w1 := ⟨_, rfl⟩
  rw [hw1e] at hw1 hb
  obtain ⟨hb0, hb1⟩ := hb
  have hcell : ∀ j, j < l.length → w1.cell? ⟨w.heap.size + 1, j, none⟩ = some (.string (l.getD j ByteArray.empty)) := by
    intro j hj
    simp [World.cell?, hb1, hj]
  have HCON := Lib.hid (fun x => Tryz.slices_Contains_string (w.heap.size + 1) 0 l.length l.length l x w1 (Nat.le_refl _) (by omega) (fun j hj => by rw [Nat.zero_add]; exact hcell j hj))
  rw [List.take_length] at HCON
  have q1 : ¬ (l.length : Int) < 5 := by omega
  have q2 : ¬ (6 : Int) < (l.length : Int) := by omega
  have hc2 := hcell 2 (by omega)
  obtain ⟨x2, hx2⟩ : ∃ x2, l.getD 2 ByteArray.empty = x2 := ⟨_, rfl⟩
  rw [hx2] at hc2
  have HX2 := Lib.hid hx2
  have HB0 := Lib.hid hb0
  have HB1 := Lib.hid hb1
  have HW1 := Lib.hid hw1
  have HCELL := Lib.hid hcell
  have HL := Lib.hid (And.intro hl5 hl6)
  obtain ⟨r7, hr7⟩ : ∃ r7, parse1 l = r7 := ⟨_, rfl⟩
  rw [hr7]
  have HR7 := Lib.hid hr7
  clear hpl hs hx2 hb0 hb1 hw1 hcell hl5 hl6 hr7
  go_enter Tryz.func51, Tryz.ntmps51
  rw [show (⟨#[]⟩ : ByteArray) = { data := #[] } from rfl] at hcon
  obtain ⟨z0, z1, z2, z3, z4, z5, zf⟩ := six_cells HB0.out
  go_wp2_with (first | (go_at_call 75; refine (HS.out _).mono ?_; rintro e w1 ⟨rfl, rfl⟩; rw [hw1e]; skip) | (go_at_call 76; refine (HCON.out _).mono ?_; rintro e w1 ⟨rfl, rfl⟩) | fail)
  have hr7 := HR7.out
  rw [parse1_con l HL.out hcon] at hr7
  subst hr7
  exact parse_end rfl rfl (six_set HB0.out) rfl (six_below HW1.out) _ rfl rfl
set_option maxHeartbeats 16000000 in
set_option maxRecDepth 100000 in
theorem parse_way (s : ByteArray) (w : World) (hs : s.size < 4294967281) (hl5 : ¬ (parts s).length < 5) (hl6 : ¬ 6 < (parts s).length) (hcon : Lib.containsS (parts s) ⟨#[]⟩ = false) (hu : (((parts s).getD 2 ByteArray.empty).toList == [117, 112]) = false) (hd : (((parts s).getD 2 ByteArray.empty).toList == [100, 111, 119, 110]) = false) :
    Calls Tryz.prog 51 #[.string s] w fun e w' => e = .returned (tup7 (parseOf s)) ∧ Below w.heap.size w w' := by
  have HS := Lib.hid (fun w => split_walk s w hs)
  unfold parseOf
  obtain ⟨l, hpl⟩ : ∃ l, parts s = l := ⟨_, rfl⟩
  rw [hpl] at HS hl5 hl6 hcon hu hd
  rw [hpl]
  have hw1 : Below w.heap.size w ((w.alloc (Obj.cells #[Value.string { data := #[] }, Value.int IntKind.i64 0, Value.bool false, Value.int IntKind.i64 0, Value.int IntKind.i64 0, Value.int IntKind.i64 0] 25)).alloc (Obj.cells (List.map Value.string l).toArray 9)) :=
    ((Below.refl _ w).alloc (Nat.le_refl _) _).alloc (by simp) _
  have hb := heap_two w (Obj.cells #[Value.string { data := #[] }, Value.int IntKind.i64 0, Value.bool false, Value.int IntKind.i64 0, Value.int IntKind.i64 0, Value.int IntKind.i64 0] 25) (Obj.cells (List.map Value.string l).toArray 9)
  obtain ⟨w1, hw1e⟩ : ∃ w1, (w.alloc (Obj.cells #[Value.string { data := #[] }, Value.int IntKind.i64 0, Value.bool false, Value.int IntKind.i64 0, Value.int IntKind.i64 0, Value.int IntKind.i64 0] 25)).alloc (Obj.cells (List.map Value.string l).toArray 9) = w1 := ⟨_, rfl⟩
  rw [hw1e] at hw1 hb
  obtain ⟨hb0, hb1⟩ := hb
  have hcell : ∀ j, j < l.length → w1.cell? ⟨w.heap.size + 1, j, none⟩ = some (.string (l.getD j ByteArray.empty)) := by
    intro j hj
    simp [World.cell?, hb1, hj]
  have HCON := Lib.hid (fun x => Tryz.slices_Contains_string (w.heap.size + 1) 0 l.length l.length l x w1 (Nat.le_refl _) (by omega) (fun j hj => by rw [Nat.zero_add]; exact hcell j hj))
  rw [List.take_length] at HCON
  have q1 : ¬ (l.length : Int) < 5 := by omega
  have q2 : ¬ (6 : Int) < (l.length : Int) := by omega
  have hc2 := hcell 2 (by omega)
  obtain ⟨x2, hx2⟩ : ∃ x2, l.getD 2 ByteArray.empty = x2 := ⟨_, rfl⟩
  rw [hx2] at hc2 hu hd
  have HX2 := Lib.hid hx2
  have HB0 := Lib.hid hb0
  have HB1 := Lib.hid hb1
  have HW1 := Lib.hid hw1
  have HCELL := Lib.hid hcell
  have HL := Lib.hid (And.intro hl5 hl6)
  obtain ⟨r7, hr7⟩ : ∃ r7, parse1 l = r7 := ⟨_, rfl⟩
  rw [hr7]
  have HR7 := Lib.hid hr7
  clear hpl hs hx2 hb0 hb1 hw1 hcell hl5 hl6 hr7
  go_enter Tryz.func51, Tryz.ntmps51
  rw [show (⟨#[]⟩ : ByteArray) = { data := #[] } from rfl] at hcon
  have hwb : wayBad x2 = true := by
    simp only [wayBad, Bool.and_eq_true, decide_eq_true_eq]
    refine ⟨?_, ?_⟩
    · rintro rfl; simp [ByteArray.toList_eq] at hu
    · rintro rfl; simp [ByteArray.toList_eq] at hd
  have HWB := Lib.hid hwb
  clear hwb
  obtain ⟨z0, z1, z2, z3, z4, z5, zf⟩ := six_cells HB0.out
  go_wp2_with (first | (go_at_call 75; refine (HS.out _).mono ?_; rintro e w1 ⟨rfl, rfl⟩; rw [hw1e]; skip) | (go_at_call 76; refine (HCON.out _).mono ?_; rintro e w1 ⟨rfl, rfl⟩) | fail)
  have hr7 := HR7.out
  rw [parse1_way l HL.out (by rw [HX2.out]; exact HWB.out)] at hr7
  subst hr7
  exact parse_end rfl rfl (six_set HB0.out) rfl (six_below HW1.out) _ rfl rfl
end Go.Proofs.YtlglbpjccpdloaaGreatDoor.Tox
set_option linter.unusedVariables false
set_option linter.unusedSimpArgs false
namespace Go.Proofs.YtlglbpjccpdloaaGreatDoor.Tox
open Go.RowKit Go.Shelf Go.Proofs.YtlglbpjccpdloaaGreatDoor.Ext Go.Proofs.YtlglbpjccpdloaaGreatDoor.PToxB Go.Proofs.YtlglbpjccpdloaaGreatDoorW.PrintWords Go.Proofs.YtlglbpjccpdloaaGreatDoorW.PrintLast
set_option maxHeartbeats 16000000 in
set_option maxRecDepth 100000 in
theorem parse_up (s : ByteArray) (w : World) (hs : s.size < 4294967281) (hl5 : ¬ (parts s).length < 5) (hl6 : ¬ 6 < (parts s).length) (hcon : Lib.containsS (parts s) ⟨#[]⟩ = false) (hu : ((parts s).getD 2 ByteArray.empty).toList = [117, 112]) :
    Calls Tryz.prog 51 #[.string s] w fun e w' => e = .returned (tup7 (parseOf s)) ∧ Below w.heap.size w w' := by
  have HS := Lib.hid (fun w => split_walk s w hs)
  unfold parseOf
  obtain ⟨l, hpl⟩ : ∃ l, parts s = l := ⟨_, rfl⟩
  rw [hpl] at HS hl5 hl6 hcon hu
  rw [hpl]
  have hw1 : Below w.heap.size w ((w.alloc (Obj.cells #[Value.string { data := #[] }, Value.int IntKind.i64 0, Value.bool false, Value.int IntKind.i64 0, Value.int IntKind.i64 0, Value.int IntKind.i64 0] 25)).alloc (Obj.cells (List.map Value.string l).toArray 9)) :=
    ((Below.refl _ w).alloc (Nat.le_refl _) _).alloc (by simp) _
  have hb := heap_two w (Obj.cells #[Value.string { data := #[] }, Value.int IntKind.i64 0, Value.bool false, Value.int IntKind.i64 0, Value.int IntKind.i64 0, Value.int IntKind.i64 0] 25) (Obj.cells (List.map Value.string l).toArray 9)
  obtain ⟨w1, hw1e⟩ : ∃ w1, (w.alloc (Obj.cells #[Value.string { data := #[] }, Value.int IntKind.i64 0, Value.bool false, Value.int IntKind.i64 0, Value.int IntKind.i64 0, Value.int IntKind.i64 0] 25)).alloc (Obj.cells (List.map Value.string l).toArray 9) = w1 := ⟨_, rfl⟩
  rw [hw1e] at hw1 hb
  obtain ⟨hb0, hb1⟩ := hb
  have hcell : ∀ j, j < l.length → w1.cell? ⟨w.heap.size + 1, j, none⟩ = some (.string (l.getD j ByteArray.empty)) := by
    intro j hj
    simp [World.cell?, hb1, hj]
  have HCON := Lib.hid (fun x => Tryz.slices_Contains_string (w.heap.size + 1) 0 l.length l.length l x w1 (Nat.le_refl _) (by omega) (fun j hj => by rw [Nat.zero_add]; exact hcell j hj))
  rw [List.take_length] at HCON
  have q1 : ¬ (l.length : Int) < 5 := by omega
  have q2 : ¬ (6 : Int) < (l.length : Int) := by omega
  have hc2 := hcell 2 (by omega)
  obtain ⟨x2, hx2⟩ : ∃ x2, l.getD 2 ByteArray.empty = x2 := ⟨_, rfl⟩
  rw [hx2] at hc2 hu
  have HX2 := Lib.hid hx2
  have HB0 := Lib.hid hb0
  have HB1 := Lib.hid hb1
  have HW1 := Lib.hid hw1
  have HCELL := Lib.hid hcell
  have HL := Lib.hid (And.intro hl5 hl6)
  obtain ⟨r7, hr7⟩ : ∃ r7, parse1 l = r7 := ⟨_, rfl⟩
  rw [hr7]
  have HR7 := Lib.hid hr7
  clear hpl hs hx2 hb0 hb1 hw1 hcell hl5 hl6 hr7
  go_enter Tryz.func51, Tryz.ntmps51
  rw [show (⟨#[]⟩ : ByteArray) = { data := #[] } from rfl] at hcon
  have hway := way_up hu
  go_wp2_with (first | (go_at_call 75; refine (HS.out _).mono ?_; rintro e w1 ⟨rfl, rfl⟩; rw [hw1e]; skip) | (go_at_call 76; refine (HCON.out _).mono ?_; rintro e w1 ⟨rfl, rfl⟩) | fail)
  go_loopw [43] (fun jv wr => PR l w1 (l.length - 3) jv wr) (fun jv _ => l.length - (intOf jv).toNat)
  case atStart => exact ⟨0, rfl, Nat.zero_le _, (Below.refl _ w1).alloc (Nat.le_refl _) _, heap_new w1 _, fun i hi => absurd hi (Nat.not_lt_zero _)⟩
  case round =>
    obtain ⟨j, rfl, hj, hbw, harr, herr⟩ := hrel
    by_cases hjn : j < l.length - 3
    · have hj' := hbw
      have q3 : (j : Int) < ((l.length - 3 : Nat) : Int) := by omega
      have hcj := cell_later hbw (HCELL.out (3 + j) (by omega))
      have HBW := Lib.hid hbw
      have HARR := Lib.hid harr
      have HERR := Lib.hid herr
      clear hbw harr herr hj'
      obtain ⟨xj, hxj⟩ : ∃ xj, l.getD (3 + j) ByteArray.empty = xj := ⟨_, rfl⟩
      rw [hxj] at hcj
      obtain ⟨r1, r2, hp⟩ : ∃ r1 r2, tickParse xj = (r1, r2) := ⟨_, _, rfl⟩
      have HP := Lib.hid (tick_Parse.calls xj r1 r2 wr (by rw [tick_Parse.f, hp]))
      have HXJ := Lib.hid hxj
      have HPP := Lib.hid hp
      clear hxj hp
      by_cases hr2 : r2 = 0
      · subst hr2
        have hj3 : j < 3 := by have := HL.out; omega
        have q5 : (j : Int) < 3 := by omega
        have htc := three_cell l j hj3
        have HTC := Lib.hid htc
        clear htc
        go_wp2_with (first | (go_at_call 49; refine HP.out.mono ?_; rintro e w2 ⟨rfl, hb2⟩; have hbw2 := HBW.out.trans (hb2.mono HBW.out.size); have hr0 := (hb2.block _ (lt_of_heap HARR.out)).trans HARR.out; have hcj2 := (cell_of_cells hr0 j).trans HTC.out; have hfj := free_of_cells hr0 j; have HR0 := Lib.hid hr0; clear hr0) | fail)
        go_roundw
        case measure => simp [intOf]; omega
        · have h1 := HXJ.out
          have h2 := HPP.out
          refine ⟨j + 1, rfl, by omega, hbw2.setCell (Nat.le_refl _) _, ?_, ?_⟩
          · rw [← three_next l j hj3, show pn l j = r1 by unfold pn; rw [h1, h2]]
            exact heap_set_eq _ _ HR0.out
          · intro i hi
            by_cases hij : i = j
            · subst hij; unfold pe; rw [h1, h2]
            · exact HERR.out i (by omega)
      · have q4 : (r2 != 0) = true := by simpa using hr2
        have hb02 := HB0.out
        have HB2 := Lib.hid hr2
        clear hr2
        go_wp2_with (first | (go_at_call 49; refine HP.out.mono ?_; rintro e w2 ⟨rfl, hb2⟩; have hbw2 := HBW.out.trans (hb2.mono HBW.out.size); have hr0 := (hbw2.block _ (lt_of_heap hb02)).trans hb02; obtain ⟨z0, z1, z2, z3, z4, z5, zf⟩ := six_cells hr0) | fail)
        have hr7 := HR7.out
        have hl := HL.out
        rw [parse1_bad l j hl (by omega) (by have h1 := HXJ.out; have h2 := HPP.out; unfold pe; rw [h1, h2]; exact HB2.out)] at hr7
        subst hr7
        exact parse_end rfl rfl (six_set hr0) rfl (six_below (HW1.out.trans (hbw2.mono HW1.out.size))) _ rfl rfl
    · have hjn' : j = l.length - 3 := by omega
      subst hjn'
      have q3 : ¬ ((l.length - 3 : Nat) : Int) < ((l.length - 3 : Nat) : Int) := by omega
      have HBW := Lib.hid hbw
      have HARR := Lib.hid harr
      have HERR := Lib.hid herr
      obtain ⟨x0, hx0⟩ : ∃ x0, l.getD 0 ByteArray.empty = x0 := ⟨_, rfl⟩
      obtain ⟨x1, hx1⟩ : ∃ x1, l.getD 1 ByteArray.empty = x1 := ⟨_, rfl⟩
      have hc0 := cell_later hbw (HCELL.out 0 (by omega))
      have hc1 := cell_later hbw (HCELL.out 1 (by omega))
      have hc2' := cell_later hbw (HCELL.out 2 (by omega))
      rw [hx0] at hc0
      rw [hx1] at hc1
      rw [HX2.out] at hc2'
      have hd0 := cell_of_cells harr 0
      have hd1 := cell_of_cells harr 1
      have hd2 := cell_of_cells harr 2
      obtain ⟨a0, ha0⟩ : ∃ a0, (if 0 < l.length - 3 then pn l 0 else 0) = a0 := ⟨_, rfl⟩
      obtain ⟨a1, ha1⟩ : ∃ a1, (if 1 < l.length - 3 then pn l 1 else 0) = a1 := ⟨_, rfl⟩
      obtain ⟨a2, ha2⟩ : ∃ a2, (if 2 < l.length - 3 then pn l 2 else 0) = a2 := ⟨_, rfl⟩
      have hd0' : wr.cell? ⟨w1.heap.size, 0, none⟩ = some (.int .i64 a0) := by rw [hd0, ← ha0]; rfl
      have hd1' : wr.cell? ⟨w1.heap.size, 1, none⟩ = some (.int .i64 a1) := by rw [hd1, ← ha1]; rfl
      have hd2' : wr.cell? ⟨w1.heap.size, 2, none⟩ = some (.int .i64 a2) := by rw [hd2, ← ha2]; rfl
      have HX0 := Lib.hid hx0
      have HX1 := Lib.hid hx1
      have HA0 := Lib.hid ha0
      have HA1 := Lib.hid ha1
      have HA2 := Lib.hid ha2
      clear hbw harr herr hx0 hx1 ha0 ha1 ha2 hd0 hd1 hd2 hc2
      obtain ⟨kd, hkd⟩ : ∃ kd, kindOf x1 = kd := ⟨_, rfl⟩
      have HKC := Lib.hid (fun w => toxic_Kind.calls 9 x1 kd w (by rw [← hkd]; exact kind_is x1 9 (by decide)))
      have HKD := Lib.hid hkd
      clear hkd
      have hb3' : True := trivial
      have n1 : wr.heap.size ≠ w.heap.size + 1 := World.new_ne wr _ hc0
      have n2 : wr.heap.size ≠ w1.heap.size := World.new_ne wr _ hd0'
      go_upto_region 13 with fail
      go_cut [10] (fun s10 wx => ∃ g : Nat, s10 = .pointer (some ⟨g, 0, none⟩) ∧ wx.heap[g]? = some (.cells #[.string x0, .int .i64 kd, .bool true, .int .i64 a0, .int .i64 a1, .int .i64 a2] 25 (0, 0)) ∧ Below wr.heap.size wr wx ∧ wr.heap.size ≤ g)
      case first =>
        have i0 : 0 < l.length := by have := HL.out; omega
        have i1 : (1 : Int) < (l.length : Int) := by omega
        have i2 : (2 : Int) < (l.length : Int) := by omega
        go_region_held3 (fun W => W.cell? ⟨w.heap.size + 1, 0, none⟩ = some (.string x0) ∧ W.cell? ⟨w.heap.size + 1, 1, none⟩ = some (.string x1) ∧ W.cell? ⟨w.heap.size + 1, 2, none⟩ = some (.string x2) ∧
            W.cell? ⟨w1.heap.size, 0, none⟩ = some (.int .i64 a0) ∧ W.cell? ⟨w1.heap.size, 1, none⟩ = some (.int .i64 a1) ∧ W.cell? ⟨w1.heap.size, 2, none⟩ = some (.int .i64 a2))
          (go_keep)
          (first | (go_at_call 77; refine (HKC.out _).mono ?_; rintro e w3 ⟨rfl, hb3⟩; obtain ⟨g0, g1, g2, g3, g4, g5⟩ := ‹_ ∧ _ ∧ _ ∧ _ ∧ _ ∧ _›; have k0 := cell_later hb3 g0; have k1 := cell_later hb3 g1; have k2 := cell_later hb3 g2; have k3 := cell_later hb3 g3; have k4 := cell_later hb3 g4; have k5 := cell_later hb3 g5; have n3 := World.new_ne w3 _ k0; have n4 := World.new_ne w3 _ k3; have hbq := below_undrew hb3; have HBR : Hid (Below wr.heap.size wr w3) := Lib.hid (by first | (with_reducible exact hbq) | (with_reducible exact ((Below.refl _ wr).alloc (Nat.le_refl _) _).trans (hbq.mono (by simp)))); clear hbq; have HAL := Lib.hid (heap_new w3); (try (have hzr := (hb3.block wr.heap.size (by simp)).trans (heap_new wr _); have zz := six_cells (W := w3) (B := wr.heap.size) hzr; obtain ⟨z0, z1, z2, z3, z4, z5, zf⟩ := zz; have HZR := Lib.hid hzr; clear hzr))))
        all_goals
          go_wp2_with fail
          go_meet
          refine ⟨_, rfl, ?_, ?_, ?_⟩
          · first
            | with_reducible exact HAL.out _
            | with_reducible exact six_set HZR.out
          · first
            | with_reducible exact fin_a HBR.out
            | with_reducible exact six_below_at HBR.out
          · first
            | with_reducible exact Nat.le_refl _
            | with_reducible exact HBR.out.size
      case rest =>
        obtain ⟨g, rfl, hg, hbx, hgl⟩ := hcut
        obtain ⟨y0, y1, y2, y3, y4, y5, yf⟩ := six_cells hg
        have hbw3 := (HBW.out.trans (hbx.mono HBW.out.size))
        have hres := (hbw3.block _ (lt_of_heap HB0.out)).trans HB0.out
        have HG := Lib.hid hg
        have HBX := Lib.hid hbw3
        have HRES := Lib.hid hres
        obtain ⟨nm, hnm⟩ : ∃ nm, numOf kd = nm := ⟨_, rfl⟩
        have HNM := Lib.hid (fun w => toxic_Numbers.calls kd nm w (by rw [← hnm]; exact numbers_is kd))
        have hnb : 0 ≤ nm ∧ nm ≤ 2 := by rw [← hnm]; unfold numOf; split <;> (try split) <;> omega
        obtain ⟨hn0, hn2⟩ := hnb
        have HN := Lib.hid hnm
        clear hg hbx hgl hbw3 hres hnm hc0 hc1 hc2' hd0' hd1' hd2' n1 n2
        have GOOD : Hid (parse1 l = parse2 l) := Lib.hid (parse1_good l HL.out hcon (by rw [HX2.out]; exact hway) HERR.out)
        by_cases hk0 : kd = 0
        · have qk : (kd == 0) = true := by simp [hk0]
          have HK0 := Lib.hid hk0
          clear hk0
          obtain ⟨z0, z1, z2, z3, z4, z5, zf⟩ := six_cells HRES.out
          go_wp2_with fail
          have hr7 := HR7.out
          rw [GOOD.out, parse2_noKind l (by rw [HX1.out, HKD.out]; exact HK0.out)] at hr7
          subst hr7
          exact parse_end rfl rfl (six_set HRES.out) rfl (six_below (HW1.out.trans (HBX.out.mono HW1.out.size))) _ rfl rfl
        · have qk : (kd == 0) = false := by simp [hk0]
          have HK0 := Lib.hid hk0
          clear hk0
          by_cases hln : (l.length : Int) = 4 + nm
          · have ql : ((l.length : Int) != 4 + nm) = false := by simp [hln]
            have hv0 : valsOf l 0 = a0 := by
              have hl := HL.out
              rw [vals_in l 0 (by omega), ← HA0.out, if_pos (by omega)]
            have hv1 : valsOf l 1 = a1 := by
              have hl := HL.out
              rw [vals_in l 1 (by omega), ← HA1.out, if_pos (by omega)]
            have hv2 : valsOf l 2 = a2 := by
              have hl := HL.out
              by_cases h2 : 2 < l.length - 3
              · rw [vals_in l 2 (by omega), ← HA2.out, if_pos h2]
              · rw [vals_out l 2 (by omega), ← HA2.out, if_neg h2]
            obtain ⟨ev, hev⟩ : ∃ ev, checkOf x0 kd true a0 a1 a2 = ev := ⟨_, rfl⟩
            have hpc := parse2_check l x0 kd true a0 a1 a2 ev (by rw [HX1.out, HKD.out]) HX0.out (by rw [HX2.out]; simp [← toList_eq_iff, hu]) HK0.out (by rw [HN.out]; exact hln) hv0 hv1 hv2 hev
            have HCC := Lib.hid (fun w => toxic_Check.calls x0 kd true a0 a1 a2 ev w (by rw [← hev]; exact check_is _ _ _ _ _ _))
            have hr7 := HR7.out
            rw [GOOD.out, hpc] at hr7
            have HR8 := Lib.hid hr7
            clear hpc hev hv0 hv1 hv2 hln hr7
            by_cases he0 : ev = 0
            · subst he0
              have hr8 := HR8.out
              rw [if_pos rfl] at hr8
              subst hr8
              go_wp2_with (first | (go_at_call 61; refine (HNM.out _).mono ?_; rintro e w4 ⟨rfl, hb4⟩; have hg4 := (hb4.block _ (lt_of_heap HG.out)).trans HG.out; obtain ⟨y0, y1, y2, y3, y4, y5, yf⟩ := six_cells hg4) | (go_at_call 55; refine (HCC.out _).mono ?_; rintro e w5 ⟨rfl, hb5⟩; have hg5 := (hb5.block _ (lt_of_heap hg4)).trans hg4; obtain ⟨yy0, yy1, yy2, yy3, yy4, yy5, yyf⟩ := six_cells hg5; have hr4 := (hb4.block _ (lt_of_heap HRES.out)).trans HRES.out; have hr5 := (hb5.block _ (lt_of_heap hr4)).trans hr4; obtain ⟨z0, z1, z2, z3, z4, z5, zf⟩ := six_cells hr5) | fail)
              have hbb := HW1.out.trans (HBX.out.mono HW1.out.size)
              have hbc := hbb.trans (hb4.mono hbb.size)
              exact parse_end rfl rfl (six_set hr5) rfl (six_below (hbc.trans (hb5.mono hbc.size))) _ rfl rfl
            · have qe : (ev != 0) = true := by simpa using he0
              have hr8 := HR8.out
              rw [if_neg he0] at hr8
              subst hr8
              clear he0
              go_wp2_with (first | (go_at_call 61; refine (HNM.out _).mono ?_; rintro e w4 ⟨rfl, hb4⟩; have hg4 := (hb4.block _ (lt_of_heap HG.out)).trans HG.out; obtain ⟨y0, y1, y2, y3, y4, y5, yf⟩ := six_cells hg4) | (go_at_call 55; refine (HCC.out _).mono ?_; rintro e w5 ⟨rfl, hb5⟩; have hr4 := (hb4.block _ (lt_of_heap HRES.out)).trans HRES.out; have hr5 := (hb5.block _ (lt_of_heap hr4)).trans hr4; obtain ⟨z0, z1, z2, z3, z4, z5, zf⟩ := six_cells hr5) | fail)
              have hbb := HW1.out.trans (HBX.out.mono HW1.out.size)
              have hbc := hbb.trans (hb4.mono hbb.size)
              exact parse_end rfl rfl (six_set hr5) rfl (six_below (hbc.trans (hb5.mono hbc.size))) _ rfl rfl
          · have ql : ((l.length : Int) != 4 + nm) = true := by simpa using hln
            have HLN := Lib.hid hln
            clear hln
            go_wp2_with (first | (go_at_call 61; refine (HNM.out _).mono ?_; rintro e w4 ⟨rfl, hb4⟩; have hr4 := (hb4.block _ (lt_of_heap HRES.out)).trans HRES.out; obtain ⟨z0, z1, z2, z3, z4, z5, zf⟩ := six_cells hr4) | fail)
            have hr7 := HR7.out
            rw [GOOD.out, parse2_noLen l (by rw [HX1.out, HKD.out, HN.out]; exact HLN.out)] at hr7
            subst hr7
            exact parse_end rfl rfl (six_set hr4) rfl (six_below ((HW1.out.trans (HBX.out.mono HW1.out.size)).trans (hb4.mono (HW1.out.trans (HBX.out.mono HW1.out.size)).size))) _ rfl rfl
end Go.Proofs.YtlglbpjccpdloaaGreatDoor.Tox
set_option linter.unusedVariables false
set_option linter.unusedSimpArgs false
namespace Go.Proofs.YtlglbpjccpdloaaGreatDoor.Tox
open Go.RowKit Go.Shelf Go.Proofs.YtlglbpjccpdloaaGreatDoor.Ext Go.Proofs.YtlglbpjccpdloaaGreatDoor.PToxB Go.Proofs.YtlglbpjccpdloaaGreatDoorW.PrintWords Go.Proofs.YtlglbpjccpdloaaGreatDoorW.PrintLast
set_option maxHeartbeats 16000000 in
set_option maxRecDepth 100000 in
theorem parse_down (s : ByteArray) (w : World) (hs : s.size < 4294967281) (hl5 : ¬ (parts s).length < 5) (hl6 : ¬ 6 < (parts s).length) (hcon : Lib.containsS (parts s) ⟨#[]⟩ = false) (hu : (((parts s).getD 2 ByteArray.empty).toList == [117, 112]) = false) (hd : ((parts s).getD 2 ByteArray.empty).toList = [100, 111, 119, 110]) :
    Calls Tryz.prog 51 #[.string s] w fun e w' => e = .returned (tup7 (parseOf s)) ∧ Below w.heap.size w w' := by
  have HS := Lib.hid (fun w => split_walk s w hs)
  unfold parseOf
  obtain ⟨l, hpl⟩ : ∃ l, parts s = l := ⟨_, rfl⟩
  rw [hpl] at HS hl5 hl6 hcon hu hd
  rw [hpl]
  have hw1 : Below w.heap.size w ((w.alloc (Obj.cells #[Value.string { data := #[] }, Value.int IntKind.i64 0, Value.bool false, Value.int IntKind.i64 0, Value.int IntKind.i64 0, Value.int IntKind.i64 0] 25)).alloc (Obj.cells (List.map Value.string l).toArray 9)) :=
    ((Below.refl _ w).alloc (Nat.le_refl _) _).alloc (by simp) _
  have hb := heap_two w (Obj.cells #[Value.string { data := #[] }, Value.int IntKind.i64 0, Value.bool false, Value.int IntKind.i64 0, Value.int IntKind.i64 0, Value.int IntKind.i64 0] 25) (Obj.cells (List.map Value.string l).toArray 9)
  obtain ⟨w1, hw1e⟩ : ∃ w1, (w.alloc (Obj.cells #[Value.string { data := #[] }, Value.int IntKind.i64 0, Value.bool false, Value.int IntKind.i64 0, Value.int IntKind.i64 0, Value.int IntKind.i64 0] 25)).alloc (Obj.cells (List.map Value.string l).toArray 9) = w1 := ⟨_, rfl⟩
  rw [hw1e] at hw1 hb
  obtain ⟨hb0, hb1⟩ := hb
  have hcell : ∀ j, j < l.length → w1.cell? ⟨w.heap.size + 1, j, none⟩ = some (.string (l.getD j ByteArray.empty)) := by
    intro j hj
    simp [World.cell?, hb1, hj]
  have HCON := Lib.hid (fun x => Tryz.slices_Contains_string (w.heap.size + 1) 0 l.length l.length l x w1 (Nat.le_refl _) (by omega) (fun j hj => by rw [Nat.zero_add]; exact hcell j hj))
  rw [List.take_length] at HCON
  have q1 : ¬ (l.length : Int) < 5 := by omega
  have q2 : ¬ (6 : Int) < (l.length : Int) := by omega
  have hc2 := hcell 2 (by omega)
  obtain ⟨x2, hx2⟩ : ∃ x2, l.getD 2 ByteArray.empty = x2 := ⟨_, rfl⟩
  rw [hx2] at hc2 hu hd
  have HX2 := Lib.hid hx2
  have HB0 := Lib.hid hb0
  have HB1 := Lib.hid hb1
  have HW1 := Lib.hid hw1
  have HCELL := Lib.hid hcell
  have HL := Lib.hid (And.intro hl5 hl6)
  obtain ⟨r7, hr7⟩ : ∃ r7, parse1 l = r7 := ⟨_, rfl⟩
  rw [hr7]
  have HR7 := Lib.hid hr7
  clear hpl hs hx2 hb0 hb1 hw1 hcell hl5 hl6 hr7
  go_enter Tryz.func51, Tryz.ntmps51
  rw [show (⟨#[]⟩ : ByteArray) = { data := #[] } from rfl] at hcon
  have hway := way_down hd
  go_wp2_with (first | (go_at_call 75; refine (HS.out _).mono ?_; rintro e w1 ⟨rfl, rfl⟩; rw [hw1e]; skip) | (go_at_call 76; refine (HCON.out _).mono ?_; rintro e w1 ⟨rfl, rfl⟩) | fail)
  go_loopw [43] (fun jv wr => PR l w1 (l.length - 3) jv wr) (fun jv _ => l.length - (intOf jv).toNat)
  case atStart => exact ⟨0, rfl, Nat.zero_le _, (Below.refl _ w1).alloc (Nat.le_refl _) _, heap_new w1 _, fun i hi => absurd hi (Nat.not_lt_zero _)⟩
  case round =>
    obtain ⟨j, rfl, hj, hbw, harr, herr⟩ := hrel
    by_cases hjn : j < l.length - 3
    · have hj' := hbw
      have q3 : (j : Int) < ((l.length - 3 : Nat) : Int) := by omega
      have hcj := cell_later hbw (HCELL.out (3 + j) (by omega))
      have HBW := Lib.hid hbw
      have HARR := Lib.hid harr
      have HERR := Lib.hid herr
      clear hbw harr herr hj'
      obtain ⟨xj, hxj⟩ : ∃ xj, l.getD (3 + j) ByteArray.empty = xj := ⟨_, rfl⟩
      rw [hxj] at hcj
      obtain ⟨r1, r2, hp⟩ : ∃ r1 r2, tickParse xj = (r1, r2) := ⟨_, _, rfl⟩
      have HP := Lib.hid (tick_Parse.calls xj r1 r2 wr (by rw [tick_Parse.f, hp]))
      have HXJ := Lib.hid hxj
      have HPP := Lib.hid hp
      clear hxj hp
      by_cases hr2 : r2 = 0
      · subst hr2
        have hj3 : j < 3 := by have := HL.out; omega
        have q5 : (j : Int) < 3 := by omega
        have htc := three_cell l j hj3
        have HTC := Lib.hid htc
        clear htc
        go_wp2_with (first | (go_at_call 49; refine HP.out.mono ?_; rintro e w2 ⟨rfl, hb2⟩; have hbw2 := HBW.out.trans (hb2.mono HBW.out.size); have hr0 := (hb2.block _ (lt_of_heap HARR.out)).trans HARR.out; have hcj2 := (cell_of_cells hr0 j).trans HTC.out; have hfj := free_of_cells hr0 j; have HR0 := Lib.hid hr0; clear hr0) | fail)
        go_roundw
        case measure => simp [intOf]; omega
        · have h1 := HXJ.out
          have h2 := HPP.out
          refine ⟨j + 1, rfl, by omega, hbw2.setCell (Nat.le_refl _) _, ?_, ?_⟩
          · rw [← three_next l j hj3, show pn l j = r1 by unfold pn; rw [h1, h2]]
            exact heap_set_eq _ _ HR0.out
          · intro i hi
            by_cases hij : i = j
            · subst hij; unfold pe; rw [h1, h2]
            · exact HERR.out i (by omega)
      · have q4 : (r2 != 0) = true := by simpa using hr2
        have hb02 := HB0.out
        have HB2 := Lib.hid hr2
        clear hr2
        go_wp2_with (first | (go_at_call 49; refine HP.out.mono ?_; rintro e w2 ⟨rfl, hb2⟩; have hbw2 := HBW.out.trans (hb2.mono HBW.out.size); have hr0 := (hbw2.block _ (lt_of_heap hb02)).trans hb02; obtain ⟨z0, z1, z2, z3, z4, z5, zf⟩ := six_cells hr0) | fail)
        have hr7 := HR7.out
        have hl := HL.out
        rw [parse1_bad l j hl (by omega) (by have h1 := HXJ.out; have h2 := HPP.out; unfold pe; rw [h1, h2]; exact HB2.out)] at hr7
        subst hr7
        exact parse_end rfl rfl (six_set hr0) rfl (six_below (HW1.out.trans (hbw2.mono HW1.out.size))) _ rfl rfl
    · have hjn' : j = l.length - 3 := by omega
      subst hjn'
      have q3 : ¬ ((l.length - 3 : Nat) : Int) < ((l.length - 3 : Nat) : Int) := by omega
      have HBW := Lib.hid hbw
      have HARR := Lib.hid harr
      have HERR := Lib.hid herr
      obtain ⟨x0, hx0⟩ : ∃ x0, l.getD 0 ByteArray.empty = x0 := ⟨_, rfl⟩
      obtain ⟨x1, hx1⟩ : ∃ x1, l.getD 1 ByteArray.empty = x1 := ⟨_, rfl⟩
      have hc0 := cell_later hbw (HCELL.out 0 (by omega))
      have hc1 := cell_later hbw (HCELL.out 1 (by omega))
      have hc2' := cell_later hbw (HCELL.out 2 (by omega))
      rw [hx0] at hc0
      rw [hx1] at hc1
      rw [HX2.out] at hc2'
      have hd0 := cell_of_cells harr 0
      have hd1 := cell_of_cells harr 1
      have hd2 := cell_of_cells harr 2
      obtain ⟨a0, ha0⟩ : ∃ a0, (if 0 < l.length - 3 then pn l 0 else 0) = a0 := ⟨_, rfl⟩
      obtain ⟨a1, ha1⟩ : ∃ a1, (if 1 < l.length - 3 then pn l 1 else 0) = a1 := ⟨_, rfl⟩
      obtain ⟨a2, ha2⟩ : ∃ a2, (if 2 < l.length - 3 then pn l 2 else 0) = a2 := ⟨_, rfl⟩
      have hd0' : wr.cell? ⟨w1.heap.size, 0, none⟩ = some (.int .i64 a0) := by rw [hd0, ← ha0]; rfl
      have hd1' : wr.cell? ⟨w1.heap.size, 1, none⟩ = some (.int .i64 a1) := by rw [hd1, ← ha1]; rfl
      have hd2' : wr.cell? ⟨w1.heap.size, 2, none⟩ = some (.int .i64 a2) := by rw [hd2, ← ha2]; rfl
      have HX0 := Lib.hid hx0
      have HX1 := Lib.hid hx1
      have HA0 := Lib.hid ha0
      have HA1 := Lib.hid ha1
      have HA2 := Lib.hid ha2
      clear hbw harr herr hx0 hx1 ha0 ha1 ha2 hd0 hd1 hd2 hc2
      obtain ⟨kd, hkd⟩ : ∃ kd, kindOf x1 = kd := ⟨_, rfl⟩
      have HKC := Lib.hid (fun w => toxic_Kind.calls 9 x1 kd w (by rw [← hkd]; exact kind_is x1 9 (by decide)))
      have HKD := Lib.hid hkd
      clear hkd
      have hb3' : True := trivial
      have n1 : wr.heap.size ≠ w.heap.size + 1 := World.new_ne wr _ hc0
      have n2 : wr.heap.size ≠ w1.heap.size := World.new_ne wr _ hd0'
      go_upto_region 13 with fail
      go_cut [10] (fun s10 wx => ∃ g : Nat, s10 = .pointer (some ⟨g, 0, none⟩) ∧ wx.heap[g]? = some (.cells #[.string x0, .int .i64 kd, .bool false, .int .i64 a0, .int .i64 a1, .int .i64 a2] 25 (0, 0)) ∧ Below wr.heap.size wr wx ∧ wr.heap.size ≤ g)
      case first =>
        have i0 : 0 < l.length := by have := HL.out; omega
        have i1 : (1 : Int) < (l.length : Int) := by omega
        have i2 : (2 : Int) < (l.length : Int) := by omega
        go_region_held3 (fun W => W.cell? ⟨w.heap.size + 1, 0, none⟩ = some (.string x0) ∧ W.cell? ⟨w.heap.size + 1, 1, none⟩ = some (.string x1) ∧ W.cell? ⟨w.heap.size + 1, 2, none⟩ = some (.string x2) ∧
            W.cell? ⟨w1.heap.size, 0, none⟩ = some (.int .i64 a0) ∧ W.cell? ⟨w1.heap.size, 1, none⟩ = some (.int .i64 a1) ∧ W.cell? ⟨w1.heap.size, 2, none⟩ = some (.int .i64 a2))
          (go_keep)
          (first | (go_at_call 77; refine (HKC.out _).mono ?_; rintro e w3 ⟨rfl, hb3⟩; obtain ⟨g0, g1, g2, g3, g4, g5⟩ := ‹_ ∧ _ ∧ _ ∧ _ ∧ _ ∧ _›; have k0 := cell_later hb3 g0; have k1 := cell_later hb3 g1; have k2 := cell_later hb3 g2; have k3 := cell_later hb3 g3; have k4 := cell_later hb3 g4; have k5 := cell_later hb3 g5; have n3 := World.new_ne w3 _ k0; have n4 := World.new_ne w3 _ k3; have hbq := below_undrew hb3; have HBR : Hid (Below wr.heap.size wr w3) := Lib.hid (by first | (with_reducible exact hbq) | (with_reducible exact ((Below.refl _ wr).alloc (Nat.le_refl _) _).trans (hbq.mono (by simp)))); clear hbq; have HAL := Lib.hid (heap_new w3); (try (have hzr := (hb3.block wr.heap.size (by simp)).trans (heap_new wr _); have zz := six_cells (W := w3) (B := wr.heap.size) hzr; obtain ⟨z0, z1, z2, z3, z4, z5, zf⟩ := zz; have HZR := Lib.hid hzr; clear hzr))))
        all_goals
          go_wp2_with fail
          go_meet
          refine ⟨_, rfl, ?_, ?_, ?_⟩
          · first
            | with_reducible exact HAL.out _
            | with_reducible exact six_set HZR.out
          · first
            | with_reducible exact fin_a HBR.out
            | with_reducible exact six_below_at HBR.out
          · first
            | with_reducible exact Nat.le_refl _
            | with_reducible exact HBR.out.size
      case rest =>
        obtain ⟨g, rfl, hg, hbx, hgl⟩ := hcut
        obtain ⟨y0, y1, y2, y3, y4, y5, yf⟩ := six_cells hg
        have hbw3 := (HBW.out.trans (hbx.mono HBW.out.size))
        have hres := (hbw3.block _ (lt_of_heap HB0.out)).trans HB0.out
        have HG := Lib.hid hg
        have HBX := Lib.hid hbw3
        have HRES := Lib.hid hres
        obtain ⟨nm, hnm⟩ : ∃ nm, numOf kd = nm := ⟨_, rfl⟩
        have HNM := Lib.hid (fun w => toxic_Numbers.calls kd nm w (by rw [← hnm]; exact numbers_is kd))
        have hnb : 0 ≤ nm ∧ nm ≤ 2 := by rw [← hnm]; unfold numOf; split <;> (try split) <;> omega
        obtain ⟨hn0, hn2⟩ := hnb
        have HN := Lib.hid hnm
        clear hg hbx hgl hbw3 hres hnm hc0 hc1 hc2' hd0' hd1' hd2' n1 n2
        have GOOD : Hid (parse1 l = parse2 l) := Lib.hid (parse1_good l HL.out hcon (by rw [HX2.out]; exact hway) HERR.out)
        by_cases hk0 : kd = 0
        · have qk : (kd == 0) = true := by simp [hk0]
          have HK0 := Lib.hid hk0
          clear hk0
          obtain ⟨z0, z1, z2, z3, z4, z5, zf⟩ := six_cells HRES.out
          go_wp2_with fail
          have hr7 := HR7.out
          rw [GOOD.out, parse2_noKind l (by rw [HX1.out, HKD.out]; exact HK0.out)] at hr7
          subst hr7
          exact parse_end rfl rfl (six_set HRES.out) rfl (six_below (HW1.out.trans (HBX.out.mono HW1.out.size))) _ rfl rfl
        · have qk : (kd == 0) = false := by simp [hk0]
          have HK0 := Lib.hid hk0
          clear hk0
          by_cases hln : (l.length : Int) = 4 + nm
          · have ql : ((l.length : Int) != 4 + nm) = false := by simp [hln]
            have hv0 : valsOf l 0 = a0 := by
              have hl := HL.out
              rw [vals_in l 0 (by omega), ← HA0.out, if_pos (by omega)]
            have hv1 : valsOf l 1 = a1 := by
              have hl := HL.out
              rw [vals_in l 1 (by omega), ← HA1.out, if_pos (by omega)]
            have hv2 : valsOf l 2 = a2 := by
              have hl := HL.out
              by_cases h2 : 2 < l.length - 3
              · rw [vals_in l 2 (by omega), ← HA2.out, if_pos h2]
              · rw [vals_out l 2 (by omega), ← HA2.out, if_neg h2]
            obtain ⟨ev, hev⟩ : ∃ ev, checkOf x0 kd false a0 a1 a2 = ev := ⟨_, rfl⟩
            have hpc := parse2_check l x0 kd false a0 a1 a2 ev (by rw [HX1.out, HKD.out]) HX0.out (by rw [HX2.out]; simp only [decide_eq_false_iff_not]; intro hx; rw [hx] at hd; exact absurd hd (by rw [ByteArray.toList_eq]; decide)) HK0.out (by rw [HN.out]; exact hln) hv0 hv1 hv2 hev
            have HCC := Lib.hid (fun w => toxic_Check.calls x0 kd false a0 a1 a2 ev w (by rw [← hev]; exact check_is _ _ _ _ _ _))
            have hr7 := HR7.out
            rw [GOOD.out, hpc] at hr7
            have HR8 := Lib.hid hr7
            clear hpc hev hv0 hv1 hv2 hln hr7
            by_cases he0 : ev = 0
            · subst he0
              have hr8 := HR8.out
              rw [if_pos rfl] at hr8
              subst hr8
              go_wp2_with (first | (go_at_call 61; refine (HNM.out _).mono ?_; rintro e w4 ⟨rfl, hb4⟩; have hg4 := (hb4.block _ (lt_of_heap HG.out)).trans HG.out; obtain ⟨y0, y1, y2, y3, y4, y5, yf⟩ := six_cells hg4) | (go_at_call 55; refine (HCC.out _).mono ?_; rintro e w5 ⟨rfl, hb5⟩; have hg5 := (hb5.block _ (lt_of_heap hg4)).trans hg4; obtain ⟨yy0, yy1, yy2, yy3, yy4, yy5, yyf⟩ := six_cells hg5; have hr4 := (hb4.block _ (lt_of_heap HRES.out)).trans HRES.out; have hr5 := (hb5.block _ (lt_of_heap hr4)).trans hr4; obtain ⟨z0, z1, z2, z3, z4, z5, zf⟩ := six_cells hr5) | fail)
              have hbb := HW1.out.trans (HBX.out.mono HW1.out.size)
              have hbc := hbb.trans (hb4.mono hbb.size)
              exact parse_end rfl rfl (six_set hr5) rfl (six_below (hbc.trans (hb5.mono hbc.size))) _ rfl rfl
            · have qe : (ev != 0) = true := by simpa using he0
              have hr8 := HR8.out
              rw [if_neg he0] at hr8
              subst hr8
              clear he0
              go_wp2_with (first | (go_at_call 61; refine (HNM.out _).mono ?_; rintro e w4 ⟨rfl, hb4⟩; have hg4 := (hb4.block _ (lt_of_heap HG.out)).trans HG.out; obtain ⟨y0, y1, y2, y3, y4, y5, yf⟩ := six_cells hg4) | (go_at_call 55; refine (HCC.out _).mono ?_; rintro e w5 ⟨rfl, hb5⟩; have hr4 := (hb4.block _ (lt_of_heap HRES.out)).trans HRES.out; have hr5 := (hb5.block _ (lt_of_heap hr4)).trans hr4; obtain ⟨z0, z1, z2, z3, z4, z5, zf⟩ := six_cells hr5) | fail)
              have hbb := HW1.out.trans (HBX.out.mono HW1.out.size)
              have hbc := hbb.trans (hb4.mono hbb.size)
              exact parse_end rfl rfl (six_set hr5) rfl (six_below (hbc.trans (hb5.mono hbc.size))) _ rfl rfl
          · have ql : ((l.length : Int) != 4 + nm) = true := by simpa using hln
            have HLN := Lib.hid hln
            clear hln
            go_wp2_with (first | (go_at_call 61; refine (HNM.out _).mono ?_; rintro e w4 ⟨rfl, hb4⟩; have hr4 := (hb4.block _ (lt_of_heap HRES.out)).trans HRES.out; obtain ⟨z0, z1, z2, z3, z4, z5, zf⟩ := six_cells hr4) | fail)
            have hr7 := HR7.out
            rw [GOOD.out, parse2_noLen l (by rw [HX1.out, HKD.out, HN.out]; exact HLN.out)] at hr7
            subst hr7
            exact parse_end rfl rfl (six_set hr4) rfl (six_below ((HW1.out.trans (HBX.out.mono HW1.out.size)).trans (hb4.mono (HW1.out.trans (HBX.out.mono HW1.out.size)).size))) _ rfl rfl
end Go.Proofs.YtlglbpjccpdloaaGreatDoor.Tox
set_option linter.unusedVariables false
set_option linter.unusedSimpArgs false
namespace Go.Proofs.YtlglbpjccpdloaaGreatDoor.ToxZ
open Go.RowKit Go.Proofs.YtlglbpjccpdloaaGreatDoor.Tox
theorem parse_all (s : ByteArray) (w : World) (hs : s.size < 4294967281) :
    Calls Tryz.prog 51 #[.string s] w fun e w' => e = .returned (tup7 (parseOf s)) ∧ Below w.heap.size w w' := by
  by_cases hl : (Ext.parts s).length < 5 ∨ 6 < (Ext.parts s).length
  · have := parse_short s w hs hl
    rw [show parseOf s = bad7 90 by unfold parseOf parse1; rw [if_pos hl]]
    exact this
  · have h5 : ¬ (Ext.parts s).length < 5 := by omega
    have h6 : ¬ 6 < (Ext.parts s).length := by omega
    cases hc : Lib.containsS (Ext.parts s) ⟨#[]⟩
    · cases hu : (((Ext.parts s).getD 2 ByteArray.empty).toList == [117, 112])
      · cases hd : (((Ext.parts s).getD 2 ByteArray.empty).toList == [100, 111, 119, 110])
        · exact parse_way s w hs h5 h6 hc hu hd
        · exact parse_down s w hs h5 h6 hc hu (beq_iff_eq.1 hd)
      · exact parse_up s w hs h5 h6 hc (beq_iff_eq.1 hu)
    · exact parse_con s w hs h5 h6 hc
def toxic_Parse.f (a0 : ByteArray) : Option (ByteArray × Int × Bool × Int × Int × Int × Int) := if a0.size < 4294967281 then some (parseOf a0) else none
theorem toxic_Parse.calls (a0 : ByteArray) (r1 : ByteArray) (r2 : Int) (r3 : Bool) (r4 : Int) (r5 : Int) (r6 : Int) (r7 : Int) (w : World) (h : toxic_Parse.f a0 = some (r1, r2, r3, r4, r5, r6, r7)) :
    Calls Tryz.prog 51 #[.string a0] w fun e w' => e = .returned (.tuple #[.agg #[.string r1, .int .i64 r2, .bool r3, .int .i64 r4, .int .i64 r5, .int .i64 r6], .int .i64 r7]) ∧ Below w.heap.size w w' := by
  unfold toxic_Parse.f at h
  split at h
  · rename_i hs
    have := parse_all a0 w hs
    rw [Option.some.inj h] at this
    exact this
  · cases h
def toxic_Word.f (a0 : Int) : Option ByteArray := some (wordOf a0)
def toxic_Numbers.f (a0 : Int) : Option Int := some (numOf a0)
def toxic_Kind.f (a0 : ByteArray) : Option Int := some (kindOf a0)
def toxic_Check.f (a0_0 : ByteArray) (a0_1 : Int) (a0_2 : Bool) (a0_3 a0_4 a0_5 : Int) : Option Int := some (checkOf a0_0 a0_1 a0_2 a0_3 a0_4 a0_5)
def toxic_Right.f (a0_0 : ByteArray) (a0_1 : Int) (a0_2 : Bool) (a0_3 a0_4 a0_5 : Int) : Option Bool := some (checkOf a0_0 a0_1 a0_2 a0_3 a0_4 a0_5 == 0)
theorem toxic_Right.calls (a0_0 : ByteArray) (a0_1 : Int) (a0_2 : Bool) (a0_3 : Int) (a0_4 : Int) (a0_5 : Int) (r : Bool) (w : World) (h : toxic_Right.f a0_0 a0_1 a0_2 a0_3 a0_4 a0_5 = some r) :
    Calls Tryz.prog 34 #[.agg #[.string a0_0, .int .i64 a0_1, .bool a0_2, .int .i64 a0_3, .int .i64 a0_4, .int .i64 a0_5]] w fun e w' => e = .returned (.bool r) ∧ Below w.heap.size w w' :=
  PToxB.toxic_Right.calls a0_0 a0_1 a0_2 a0_3 a0_4 a0_5 r w (by rw [right_is]; exact h)
def toxic_Text.f (a0_0 : ByteArray) (a0_1 : Int) (a0_2 : Bool) (a0_3 a0_4 a0_5 : Int) : Option ByteArray := some (textOf a0_0 a0_1 a0_2 a0_3 a0_4 a0_5)
theorem toxic_Text.calls (a0_0 : ByteArray) (a0_1 : Int) (a0_2 : Bool) (a0_3 : Int) (a0_4 : Int) (a0_5 : Int) (r : ByteArray) (w : World) (h : toxic_Text.f a0_0 a0_1 a0_2 a0_3 a0_4 a0_5 = some r) :
    Calls Tryz.prog 37 #[.agg #[.string a0_0, .int .i64 a0_1, .bool a0_2, .int .i64 a0_3, .int .i64 a0_4, .int .i64 a0_5]] w fun e w' => e = .returned (.string r) ∧ Below w.heap.size w w' :=
  PToxB.toxic_Text.calls a0_0 a0_1 a0_2 a0_3 a0_4 a0_5 r w (by rw [text_is]; exact h)
end Go.Proofs.YtlglbpjccpdloaaGreatDoor.ToxZ
set_option linter.unusedVariables false
set_option linter.unusedSimpArgs false
namespace Go.Proofs.YtlglbpjccpdloaaGreatDoor.Ext
open Go.RowKit Go.Shelf Go.Proofs.YtlglbpjccpdloaaGreatDoorW.PrintWords Go.Proofs.YtlglbpjccpdloaaGreatDoorW.PrintLast Go.Proofs.YtlglbpjccpdloaaGreatDoor.PWrdA
def ordC (v : Int) (p m : ByteArray) (n : Int) (t0 : ByteArray) (t1 : Int) (t2 : Bool) (t3 t4 t5 : Int) : Array Value := #[.int .i64 v, .string p, .string m, .int .i64 n, .string t0, .int .i64 t1, .bool t2, .int .i64 t3, .int .i64 t4, .int .i64 t5]
theorem nothing_is (p v : Value) (w : World) :
    Calls Tryz.prog 25 #[p, v] w fun e w' => e = .returned (.int .i64 0) ∧ w' = w := by
  go_enter Tryz.func25, Tryz.ntmps25
  go_wp2
  go_ret
  exact ⟨rfl, rfl⟩
set_option maxRecDepth 100000 in
theorem name_is (g : Nat) (v : Int) (p : ByteArray) (A : Option Addr) (c : Nat) (l : List ByteArray) (hl : 0 < l.length) (W : World)
    (hbk : W.heap[g]? = some (.cells (ordC v p ⟨#[]⟩ 0 ⟨#[]⟩ 0 false 0 0 0) 27 (0, 0))) (hr : Kd.C Kd.string W A l.length l) (hc : l.length ≤ c) :
    Calls Tryz.prog 27 #[.pointer (some ⟨g, 0, none⟩), .slice A l.length c] W fun e w' => e = .returned (.int .i64 0) ∧ w' = W.setCell ⟨g, 2, none⟩ (.string l[0]) := by
  unfold ordC at hbk
  obtain ⟨ad, ha, hx⟩ := Kd.at_string hr 0 (by omega) (by omega)
  cases ha
  rw [show rdOf ByteArray.empty l 0 = l[0] from rdS_at l 0 hl] at hx
  have hz : W.cell? ⟨g, 2, none⟩ = some (.string ⟨#[]⟩) := (blk_cell hbk 2).trans rfl
  have hf := blk_frozen hbk 2
  have q1 : (0 : Int) < (l.length : Int) := by omega
  obtain ⟨s, hs⟩ : ∃ s, l[0] = s := ⟨_, rfl⟩
  rw [hs] at hx ⊢
  have HX : _ = some (Value.string s) := hx
  rw [show ad.add (0 : Int).toNat = ad by simp [Addr.add]] at HX
  clear hs hr hc hx
  go_enter Tryz.func27, Tryz.ntmps27
  go_wp2
  go_ret
  exact ⟨rfl, rfl⟩
set_option maxRecDepth 100000 in
theorem number_is (g : Nat) (v : Int) (p : ByteArray) (A : Option Addr) (c : Nat) (l : List ByteArray) (hl : 0 < l.length) (W : World)
    (hbk : W.heap[g]? = some (.cells (ordC v p ⟨#[]⟩ 0 ⟨#[]⟩ 0 false 0 0 0) 27 (0, 0))) (hr : Kd.C Kd.string W A l.length l) (hc : l.length ≤ c) (n er : Int) (hp : tickParse l[0] = (n, er)) :
    Calls Tryz.prog 26 #[.pointer (some ⟨g, 0, none⟩), .slice A l.length c] W fun e w' => ∃ W1, Below W.heap.size W W1 ∧
      ((er = 0 ∧ e = .returned (.int .i64 0) ∧ w' = W1.setCell ⟨g, 3, none⟩ (.int .i64 n)) ∨ (er ≠ 0 ∧ e = .returned (.int .i64 162) ∧ w' = W1)) := by
  have hbk0 := hbk
  unfold ordC at hbk
  obtain ⟨ad, ha, hx⟩ := Kd.at_string hr 0 (by omega) (by omega)
  cases ha
  rw [show rdOf ByteArray.empty l 0 = l[0] from rdS_at l 0 hl] at hx
  have q1 : (0 : Int) < (l.length : Int) := by omega
  obtain ⟨s, hs⟩ : ∃ s, l[0] = s := ⟨_, rfl⟩
  rw [hs] at hx hp
  have HX : _ = some (Value.string s) := hx
  rw [show ad.add (0 : Int).toNat = ad by simp [Addr.add]] at HX
  have HP := Lib.hid (fun W1 => tick_Parse.calls s n er W1 (by unfold tick_Parse.f; rw [hp]))
  have HBK := Lib.hid hbk
  clear hs hr hc hx hbk hp hbk0
  by_cases h0 : er = 0
  · subst h0
    go_enter Tryz.func26, Tryz.ntmps26
    go_wp2_with (go_at_call 49; refine (HP.out _).mono ?_; rintro e W1 ⟨rfl, hb⟩; have HB := Lib.hid hb; have hbk1 := blk_below (g := g) HBK.out hb; have hz : W1.cell? ⟨g, 3, none⟩ = some (.int .i64 0) := (blk_cell hbk1 3).trans rfl; have hf := blk_frozen hbk1 3; clear hb hbk1)
    go_ret
    exact ⟨_, HB.out, .inl ⟨(by first | rfl | trivial), (by first | rfl | trivial), (by first | rfl | trivial)⟩⟩
  · have h1 : (er != 0) = true := by rw [bne_iff_ne]; exact h0
    go_enter Tryz.func26, Tryz.ntmps26
    go_wp2_with (go_at_call 49; refine (HP.out _).mono ?_; rintro e W1 ⟨rfl, hb⟩; have HB := Lib.hid hb; clear hb)
    go_ret
    exact ⟨_, HB.out, .inr ⟨h0, rfl, rfl⟩⟩
end Go.Proofs.YtlglbpjccpdloaaGreatDoor.Ext
set_option linter.unusedVariables false
namespace Go.Proofs.YtlglbpjccpdloaaGreatDoor.Ext
open Go.RowKit Go.Proofs.YtlglbpjccpdloaaGreatDoorW.PrintWords Go.Proofs.YtlglbpjccpdloaaGreatDoor.PWrdA Go.Proofs.YtlglbpjccpdloaaGreatDoor.ToxZ Go.Proofs.YtlglbpjccpdloaaGreatDoor.Tox
abbrev T11 := Int × ByteArray × ByteArray × Int × ByteArray × Int × Bool × Int × Int × Int × Int
def none11 (e : Int) : T11 := (0, ⟨#[]⟩, ⟨#[]⟩, 0, ⟨#[]⟩, 0, false, 0, 0, 0, e)
def mostOf (v : Int) : Int × Int := if v = 8 ∨ v = 10 then (0, 0) else if v = 5 ∨ v = 7 then (6, 7) else if v = 1 ∨ v = 6 then (2, 2) else (1, 1)
theorem noProxy_is (v : Int) : order_noProxy.f v = some (decide (v = 8 ∨ v = 10)) := by
  unfold order_noProxy.f
  by_cases h : v = 8
  · rw [if_pos h]; simp [h]
  · rw [if_neg h]; congr 1; rw [Bool.eq_iff_iff]; simp [h]
theorem toxical_is (v : Int) : order_toxical.f v = some (decide (v = 5 ∨ v = 7)) := by
  unfold order_toxical.f
  by_cases h : v = 5
  · rw [if_pos h]; simp [h]
  · rw [if_neg h]; congr 1; rw [Bool.eq_iff_iff]; simp [h]
theorem most_is (v : Int) : order_most.f v = some (mostOf v) := by
  unfold order_most.f mostOf
  rw [noProxy_is, Option.bind_some]
  by_cases h : v = 8 ∨ v = 10
  · rw [if_pos (decide_eq_true h), if_pos h]
  · rw [if_neg (by simp [h]), if_neg h, toxical_is, Option.bind_some]
    by_cases h2 : v = 5 ∨ v = 7
    · rw [if_pos (decide_eq_true h2), if_pos h2]
    · rw [if_neg (by simp [h2]), if_neg h2]
      by_cases h3 : v = 1
      · rw [if_pos h3, if_pos (.inl h3)]
      · rw [if_neg h3]
        by_cases h4 : v = 6
        · rw [if_pos h4, if_pos (.inr h4)]
        · rw [if_neg h4, if_neg (by simp [h3, h4])]
def badW (s : ByteArray) : Bool := decide (s.size = 0) || hasTab s
def toxW (l : List ByteArray) : ByteArray × Int × Bool × Int × Int × Int × Int := if l.any badW = true then (⟨#[]⟩, 0, false, 0, 0, 0, 90) else parseOf (joined l ⟨#[32]⟩)
def fromW (l : List ByteArray) : T11 :=
  if l = [] then none11 160 else
  let v := (verbOf l).1
  let r := (verbOf l).2
  if v = 0 then none11 162 else
  if (r.length : Int) < (mostOf v).1 ∨ (mostOf v).2 < (r.length : Int) then none11 161 else
  if v = 8 ∨ v = 10 then (v, ⟨#[]⟩, ⟨#[]⟩, 0, ⟨#[]⟩, 0, false, 0, 0, 0, 0) else
  let p := r.getD 0 ⟨#[]⟩
  if v = 1 then (if (tickParse (r.getD 1 ⟨#[]⟩)).2 = 0 then (v, p, ⟨#[]⟩, (tickParse (r.getD 1 ⟨#[]⟩)).1, ⟨#[]⟩, 0, false, 0, 0, 0, 0) else none11 162) else
  if v = 6 then (v, p, r.getD 1 ⟨#[]⟩, 0, ⟨#[]⟩, 0, false, 0, 0, 0, 0) else
  if v = 5 ∨ v = 7 then
    let t := toxW (r.drop 1)
    (if t.2.2.2.2.2.2 = 0 then (v, p, ⟨#[]⟩, 0, t.1, t.2.1, t.2.2.1, t.2.2.2.1, t.2.2.2.2.1, t.2.2.2.2.2.1, 0) else none11 t.2.2.2.2.2.2)
  else (v, p, ⟨#[]⟩, 0, ⟨#[]⟩, 0, false, 0, 0, 0, 0)
end Go.Proofs.YtlglbpjccpdloaaGreatDoor.Ext
namespace Go.Proofs.YtlglbpjccpdloaaGreatDoor.POrdT
open Go.Proofs.YtlglbpjccpdloaaGreatDoor.Ext Go.Proofs.YtlglbpjccpdloaaGreatDoor.ToxZ Go.RowKit Go.Proofs.YtlglbpjccpdloaaGreatDoorW.PrintWords Go.Proofs.YtlglbpjccpdloaaGreatDoorW.PrintLast Go.Proofs.YtlglbpjccpdloaaGreatDoorW.PrintMore
attribute [local go_sem] max2_int min2_int max_two min_two max_three min_three max_four min_four   -- for this text's walks alone
set_option linter.unusedVariables false
set_option linter.unusedSimpArgs false
def errW : Option Int → Value
 | none => .nilIface
 | some c => .iface 0 (.int .i64 c)
theorem errW_none : errW none = .nilIface := rfl
theorem errW_some (c : Int) : errW (some c) = .iface 0 (.int .i64 c) := rfl
end Go.Proofs.YtlglbpjccpdloaaGreatDoor.POrdT
namespace Go.Proofs.YtlglbpjccpdloaaGreatDoor.POrdT
open Go.Proofs.YtlglbpjccpdloaaGreatDoor.Ext Go.Proofs.YtlglbpjccpdloaaGreatDoor.ToxZ Go.RowKit Go.Proofs.YtlglbpjccpdloaaGreatDoorW.PrintWords Go.Proofs.YtlglbpjccpdloaaGreatDoorW.PrintLast Go.Proofs.YtlglbpjccpdloaaGreatDoorW.PrintMore
attribute [local go_sem] max2_int min2_int max_two min_two max_three min_three max_four min_four   -- for this text's walks alone
set_option linter.unusedVariables false
set_option linter.unusedSimpArgs false
def IsS27 (w0 W : World) (g : Nat) (f0 : Int) (f1 : ByteArray) (f2 : ByteArray) (f3 : Int) (f4 : ByteArray) (f5 : Int) (f6 : Bool) (f7 : Int) (f8 : Int) (f9 : Int) : Prop := W.heap[g]? = some (.cells #[.int .i64 f0, .string f1, .string f2, .int .i64 f3, .string f4, .int .i64 f5, .bool f6, .int .i64 f7, .int .i64 f8, .int .i64 f9] 27 (0, 0)) ∧ w0.heap.size ≤ g
theorem IsS27.grown {w0 W : World} {g : Nat} {f0 : Int} {f1 : ByteArray} {f2 : ByteArray} {f3 : Int} {f4 : ByteArray} {f5 : Int} {f6 : Bool} {f7 : Int} {f8 : Int} {f9 : Int} {W1 : World} {row : Option Nat} (h : IsS27 w0 W g f0 f1 f2 f3 f4 f5 f6 f7 f8 f9) (hw : W.grownBy W1 row) (hne : some g ≠ row) : IsS27 w0 W1 g f0 f1 f2 f3 f4 f5 f6 f7 f8 f9 := by
 obtain ⟨hb, hg⟩ := h
 exact ⟨blk_grown hb hw hne, hg⟩
theorem IsS27.below {w0 W : World} {g : Nat} {f0 : Int} {f1 : ByteArray} {f2 : ByteArray} {f3 : Int} {f4 : ByteArray} {f5 : Int} {f6 : Bool} {f7 : Int} {f8 : Int} {f9 : Int} {W1 : World} (h : IsS27 w0 W g f0 f1 f2 f3 f4 f5 f6 f7 f8 f9) (hw : Below W.heap.size W W1) : IsS27 w0 W1 g f0 f1 f2 f3 f4 f5 f6 f7 f8 f9 := h.grown (grown_of_below hw none) (by simp)
theorem IsS27.lt {w0 W : World} {g : Nat} {f0 : Int} {f1 : ByteArray} {f2 : ByteArray} {f3 : Int} {f4 : ByteArray} {f5 : Int} {f6 : Bool} {f7 : Int} {f8 : Int} {f9 : Int} (h : IsS27 w0 W g f0 f1 f2 f3 f4 f5 f6 f7 f8 f9) : g < W.heap.size := by
 obtain ⟨hb, hg⟩ := h
 exact blk_lt hb
theorem IsS27.ge {w0 W : World} {g : Nat} {f0 : Int} {f1 : ByteArray} {f2 : ByteArray} {f3 : Int} {f4 : ByteArray} {f5 : Int} {f6 : Bool} {f7 : Int} {f8 : Int} {f9 : Int} (h : IsS27 w0 W g f0 f1 f2 f3 f4 f5 f6 f7 f8 f9) : w0.heap.size ≤ g := by
 obtain ⟨hb, hg⟩ := h
 exact hg
theorem IsS27.far {w0 W : World} {g : Nat} {f0 : Int} {f1 : ByteArray} {f2 : ByteArray} {f3 : Int} {f4 : ByteArray} {f5 : Int} {f6 : Bool} {f7 : Int} {f8 : Int} {f9 : Int} {p : Addr} (h : IsS27 w0 W g f0 f1 f2 f3 f4 f5 f6 f7 f8 f9) (hne : g ≠ p.block) (u : Value) : IsS27 w0 (W.setCell p u) g f0 f1 f2 f3 f4 f5 f6 f7 f8 f9 := by
 obtain ⟨hb, hg⟩ := h
 exact ⟨blk_far hb hne u, hg⟩
theorem cellS27_0 {W : World} {g : Nat} {f0 : Int} {f1 : ByteArray} {f2 : ByteArray} {f3 : Int} {f4 : ByteArray} {f5 : Int} {f6 : Bool} {f7 : Int} {f8 : Int} {f9 : Int} (h : W.heap[g]? = some (.cells #[.int .i64 f0, .string f1, .string f2, .int .i64 f3, .string f4, .int .i64 f5, .bool f6, .int .i64 f7, .int .i64 f8, .int .i64 f9] 27 (0, 0))) : W.cell? ⟨g, 0, none⟩ = some (.int .i64 f0) := (blk_cell h 0).trans rfl
theorem cellS27_1 {W : World} {g : Nat} {f0 : Int} {f1 : ByteArray} {f2 : ByteArray} {f3 : Int} {f4 : ByteArray} {f5 : Int} {f6 : Bool} {f7 : Int} {f8 : Int} {f9 : Int} (h : W.heap[g]? = some (.cells #[.int .i64 f0, .string f1, .string f2, .int .i64 f3, .string f4, .int .i64 f5, .bool f6, .int .i64 f7, .int .i64 f8, .int .i64 f9] 27 (0, 0))) : W.cell? ⟨g, 1, none⟩ = some (.string f1) := (blk_cell h 1).trans rfl
theorem cellS27_2 {W : World} {g : Nat} {f0 : Int} {f1 : ByteArray} {f2 : ByteArray} {f3 : Int} {f4 : ByteArray} {f5 : Int} {f6 : Bool} {f7 : Int} {f8 : Int} {f9 : Int} (h : W.heap[g]? = some (.cells #[.int .i64 f0, .string f1, .string f2, .int .i64 f3, .string f4, .int .i64 f5, .bool f6, .int .i64 f7, .int .i64 f8, .int .i64 f9] 27 (0, 0))) : W.cell? ⟨g, 2, none⟩ = some (.string f2) := (blk_cell h 2).trans rfl
theorem cellS27_3 {W : World} {g : Nat} {f0 : Int} {f1 : ByteArray} {f2 : ByteArray} {f3 : Int} {f4 : ByteArray} {f5 : Int} {f6 : Bool} {f7 : Int} {f8 : Int} {f9 : Int} (h : W.heap[g]? = some (.cells #[.int .i64 f0, .string f1, .string f2, .int .i64 f3, .string f4, .int .i64 f5, .bool f6, .int .i64 f7, .int .i64 f8, .int .i64 f9] 27 (0, 0))) : W.cell? ⟨g, 3, none⟩ = some (.int .i64 f3) := (blk_cell h 3).trans rfl
theorem cellS27_4 {W : World} {g : Nat} {f0 : Int} {f1 : ByteArray} {f2 : ByteArray} {f3 : Int} {f4 : ByteArray} {f5 : Int} {f6 : Bool} {f7 : Int} {f8 : Int} {f9 : Int} (h : W.heap[g]? = some (.cells #[.int .i64 f0, .string f1, .string f2, .int .i64 f3, .string f4, .int .i64 f5, .bool f6, .int .i64 f7, .int .i64 f8, .int .i64 f9] 27 (0, 0))) : W.cell? ⟨g, 4, none⟩ = some (.string f4) := (blk_cell h 4).trans rfl
theorem IsS27.set_4 {w0 W : World} {g : Nat} {f0 : Int} {f1 : ByteArray} {f2 : ByteArray} {f3 : Int} {f4 : ByteArray} {f5 : Int} {f6 : Bool} {f7 : Int} {f8 : Int} {f9 : Int} (h : IsS27 w0 W g f0 f1 f2 f3 f4 f5 f6 f7 f8 f9) (x : ByteArray) : IsS27 w0 (W.setCell ⟨g, 4, none⟩ (.string x)) g f0 f1 f2 f3 x f5 f6 f7 f8 f9 := by
 obtain ⟨hb, hg⟩ := h
 exact ⟨by simpa using blk_set hb 4 (.string x), hg⟩
theorem cellS27_5 {W : World} {g : Nat} {f0 : Int} {f1 : ByteArray} {f2 : ByteArray} {f3 : Int} {f4 : ByteArray} {f5 : Int} {f6 : Bool} {f7 : Int} {f8 : Int} {f9 : Int} (h : W.heap[g]? = some (.cells #[.int .i64 f0, .string f1, .string f2, .int .i64 f3, .string f4, .int .i64 f5, .bool f6, .int .i64 f7, .int .i64 f8, .int .i64 f9] 27 (0, 0))) : W.cell? ⟨g, 5, none⟩ = some (.int .i64 f5) := (blk_cell h 5).trans rfl
theorem IsS27.set_5 {w0 W : World} {g : Nat} {f0 : Int} {f1 : ByteArray} {f2 : ByteArray} {f3 : Int} {f4 : ByteArray} {f5 : Int} {f6 : Bool} {f7 : Int} {f8 : Int} {f9 : Int} (h : IsS27 w0 W g f0 f1 f2 f3 f4 f5 f6 f7 f8 f9) (x : Int) : IsS27 w0 (W.setCell ⟨g, 5, none⟩ (.int .i64 x)) g f0 f1 f2 f3 f4 x f6 f7 f8 f9 := by
 obtain ⟨hb, hg⟩ := h
 exact ⟨by simpa using blk_set hb 5 (.int .i64 x), hg⟩
theorem cellS27_6 {W : World} {g : Nat} {f0 : Int} {f1 : ByteArray} {f2 : ByteArray} {f3 : Int} {f4 : ByteArray} {f5 : Int} {f6 : Bool} {f7 : Int} {f8 : Int} {f9 : Int} (h : W.heap[g]? = some (.cells #[.int .i64 f0, .string f1, .string f2, .int .i64 f3, .string f4, .int .i64 f5, .bool f6, .int .i64 f7, .int .i64 f8, .int .i64 f9] 27 (0, 0))) : W.cell? ⟨g, 6, none⟩ = some (.bool f6) := (blk_cell h 6).trans rfl
theorem IsS27.set_6 {w0 W : World} {g : Nat} {f0 : Int} {f1 : ByteArray} {f2 : ByteArray} {f3 : Int} {f4 : ByteArray} {f5 : Int} {f6 : Bool} {f7 : Int} {f8 : Int} {f9 : Int} (h : IsS27 w0 W g f0 f1 f2 f3 f4 f5 f6 f7 f8 f9) (x : Bool) : IsS27 w0 (W.setCell ⟨g, 6, none⟩ (.bool x)) g f0 f1 f2 f3 f4 f5 x f7 f8 f9 := by
 obtain ⟨hb, hg⟩ := h
 exact ⟨by simpa using blk_set hb 6 (.bool x), hg⟩
theorem cellS27_7 {W : World} {g : Nat} {f0 : Int} {f1 : ByteArray} {f2 : ByteArray} {f3 : Int} {f4 : ByteArray} {f5 : Int} {f6 : Bool} {f7 : Int} {f8 : Int} {f9 : Int} (h : W.heap[g]? = some (.cells #[.int .i64 f0, .string f1, .string f2, .int .i64 f3, .string f4, .int .i64 f5, .bool f6, .int .i64 f7, .int .i64 f8, .int .i64 f9] 27 (0, 0))) : W.cell? ⟨g, 7, none⟩ = some (.int .i64 f7) := (blk_cell h 7).trans rfl
theorem IsS27.set_7 {w0 W : World} {g : Nat} {f0 : Int} {f1 : ByteArray} {f2 : ByteArray} {f3 : Int} {f4 : ByteArray} {f5 : Int} {f6 : Bool} {f7 : Int} {f8 : Int} {f9 : Int} (h : IsS27 w0 W g f0 f1 f2 f3 f4 f5 f6 f7 f8 f9) (x : Int) : IsS27 w0 (W.setCell ⟨g, 7, none⟩ (.int .i64 x)) g f0 f1 f2 f3 f4 f5 f6 x f8 f9 := by
 obtain ⟨hb, hg⟩ := h
 exact ⟨by simpa using blk_set hb 7 (.int .i64 x), hg⟩
theorem cellS27_8 {W : World} {g : Nat} {f0 : Int} {f1 : ByteArray} {f2 : ByteArray} {f3 : Int} {f4 : ByteArray} {f5 : Int} {f6 : Bool} {f7 : Int} {f8 : Int} {f9 : Int} (h : W.heap[g]? = some (.cells #[.int .i64 f0, .string f1, .string f2, .int .i64 f3, .string f4, .int .i64 f5, .bool f6, .int .i64 f7, .int .i64 f8, .int .i64 f9] 27 (0, 0))) : W.cell? ⟨g, 8, none⟩ = some (.int .i64 f8) := (blk_cell h 8).trans rfl
theorem IsS27.set_8 {w0 W : World} {g : Nat} {f0 : Int} {f1 : ByteArray} {f2 : ByteArray} {f3 : Int} {f4 : ByteArray} {f5 : Int} {f6 : Bool} {f7 : Int} {f8 : Int} {f9 : Int} (h : IsS27 w0 W g f0 f1 f2 f3 f4 f5 f6 f7 f8 f9) (x : Int) : IsS27 w0 (W.setCell ⟨g, 8, none⟩ (.int .i64 x)) g f0 f1 f2 f3 f4 f5 f6 f7 x f9 := by
 obtain ⟨hb, hg⟩ := h
 exact ⟨by simpa using blk_set hb 8 (.int .i64 x), hg⟩
theorem cellS27_9 {W : World} {g : Nat} {f0 : Int} {f1 : ByteArray} {f2 : ByteArray} {f3 : Int} {f4 : ByteArray} {f5 : Int} {f6 : Bool} {f7 : Int} {f8 : Int} {f9 : Int} (h : W.heap[g]? = some (.cells #[.int .i64 f0, .string f1, .string f2, .int .i64 f3, .string f4, .int .i64 f5, .bool f6, .int .i64 f7, .int .i64 f8, .int .i64 f9] 27 (0, 0))) : W.cell? ⟨g, 9, none⟩ = some (.int .i64 f9) := (blk_cell h 9).trans rfl
theorem IsS27.set_9 {w0 W : World} {g : Nat} {f0 : Int} {f1 : ByteArray} {f2 : ByteArray} {f3 : Int} {f4 : ByteArray} {f5 : Int} {f6 : Bool} {f7 : Int} {f8 : Int} {f9 : Int} (h : IsS27 w0 W g f0 f1 f2 f3 f4 f5 f6 f7 f8 f9) (x : Int) : IsS27 w0 (W.setCell ⟨g, 9, none⟩ (.int .i64 x)) g f0 f1 f2 f3 f4 f5 f6 f7 f8 x := by
 obtain ⟨hb, hg⟩ := h
 exact ⟨by simpa using blk_set hb 9 (.int .i64 x), hg⟩
def order_Order_toxic.l0 : Nat → List ByteArray → List ByteArray → Int → Int → Int → ByteArray → ByteArray → Int → ByteArray → Int → Bool → Int → Int → Int → Option (Int × Int × ByteArray × ByteArray × Int × ByteArray × Int × Bool × Int × Int × Int)
 | 0, _, _, _, _, _, _, _, _, _, _, _, _, _, _ => none
 | k + 1, x1, x9, x10, x11, x1000, x1001, x1002, x1003, x1004, x1005, x1006, x1007, x1008, x1009 => if x11 < x10 then (if 0 ≤ x11 then (if x11 < (x9.length : Int) then (if (rdOf ByteArray.empty x9 x11).toList = ([] : List UInt8) then (some (90, x1000, x1001, x1002, x1003, x1004, x1005, x1006, x1007, x1008, x1009)) else ((strings_ContainsAny.f (rdOf ByteArray.empty x9 x11) (⟨#[32, 9]⟩ : ByteArray)).bind fun t102 => (if t102 = true then (some (90, x1000, x1001, x1002, x1003, x1004, x1005, x1006, x1007, x1008, x1009)) else (order_Order_toxic.l0 k x1 x9 x10 (wrap64 (x11 + 1)) x1000 x1001 x1002 x1003 x1004 x1005 x1006 x1007 x1008 x1009)))) else (none)) else (none)) else ((strings_Join.f x1 (⟨#[32]⟩ : ByteArray)).bind fun t103 => ((toxic_Parse.f t103).bind fun bt104 => (some (bt104.2.2.2.2.2.2, x1000, x1001, x1002, x1003, bt104.1, bt104.2.1, bt104.2.2.1, bt104.2.2.2.1, bt104.2.2.2.2.1, bt104.2.2.2.2.2.1))))
def order_Order_toxic.f (k : Nat) (s0_0 : Int) (s0_1 : ByteArray) (s0_2 : ByteArray) (s0_3 : Int) (s0_4 : ByteArray) (s0_5 : Int) (s0_6 : Bool) (s0_7 : Int) (s0_8 : Int) (s0_9 : Int) (l1 : List ByteArray) : Option (Int × Int × ByteArray × ByteArray × Int × ByteArray × Int × Bool × Int × Int × Int) := order_Order_toxic.l0 k l1 l1 (l1.length : Int) 0 s0_0 s0_1 s0_2 s0_3 s0_4 s0_5 s0_6 s0_7 s0_8 s0_9
set_option maxHeartbeats 8000000 in
set_option maxRecDepth 100000 in
theorem order_Order_toxic.calls (k : Nat) (g : Nat) (s0_0 : Int) (s0_1 : ByteArray) (s0_2 : ByteArray) (s0_3 : Int) (s0_4 : ByteArray) (s0_5 : Int) (s0_6 : Bool) (s0_7 : Int) (s0_8 : Int) (s0_9 : Int) (A1 : Option Addr) (c1 : Nat) (l1 : List ByteArray) (r1 : Int) (r2 : Int) (r3 : ByteArray) (r4 : ByteArray) (r5 : Int) (r6 : ByteArray) (r7 : Int) (r8 : Bool) (r9 : Int) (r10 : Int) (r11 : Int) (w0 w : World) (hI : IsS27 w0 w g s0_0 s0_1 s0_2 s0_3 s0_4 s0_5 s0_6 s0_7 s0_8 s0_9) (hB : Below w0.heap.size w0 w) (hr1 : Kd.C Kd.string w A1 l1.length l1) (hc1 : l1.length ≤ c1) (hf1 : ∀ ad, A1 = some ad → 0 < l1.length → ad.block ≠ g) (h : order_Order_toxic.f k s0_0 s0_1 s0_2 s0_3 s0_4 s0_5 s0_6 s0_7 s0_8 s0_9 l1 = some (r1, r2, r3, r4, r5, r6, r7, r8, r9, r10, r11)) :
  Calls Tryz.prog 29 #[.pointer (some ⟨g, 0, none⟩), .slice A1 l1.length c1] w fun e w' => e = .returned (.int .i64 r1) ∧ IsS27 w0 w' g r2 r3 r4 r5 r6 r7 r8 r9 r10 r11 ∧ Below w0.heap.size w0 w' ∧ KeepBut w w' g none := by
 have hu25 := Tryz.underlying25
 have HR1 := Aside0.mk hr1
 have HC1 := Aside0.mk hc1
 clear hr1 hc1
 have HI0 := Aside0.mk hI
 have HK := Aside0.mk (KeepBut.refl w g none)
 have HL := Aside0.mk hB.size
 clear hI
 have HW0 := Aside0.mk hB.size
 have HB := Aside0.mk hB
 clear hB
 have H : (order_Order_toxic.l0 k l1 l1 (l1.length : Int) 0 s0_0 s0_1 s0_2 s0_3 s0_4 s0_5 s0_6 s0_7 s0_8 s0_9) = some (r1, r2, r3, r4, r5, r6, r7, r8, r9, r10, r11) := h
 clear h
 have H' := Aside0.mk H
 clear H
 go_enter Tryz.func29, Tryz.ntmps29
 go_wp2
 go_loopg [11] k (fun kq v11 w' => ∃ (x11_1 : Int), v11 = .int .i64 x11_1 ∧ Aside0 (order_Order_toxic.l0 kq l1 l1 (l1.length : Int) x11_1 s0_0 s0_1 s0_2 s0_3 s0_4 s0_5 s0_6 s0_7 s0_8 s0_9 = some (r1, r2, r3, r4, r5, r6, r7, r8, r9, r10, r11)) ∧ Aside0 (kq ≤ k) ∧ Aside0 (IsS27 w0 w' g s0_0 s0_1 s0_2 s0_3 s0_4 s0_5 s0_6 s0_7 s0_8 s0_9) ∧ Aside0 (KeepBut w w' g none) ∧ Aside0 (Below w0.heap.size w0 w'))
 case atStart => exact ⟨(0), (by first | rfl | (simp; done) | (simp [*]; done)), H', ⟨Nat.le_refl _⟩, ⟨by repeat (first | (with_reducible first | exact HI0.out | apply IsS27.alloc | apply IsS27.drewN | apply IsS27.drew | apply IsS27.set_0 | apply IsS27.set_1 | apply IsS27.set_2 | apply IsS27.set_3 | apply IsS27.set_4 | apply IsS27.set_5 | apply IsS27.set_6 | apply IsS27.set_7 | apply IsS27.set_8 | apply IsS27.set_9) | exact HI0.out)⟩, ⟨by repeat (first | (with_reducible first | exact HK.out | apply KeepBut.set_ | apply keep_drewN | apply keep_drew | apply keep_alloc) | exact HK.out)⟩, ⟨by repeat (first | (with_reducible first | exact HB.out | apply below_alloc | apply pw_below_drewN | apply below_drew1 | refine below_set ?_ (IsS27.ge HI0.out)) | exact HB.out)⟩⟩
 case round =>
  clear H'
  try clear c1
  try clear c2
  try clear p2
  obtain ⟨x11_1, rfl, HA, HK1, HI0, HK, HB⟩ := hrel
  cases gk with
  | zero => exact absurd HA.out (by simp [order_Order_toxic.l0])
  | succ k1 =>
   have H := HA.out
   clear HA
   simp only [order_Order_toxic.l0] at H
   by_cases c3 : x11_1 < (l1.length : Int)
   ·rw [if_pos c3] at H
    have c3b0 : decide (x11_1 < (l1.length : Int)) = true := decide_eq_true c3
    clear c3
    by_cases c4 : 0 ≤ x11_1
    ·rw [if_pos c4] at H
     have c4b0 : decide (0 ≤ x11_1) = true := decide_eq_true c4
     clear c4
     by_cases c5 : x11_1 < (l1.length : Int)
     ·rw [if_pos c5] at H
      have c5b0 : decide (x11_1 < (l1.length : Int)) = true := decide_eq_true c5
      clear c5
      by_cases c6 : (rdOf ByteArray.empty l1 x11_1).toList = ([] : List UInt8)
      ·rw [if_pos c6] at H
       have c6b0 : ((rdOf ByteArray.empty l1 x11_1).toList == ([] : List UInt8)) = true := beq_iff_eq.mpr c6
       have c6b1 : ((rdOf ByteArray.empty l1 x11_1).toList != ([] : List UInt8)) = false := bne_eq_false_iff_eq.mpr c6
       clear c6
       simp only [Option.some.injEq, Prod.mk.injEq] at H
       obtain ⟨rfl, rfl, rfl, rfl, rfl, rfl, rfl, rfl, rfl, rfl, rfl⟩ := H
       have p101 : 0 ≤ (x11_1 : Int) := of_decide_eq_true (by first | (with_reducible assumption) | assumption)
       have q101 : x11_1 < (l1.length : Int) := of_decide_eq_true (by first | (with_reducible assumption) | assumption)
       obtain ⟨ad101, e101, hx101_0⟩ := Kd.at_string HR1.out x11_1 p101 q101
       cases e101
       replace hx101_0 := keep_cell HK.out hx101_0 (by first | (rw [add_block]; exact hf1 _ rfl (by omega)) | exact hf1 _ rfl (by omega) | exact hf1 ad101 rfl (by omega))
       replace p101 := eq_true p101
       replace q101 := eq_true q101
       go_wp2
       go_ret
       exact ⟨by first | rfl | (simp [errW_none, errW_some] <;> rfl) | (simp [*, errW_none, errW_some] <;> rfl), by repeat (first | (with_reducible first | exact HI0.out | apply IsS27.alloc | apply IsS27.drewN | apply IsS27.drew | apply IsS27.set_0 | apply IsS27.set_1 | apply IsS27.set_2 | apply IsS27.set_3 | apply IsS27.set_4 | apply IsS27.set_5 | apply IsS27.set_6 | apply IsS27.set_7 | apply IsS27.set_8 | apply IsS27.set_9) | exact HI0.out), by repeat (first | (with_reducible first | exact HB.out | apply below_alloc | apply pw_below_drewN | apply below_drew1 | refine below_set ?_ (IsS27.ge HI0.out)) | exact HB.out), by repeat (first | (with_reducible first | exact HK.out | apply KeepBut.set_ | apply keep_drewN | apply keep_drew | apply keep_alloc) | exact HK.out)⟩
      ·rw [if_neg c6] at H
       have c6b0 : ((rdOf ByteArray.empty l1 x11_1).toList == ([] : List UInt8)) = false := beq_eq_false_iff_ne.mpr c6
       have c6b1 : ((rdOf ByteArray.empty l1 x11_1).toList != ([] : List UInt8)) = true := bne_iff_ne.mpr c6
       replace H := Option.bind_eq_some_iff.mp H
       obtain ⟨t102, A70, H⟩ := H
       replace H : (if t102 = true then (some (90, s0_0, s0_1, s0_2, s0_3, s0_4, s0_5, s0_6, s0_7, s0_8, s0_9)) else (order_Order_toxic.l0 k1 l1 l1 (l1.length : Int) (wrap64 (x11_1 + 1)) s0_0 s0_1 s0_2 s0_3 s0_4 s0_5 s0_6 s0_7 s0_8 s0_9)) = some (r1, r2, r3, r4, r5, r6, r7, r8, r9, r10, r11) := H
       have A7 := Aside0.mk A70
       clear A70
       by_cases c8 : t102 = true
       ·subst c8
        have H1 : (some (90, s0_0, s0_1, s0_2, s0_3, s0_4, s0_5, s0_6, s0_7, s0_8, s0_9)) = some (r1, r2, r3, r4, r5, r6, r7, r8, r9, r10, r11) := by rw [if_pos rfl] at H; exact H
        clear H
        have H := H1
        clear H1
        simp only [Option.some.injEq, Prod.mk.injEq] at H
        obtain ⟨rfl, rfl, rfl, rfl, rfl, rfl, rfl, rfl, rfl, rfl, rfl⟩ := H
        have p101 : 0 ≤ (x11_1 : Int) := of_decide_eq_true (by first | (with_reducible assumption) | assumption)
        have q101 : x11_1 < (l1.length : Int) := of_decide_eq_true (by first | (with_reducible assumption) | assumption)
        obtain ⟨ad101, e101, hx101_0⟩ := Kd.at_string HR1.out x11_1 p101 q101
        cases e101
        replace hx101_0 := keep_cell HK.out hx101_0 (by first | (rw [add_block]; exact hf1 _ rfl (by omega)) | exact hf1 _ rfl (by omega) | exact hf1 ad101 rfl (by omega))
        replace p101 := eq_true p101
        replace q101 := eq_true q101
        go_wp2_with (first | (go_at_call 50; (with_reducible refine (strings_ContainsAny.calls (rdOf ByteArray.empty l1 x11_1) (⟨#[32, 9]⟩ : ByteArray) true _ A7.out).mono ?_); rintro e w9 ⟨rfl, hb⟩; have n0_ := Aside0.mk (IsS27.below (by repeat (first | (with_reducible first | exact HI0.out | apply IsS27.alloc | apply IsS27.drewN | apply IsS27.drew | apply IsS27.set_0 | apply IsS27.set_1 | apply IsS27.set_2 | apply IsS27.set_3 | apply IsS27.set_4 | apply IsS27.set_5 | apply IsS27.set_6 | apply IsS27.set_7 | apply IsS27.set_8 | apply IsS27.set_9) | exact HI0.out)) hb); have n1_ := Aside0.mk (KeepBut.trans (by repeat (first | (with_reducible first | exact HK.out | apply KeepBut.set_ | apply keep_drewN | apply keep_drew | apply keep_alloc) | exact HK.out)) (KeepBut.of_below hb g none) (.inl rfl)); have n2_ := Aside0.mk (below_step (by repeat (first | (with_reducible first | exact HB.out | apply below_alloc | apply pw_below_drewN | apply below_drew1 | refine below_set ?_ (IsS27.ge HI0.out)) | exact HB.out)) hb); clear HI0; clear HK; clear HB; have HI0 := n0_; have HK := n1_; have HB := n2_; clear n0_ n1_ n2_; (try clear hb); (try clear hb2); (try clear hk); (try clear hi)))
        go_ret
        exact ⟨by first | rfl | (simp [errW_none, errW_some] <;> rfl) | (simp [*, errW_none, errW_some] <;> rfl), by repeat (first | (with_reducible first | exact HI0.out | apply IsS27.alloc | apply IsS27.drewN | apply IsS27.drew | apply IsS27.set_0 | apply IsS27.set_1 | apply IsS27.set_2 | apply IsS27.set_3 | apply IsS27.set_4 | apply IsS27.set_5 | apply IsS27.set_6 | apply IsS27.set_7 | apply IsS27.set_8 | apply IsS27.set_9) | exact HI0.out), by repeat (first | (with_reducible first | exact HB.out | apply below_alloc | apply pw_below_drewN | apply below_drew1 | refine below_set ?_ (IsS27.ge HI0.out)) | exact HB.out), by repeat (first | (with_reducible first | exact HK.out | apply KeepBut.set_ | apply keep_drewN | apply keep_drew | apply keep_alloc) | exact HK.out)⟩
       ·replace c8 := Bool.eq_false_iff.mpr c8
        subst c8
        have H1 : (order_Order_toxic.l0 k1 l1 l1 (l1.length : Int) (wrap64 (x11_1 + 1)) s0_0 s0_1 s0_2 s0_3 s0_4 s0_5 s0_6 s0_7 s0_8 s0_9) = some (r1, r2, r3, r4, r5, r6, r7, r8, r9, r10, r11) := by rw [if_neg (show ¬ (false = true) by decide)] at H; exact H
        clear H
        have H := H1
        clear H1
        have H' := Aside0.mk H
        clear H
        have p101 : 0 ≤ (x11_1 : Int) := of_decide_eq_true (by first | (with_reducible assumption) | assumption)
        have q101 : x11_1 < (l1.length : Int) := of_decide_eq_true (by first | (with_reducible assumption) | assumption)
        obtain ⟨ad101, e101, hx101_0⟩ := Kd.at_string HR1.out x11_1 p101 q101
        cases e101
        replace hx101_0 := keep_cell HK.out hx101_0 (by first | (rw [add_block]; exact hf1 _ rfl (by omega)) | exact hf1 _ rfl (by omega) | exact hf1 ad101 rfl (by omega))
        replace p101 := eq_true p101
        replace q101 := eq_true q101
        go_wp2_with (first | (go_at_call 50; (with_reducible refine (strings_ContainsAny.calls (rdOf ByteArray.empty l1 x11_1) (⟨#[32, 9]⟩ : ByteArray) false _ A7.out).mono ?_); rintro e w10 ⟨rfl, hb⟩; have n0_ := Aside0.mk (IsS27.below (by repeat (first | (with_reducible first | exact HI0.out | apply IsS27.alloc | apply IsS27.drewN | apply IsS27.drew | apply IsS27.set_0 | apply IsS27.set_1 | apply IsS27.set_2 | apply IsS27.set_3 | apply IsS27.set_4 | apply IsS27.set_5 | apply IsS27.set_6 | apply IsS27.set_7 | apply IsS27.set_8 | apply IsS27.set_9) | exact HI0.out)) hb); have n1_ := Aside0.mk (KeepBut.trans (by repeat (first | (with_reducible first | exact HK.out | apply KeepBut.set_ | apply keep_drewN | apply keep_drew | apply keep_alloc) | exact HK.out)) (KeepBut.of_below hb g none) (.inl rfl)); have n2_ := Aside0.mk (below_step (by repeat (first | (with_reducible first | exact HB.out | apply below_alloc | apply pw_below_drewN | apply below_drew1 | refine below_set ?_ (IsS27.ge HI0.out)) | exact HB.out)) hb); clear HI0; clear HK; clear HB; have HI0 := n0_; have HK := n1_; have HB := n2_; clear n0_ n1_ n2_; (try clear hb); (try clear hb2); (try clear hk); (try clear hi)))
        go_roundg k1
        case measure => have := HK1.out; omega
        case rel => exact ⟨(wrap64 (x11_1 + 1)), (by first | rfl | (simp; done) | (simp [*]; done)), H', ⟨by have := HK1.out; omega⟩, ⟨by repeat (first | (with_reducible first | exact HI0.out | apply IsS27.alloc | apply IsS27.drewN | apply IsS27.drew | apply IsS27.set_0 | apply IsS27.set_1 | apply IsS27.set_2 | apply IsS27.set_3 | apply IsS27.set_4 | apply IsS27.set_5 | apply IsS27.set_6 | apply IsS27.set_7 | apply IsS27.set_8 | apply IsS27.set_9) | exact HI0.out)⟩, ⟨by repeat (first | (with_reducible first | exact HK.out | apply KeepBut.set_ | apply keep_drewN | apply keep_drew | apply keep_alloc) | exact HK.out)⟩, ⟨by repeat (first | (with_reducible first | exact HB.out | apply below_alloc | apply pw_below_drewN | apply below_drew1 | refine below_set ?_ (IsS27.ge HI0.out)) | exact HB.out)⟩⟩
     ·rw [if_neg c5] at H
      exact absurd H (by simp)
    ·rw [if_neg c4] at H
     exact absurd H (by simp)
   ·rw [if_neg c3] at H
    have c3b0 : decide (x11_1 < (l1.length : Int)) = false := decide_eq_false c3
    clear c3
    replace H := Option.bind_eq_some_iff.mp H
    obtain ⟨t103, A110, H⟩ := H
    replace H : ((toxic_Parse.f t103).bind fun bt104 => (some (bt104.2.2.2.2.2.2, s0_0, s0_1, s0_2, s0_3, bt104.1, bt104.2.1, bt104.2.2.1, bt104.2.2.2.1, bt104.2.2.2.2.1, bt104.2.2.2.2.2.1))) = some (r1, r2, r3, r4, r5, r6, r7, r8, r9, r10, r11) := H
    have A11 := Aside0.mk A110
    clear A110
    replace H := Option.bind_eq_some_iff.mp H
    obtain ⟨⟨t104, t105, t106, t107, t108, t109, t110⟩, A120, H⟩ := H
    replace H : (some (t110, s0_0, s0_1, s0_2, s0_3, t104, t105, t106, t107, t108, t109)) = some (r1, r2, r3, r4, r5, r6, r7, r8, r9, r10, r11) := H
    have A12 := Aside0.mk A120
    clear A120
    simp only [Option.some.injEq, Prod.mk.injEq] at H
    obtain ⟨rfl, rfl, rfl, rfl, rfl, rfl, rfl, rfl, rfl, rfl, rfl⟩ := H
    go_wp2_with (first | ((with_reducible refine gate_callee (f := 52) rfl ?_); refine goesL_ (some 24) rfl rfl Tryz.func52 (by kernel_rfl) rfl #[.slice A1 l1.length c1, .string (⟨#[32]⟩ : ByteArray)] rfl (by (try simp only [List.map_toArray, List.map_cons, List.map_nil]); first | done | rfl | (simp only [List.length_drop, List.length_take]; rfl)) ?_; (with_reducible refine (strings_Join.calls _ _ l1 (⟨#[32]⟩ : ByteArray) t103 _ ?side1 ?side2 A11.out).mono ?_); (case side1 => exact Kd.C_keep (⟨#[]⟩ : ByteArray) HR1.out (by repeat (first | (with_reducible first | exact HK.out | apply KeepBut.set_ | apply keep_drewN | apply keep_drew | apply keep_alloc) | exact HK.out)) hf1); (case side2 => exact HC1.out); rintro e w13 ⟨rfl, hb⟩; refine ⟨_, rfl, ?_⟩; have n0_ := Aside0.mk (IsS27.below (by repeat (first | (with_reducible first | exact HI0.out | apply IsS27.alloc | apply IsS27.drewN | apply IsS27.drew | apply IsS27.set_0 | apply IsS27.set_1 | apply IsS27.set_2 | apply IsS27.set_3 | apply IsS27.set_4 | apply IsS27.set_5 | apply IsS27.set_6 | apply IsS27.set_7 | apply IsS27.set_8 | apply IsS27.set_9) | exact HI0.out)) hb); have n1_ := Aside0.mk (KeepBut.trans (by repeat (first | (with_reducible first | exact HK.out | apply KeepBut.set_ | apply keep_drewN | apply keep_drew | apply keep_alloc) | exact HK.out)) (KeepBut.of_below hb g none) (.inl rfl)); have n2_ := Aside0.mk (below_step (by repeat (first | (with_reducible first | exact HB.out | apply below_alloc | apply pw_below_drewN | apply below_drew1 | refine below_set ?_ (IsS27.ge HI0.out)) | exact HB.out)) hb); clear HI0; clear HK; clear HB; have HI0 := n0_; have HK := n1_; have HB := n2_; clear n0_ n1_ n2_; (try clear hb); (try clear hb2); (try clear hk); (try clear hi)) | ((with_reducible refine gate_callee (f := 51) rfl ?_); refine goesL_ (some 25) rfl rfl Tryz.func51 (by kernel_rfl) rfl #[.string t103] rfl (by (try simp only [List.map_toArray, List.map_cons, List.map_nil]); first | done | rfl | (simp only [List.length_drop, List.length_take]; rfl)) ?_; (with_reducible refine (toxic_Parse.calls t103 t104 t105 t106 t107 t108 t109 t110 _ A12.out).mono ?_); rintro e w14 ⟨rfl, hb⟩; refine ⟨_, rfl, ?_⟩; have n0_ := Aside0.mk (IsS27.below (by repeat (first | (with_reducible first | exact HI0.out | apply IsS27.alloc | apply IsS27.drewN | apply IsS27.drew | apply IsS27.set_0 | apply IsS27.set_1 | apply IsS27.set_2 | apply IsS27.set_3 | apply IsS27.set_4 | apply IsS27.set_5 | apply IsS27.set_6 | apply IsS27.set_7 | apply IsS27.set_8 | apply IsS27.set_9) | exact HI0.out)) hb); have n1_ := Aside0.mk (KeepBut.trans (by repeat (first | (with_reducible first | exact HK.out | apply KeepBut.set_ | apply keep_drewN | apply keep_drew | apply keep_alloc) | exact HK.out)) (KeepBut.of_below hb g none) (.inl rfl)); have n2_ := Aside0.mk (below_step (by repeat (first | (with_reducible first | exact HB.out | apply below_alloc | apply pw_below_drewN | apply below_drew1 | refine below_set ?_ (IsS27.ge HI0.out)) | exact HB.out)) hb); clear HI0; clear HK; clear HB; have HI0 := n0_; have HK := n1_; have HB := n2_; clear n0_ n1_ n2_; (try clear hb); (try clear hb2); (try clear hk); (try clear hi)) | ((with_reducible refine gate_dst (N := 7) rfl ?_); refine box_event ?hg (N := 7) ?hd (cs := #[.string (⟨#[]⟩ : ByteArray), .int .i64 0, .bool false, .int .i64 0, .int .i64 0, .int .i64 0]) (t := 25) ?hr ?_; (case hd => rfl); (case hg => rfl); (case hr => first | (go_simp; done) | (go_simp; rfl)); intro gb111 hg w15 hbox hb; have n0_ := Aside0.mk (IsS27.below (by repeat (first | (with_reducible first | exact HI0.out | apply IsS27.alloc | apply IsS27.drewN | apply IsS27.drew | apply IsS27.set_0 | apply IsS27.set_1 | apply IsS27.set_2 | apply IsS27.set_3 | apply IsS27.set_4 | apply IsS27.set_5 | apply IsS27.set_6 | apply IsS27.set_7 | apply IsS27.set_8 | apply IsS27.set_9) | exact HI0.out)) hb); have n1_ := Aside0.mk (KeepBut.trans (by repeat (first | (with_reducible first | exact HK.out | apply KeepBut.set_ | apply keep_drewN | apply keep_drew | apply keep_alloc) | exact HK.out)) (KeepBut.of_below hb g none) (.inl rfl)); have n2_ := Aside0.mk (below_step (by repeat (first | (with_reducible first | exact HB.out | apply below_alloc | apply pw_below_drewN | apply below_drew1 | refine below_set ?_ (IsS27.ge HI0.out)) | exact HB.out)) hb); have n3_ := Aside0.mk (hbox); have n4_ := Aside0.mk ((by rw [hg]; exact (keep_size (w := w) (g := g) (row := none) (by repeat (first | (with_reducible first | exact HK.out | apply KeepBut.set_ | apply keep_drewN | apply keep_drew | apply keep_alloc) | exact HK.out))) : w.heap.size ≤ gb111)); have n5_ := Aside0.mk ((Nat.le_trans HW0.out (by rw [hg]; exact (keep_size (w := w) (g := g) (row := none) (by repeat (first | (with_reducible first | exact HK.out | apply KeepBut.set_ | apply keep_drewN | apply keep_drew | apply keep_alloc) | exact HK.out))) : w.heap.size ≤ gb111) : w0.heap.size ≤ gb111)); have n6_ := Aside0.mk ((by rw [hg]; exact Nat.ne_of_lt (IsS27.lt (show IsS27 w0 _ g s0_0 s0_1 s0_2 s0_3 s0_4 s0_5 s0_6 s0_7 s0_8 s0_9 from by repeat (first | (with_reducible first | exact HI0.out | apply IsS27.alloc | apply IsS27.drewN | apply IsS27.drew | apply IsS27.set_0 | apply IsS27.set_1 | apply IsS27.set_2 | apply IsS27.set_3 | apply IsS27.set_4 | apply IsS27.set_5 | apply IsS27.set_6 | apply IsS27.set_7 | apply IsS27.set_8 | apply IsS27.set_9) | exact HI0.out))) : g ≠ gb111)); have n7_ := Aside0.mk ((by rw [hg]; exact Nat.ne_of_gt (IsS27.lt (show IsS27 w0 _ g s0_0 s0_1 s0_2 s0_3 s0_4 s0_5 s0_6 s0_7 s0_8 s0_9 from by repeat (first | (with_reducible first | exact HI0.out | apply IsS27.alloc | apply IsS27.drewN | apply IsS27.drew | apply IsS27.set_0 | apply IsS27.set_1 | apply IsS27.set_2 | apply IsS27.set_3 | apply IsS27.set_4 | apply IsS27.set_5 | apply IsS27.set_6 | apply IsS27.set_7 | apply IsS27.set_8 | apply IsS27.set_9) | exact HI0.out))) : gb111 ≠ g)); clear HI0; clear HK; clear HB; have HI0 := n0_; have HK := n1_; have HB := n2_; have BK111 := n3_; have GW111 := n4_; have GE111 := n5_; have NB0_111 := n6_; have NB111_0 := n7_; clear n0_ n1_ n2_ n3_ n4_ n5_ n6_ n7_; clear hb hbox hg; have hnb16 := NB111_0.out; have hnc16 := NB0_111.out; have hcz17_0 : w15.cell? ⟨gb111, 0, none⟩ = some (.string (⟨#[]⟩ : ByteArray)) := (blk_cell BK111.out 0).trans rfl; have hcz17_1 : w15.cell? ⟨gb111, 1, none⟩ = some (.int .i64 0) := (blk_cell BK111.out 1).trans rfl; have hcz17_2 : w15.cell? ⟨gb111, 2, none⟩ = some (.bool false) := (blk_cell BK111.out 2).trans rfl; have hcz17_3 : w15.cell? ⟨gb111, 3, none⟩ = some (.int .i64 0) := (blk_cell BK111.out 3).trans rfl; have hcz17_4 : w15.cell? ⟨gb111, 4, none⟩ = some (.int .i64 0) := (blk_cell BK111.out 4).trans rfl; have hcz17_5 : w15.cell? ⟨gb111, 5, none⟩ = some (.int .i64 0) := (blk_cell BK111.out 5).trans rfl; have hfz17_0 := blk_frozen BK111.out 0; have hfz17_1 := blk_frozen BK111.out 1; have hfz17_2 := blk_frozen BK111.out 2; have hfz17_3 := blk_frozen BK111.out 3; have hfz17_4 := blk_frozen BK111.out 4; have hfz17_5 := blk_frozen BK111.out 5; obtain ⟨HGz18, hgz18⟩ := HI0.out; have hcz18_0 := cellS27_0 HGz18; have hcz18_1 := cellS27_1 HGz18; have hcz18_2 := cellS27_2 HGz18; have hcz18_3 := cellS27_3 HGz18; have hcz18_4 := cellS27_4 HGz18; have hcz18_5 := cellS27_5 HGz18; have hcz18_6 := cellS27_6 HGz18; have hcz18_7 := cellS27_7 HGz18; have hcz18_8 := cellS27_8 HGz18; have hcz18_9 := cellS27_9 HGz18; have hfz18_0 := blk_frozen HGz18 0; have hfz18_1 := blk_frozen HGz18 1; have hfz18_2 := blk_frozen HGz18 2; have hfz18_3 := blk_frozen HGz18 3; have hfz18_4 := blk_frozen HGz18 4; have hfz18_5 := blk_frozen HGz18 5; have hfz18_6 := blk_frozen HGz18 6; have hfz18_7 := blk_frozen HGz18 7; have hfz18_8 := blk_frozen HGz18 8; have hfz18_9 := blk_frozen HGz18 9; clear HGz18 hgz18))
    go_ret
    exact ⟨by first | rfl | (simp [errW_none, errW_some] <;> rfl) | (simp [*, errW_none, errW_some] <;> rfl), (IsS27.set_9 (IsS27.set_8 (IsS27.set_7 (IsS27.set_6 (IsS27.set_5 (IsS27.set_4 (IsS27.far (p := ⟨gb111, 5, none⟩) (IsS27.far (p := ⟨gb111, 4, none⟩) (IsS27.far (p := ⟨gb111, 3, none⟩) (IsS27.far (p := ⟨gb111, 2, none⟩) (IsS27.far (p := ⟨gb111, 1, none⟩) (IsS27.far (p := ⟨gb111, 0, none⟩) HI0.out NB0_111.out _) NB0_111.out _) NB0_111.out _) NB0_111.out _) NB0_111.out _) NB0_111.out _) _) _) _) _) _) _), by repeat (first | (with_reducible first | exact HB.out | apply below_alloc | apply pw_below_drewN | apply below_drew1 | refine below_set ?_ (IsS27.ge HI0.out) | refine below_set ?_ GE111.out) | exact HB.out), by repeat (first | (with_reducible first | exact HK.out | apply KeepBut.set_ | apply keep_drewN | apply keep_drew | apply keep_alloc | refine keep_far ?_ GW111.out _) | exact HK.out)⟩
end Go.Proofs.YtlglbpjccpdloaaGreatDoor.POrdT
set_option linter.unusedVariables false
set_option linter.unusedSimpArgs false
namespace Go.Proofs.YtlglbpjccpdloaaGreatDoor.Ext
open Go.RowKit Go.Shelf Go.Proofs.YtlglbpjccpdloaaGreatDoorW.PrintWords Go.Proofs.YtlglbpjccpdloaaGreatDoorW.PrintLast Go.Proofs.YtlglbpjccpdloaaGreatDoor.PWrdA Go.Proofs.YtlglbpjccpdloaaGreatDoor.ToxZ Go.Proofs.YtlglbpjccpdloaaGreatDoor.Tox
theorem alloc_blk (w : World) (cs : Array Value) (t : TypeId) : (w.alloc (.cells cs t)).heap[w.heap.size]? = some (.cells cs t (0, 0)) := by
  show (w.heap.push _)[w.heap.size]? = _
  simp
set_option maxRecDepth 100000 in
theorem from_nil (A0 : Option Addr) (c0 : Nat) (w : World) :
    Calls Tryz.prog 9 #[.slice A0 0 c0] w fun e w' => e = .returned (.tuple #[.agg (ordC 0 ⟨#[]⟩ ⟨#[]⟩ 0 ⟨#[]⟩ 0 false 0 0 0), .int .i64 160]) ∧ Below w.heap.size w w' := by
  unfold ordC
  go_enter Tryz.func9, Tryz.ntmps9
  go_wp2
  refine bodyPost_ret (results_ct rfl _ _ w.heap.size 27 _ (0, 0) _ rfl (alloc_blk _ _ _) Tryz.underlying27 rfl (by kernel_rfl)) rfl ?_
  exact ⟨rfl, by repeat (first | exact Below.refl _ _ | apply below_alloc)⟩
def setOrd (W : World) (g : Nat) (y0 : Int) (y1 : ByteArray) (y2 : ByteArray) (y3 : Int) (y4 : ByteArray) (y5 : Int) (y6 : Bool) (y7 : Int) (y8 : Int) (y9 : Int) : World := ((((((((((W.setCell ⟨g, 0, none⟩ (.int .i64 y0)).setCell ⟨g, 1, none⟩ (.string y1)).setCell ⟨g, 2, none⟩ (.string y2)).setCell ⟨g, 3, none⟩ (.int .i64 y3)).setCell ⟨g, 4, none⟩ (.string y4)).setCell ⟨g, 5, none⟩ (.int .i64 y5)).setCell ⟨g, 6, none⟩ (.bool y6)).setCell ⟨g, 7, none⟩ (.int .i64 y7)).setCell ⟨g, 8, none⟩ (.int .i64 y8)).setCell ⟨g, 9, none⟩ (.int .i64 y9))
theorem ord_put (W : World) (g : Nat) (x0 : Int) (x1 : ByteArray) (x2 : ByteArray) (x3 : Int) (x4 : ByteArray) (x5 : Int) (x6 : Bool) (x7 : Int) (x8 : Int) (x9 : Int) (y0 : Int) (y1 : ByteArray) (y2 : ByteArray) (y3 : Int) (y4 : ByteArray) (y5 : Int) (y6 : Bool) (y7 : Int) (y8 : Int) (y9 : Int) (t : TypeId) (h : W.heap[g]? = some (.cells (ordC x0 x1 x2 x3 x4 x5 x6 x7 x8 x9) t (0, 0))) : (setOrd W g y0 y1 y2 y3 y4 y5 y6 y7 y8 y9).heap[g]? = some (.cells (ordC y0 y1 y2 y3 y4 y5 y6 y7 y8 y9) t (0, 0)) := by
  unfold setOrd ordC
  unfold ordC at h
  refine blk_put (cs := #[.int .i64 y0, .string y1, .string y2, .int .i64 y3, .string y4, .int .i64 y5, .bool y6, .int .i64 y7, .int .i64 y8, .int .i64 x9]) ?_ 9 (.int .i64 y9) rfl
  refine blk_put (cs := #[.int .i64 y0, .string y1, .string y2, .int .i64 y3, .string y4, .int .i64 y5, .bool y6, .int .i64 y7, .int .i64 x8, .int .i64 x9]) ?_ 8 (.int .i64 y8) rfl
  refine blk_put (cs := #[.int .i64 y0, .string y1, .string y2, .int .i64 y3, .string y4, .int .i64 y5, .bool y6, .int .i64 x7, .int .i64 x8, .int .i64 x9]) ?_ 7 (.int .i64 y7) rfl
  refine blk_put (cs := #[.int .i64 y0, .string y1, .string y2, .int .i64 y3, .string y4, .int .i64 y5, .bool x6, .int .i64 x7, .int .i64 x8, .int .i64 x9]) ?_ 6 (.bool y6) rfl
  refine blk_put (cs := #[.int .i64 y0, .string y1, .string y2, .int .i64 y3, .string y4, .int .i64 x5, .bool x6, .int .i64 x7, .int .i64 x8, .int .i64 x9]) ?_ 5 (.int .i64 y5) rfl
  refine blk_put (cs := #[.int .i64 y0, .string y1, .string y2, .int .i64 y3, .string x4, .int .i64 x5, .bool x6, .int .i64 x7, .int .i64 x8, .int .i64 x9]) ?_ 4 (.string y4) rfl
  refine blk_put (cs := #[.int .i64 y0, .string y1, .string y2, .int .i64 x3, .string x4, .int .i64 x5, .bool x6, .int .i64 x7, .int .i64 x8, .int .i64 x9]) ?_ 3 (.int .i64 y3) rfl
  refine blk_put (cs := #[.int .i64 y0, .string y1, .string x2, .int .i64 x3, .string x4, .int .i64 x5, .bool x6, .int .i64 x7, .int .i64 x8, .int .i64 x9]) ?_ 2 (.string y2) rfl
  refine blk_put (cs := #[.int .i64 y0, .string x1, .string x2, .int .i64 x3, .string x4, .int .i64 x5, .bool x6, .int .i64 x7, .int .i64 x8, .int .i64 x9]) ?_ 1 (.string y1) rfl
  refine blk_put (cs := #[.int .i64 x0, .string x1, .string x2, .int .i64 x3, .string x4, .int .i64 x5, .bool x6, .int .i64 x7, .int .i64 x8, .int .i64 x9]) ?_ 0 (.int .i64 y0) rfl
  exact h
theorem ord_below (w W : World) (g : Nat) (y0 : Int) (y1 : ByteArray) (y2 : ByteArray) (y3 : Int) (y4 : ByteArray) (y5 : Int) (y6 : Bool) (y7 : Int) (y8 : Int) (y9 : Int) (h : Below w.heap.size w W) (hg : w.heap.size ≤ g) : Below w.heap.size w (setOrd W g y0 y1 y2 y3 y4 y5 y6 y7 y8 y9) := by
  unfold setOrd
  repeat (first | (with_reducible exact h) | (with_reducible refine below_set ?_ hg))
set_option maxRecDepth 100000 in
theorem from_short (A0 : Option Addr) (c0 : Nat) (l0 : List ByteArray) (hl : l0 ≠ []) (w : World) (hT : Aside0 (Tab w)) (hr0 : Kd.C Kd.string w A0 l0.length l0) (hc0 : l0.length ≤ c0) (hm0 : l0.length ≤ 4611686018427387904)
    (hv : (verbOf l0).1 = 0) :
    Calls Tryz.prog 9 #[.slice A0 l0.length c0] w fun e w' => e = .returned (.tuple #[.agg (ordC 0 ⟨#[]⟩ ⟨#[]⟩ 0 ⟨#[]⟩ 0 false 0 0 0), .int .i64 162]) ∧ Below w.heap.size w w' := by
  unfold ordC
  have q0 : ((l0.length : Int) == 0) = false := by rw [beq_eq_false_iff_ne]; intro h; exact hl (List.length_eq_zero_iff.1 (by omega))
  have HC := Lib.hid (fun W (hb : Below w.heap.size w W) => verb_is A0 c0 l0 W ⟨tab_below hT.out hb⟩ (Kd.C_below hr0 hb) hc0 hm0)
  obtain ⟨v, hvv⟩ : ∃ v, (verbOf l0).1 = v := ⟨_, rfl⟩
  obtain ⟨r, hrr⟩ : ∃ r, (verbOf l0).2 = r := ⟨_, rfl⟩
  rw [hvv, hrr] at HC
  have hv0 : v = 0 := by rw [← hvv]; exact hv
  subst hv0
  clear hl hr0 hc0 hm0 hv hvv hrr
  have hmost : order_most.f 0 = some (1, 1) := rfl
  have HB0 := Lib.hid (below_alloc (Below.refl w.heap.size w) (.cells #[.int .i64 0, .string ⟨#[]⟩, .string ⟨#[]⟩, .int .i64 0, .string ⟨#[]⟩, .int .i64 0, .bool false, .int .i64 0, .int .i64 0, .int .i64 0] 27))
  have HBK := Lib.hid (alloc_blk w #[.int .i64 0, .string ⟨#[]⟩, .string ⟨#[]⟩, .int .i64 0, .string ⟨#[]⟩, .int .i64 0, .bool false, .int .i64 0, .int .i64 0, .int .i64 0] 27)
  go_enter Tryz.func9, Tryz.ntmps9
  go_wp2_with (first | (go_at_call 22; refine (HC.out _ HB0.out).mono ?_; rintro e w1 ⟨⟨A, c, rfl, hr, hc⟩, hb⟩; have HB1 := Lib.hid (below_step HB0.out hb); have HBK1 := Lib.hid (blk_below HBK.out hb); clear hr hc hb; have z0 : w1.cell? ⟨w.heap.size, 0, none⟩ = some (.int .i64 0) := (blk_cell HBK1.out 0).trans rfl; have f0 := blk_frozen HBK1.out 0; have z1 : w1.cell? ⟨w.heap.size, 1, none⟩ = some (.string ⟨#[]⟩) := (blk_cell HBK1.out 1).trans rfl; have f1 := blk_frozen HBK1.out 1; have z2 : w1.cell? ⟨w.heap.size, 2, none⟩ = some (.string ⟨#[]⟩) := (blk_cell HBK1.out 2).trans rfl; have f2 := blk_frozen HBK1.out 2; have z3 : w1.cell? ⟨w.heap.size, 3, none⟩ = some (.int .i64 0) := (blk_cell HBK1.out 3).trans rfl; have f3 := blk_frozen HBK1.out 3; have z4 : w1.cell? ⟨w.heap.size, 4, none⟩ = some (.string ⟨#[]⟩) := (blk_cell HBK1.out 4).trans rfl; have f4 := blk_frozen HBK1.out 4; have z5 : w1.cell? ⟨w.heap.size, 5, none⟩ = some (.int .i64 0) := (blk_cell HBK1.out 5).trans rfl; have f5 := blk_frozen HBK1.out 5; have z6 : w1.cell? ⟨w.heap.size, 6, none⟩ = some (.bool false) := (blk_cell HBK1.out 6).trans rfl; have f6 := blk_frozen HBK1.out 6; have z7 : w1.cell? ⟨w.heap.size, 7, none⟩ = some (.int .i64 0) := (blk_cell HBK1.out 7).trans rfl; have f7 := blk_frozen HBK1.out 7; have z8 : w1.cell? ⟨w.heap.size, 8, none⟩ = some (.int .i64 0) := (blk_cell HBK1.out 8).trans rfl; have f8 := blk_frozen HBK1.out 8; have z9 : w1.cell? ⟨w.heap.size, 9, none⟩ = some (.int .i64 0) := (blk_cell HBK1.out 9).trans rfl; have f9 := blk_frozen HBK1.out 9) | (go_at_call 23; refine (order_most.calls 0 1 1 _ hmost).mono ?_; rintro e w' ⟨rfl, ⟨nd, rfl⟩⟩))
  refine bodyPost_ret (results_ct rfl _ _ w.heap.size 27 _ (0, 0) _ rfl (ord_put (w1.drewN nd) w.heap.size 0 ⟨#[]⟩ ⟨#[]⟩ 0 ⟨#[]⟩ 0 false 0 0 0 0 ⟨#[]⟩ ⟨#[]⟩ 0 ⟨#[]⟩ 0 false 0 0 0 _ HBK1.out) Tryz.underlying27 rfl (by kernel_rfl)) rfl ?_
  exact ⟨rfl, ord_below w (w1.drewN nd) w.heap.size 0 ⟨#[]⟩ ⟨#[]⟩ 0 ⟨#[]⟩ 0 false 0 0 0 (by repeat (first | exact HB1.out | apply pw_below_drewN)) (Nat.le_refl _)⟩
set_option maxRecDepth 100000 in
theorem from_many (A0 : Option Addr) (c0 : Nat) (l0 : List ByteArray) (hl : l0 ≠ []) (w : World) (hT : Aside0 (Tab w)) (hr0 : Kd.C Kd.string w A0 l0.length l0) (hc0 : l0.length ≤ c0) (hm0 : l0.length ≤ 4611686018427387904)
    (v : Int) (r : List ByteArray) (hvv : (verbOf l0).1 = v) (hrr : (verbOf l0).2 = r) (hv0 : v ≠ 0) (lo hi : Int) (hmost : order_most.f v = some (lo, hi)) (hbad : (r.length : Int) < lo ∨ (¬ (r.length : Int) < lo ∧ hi < (r.length : Int))) :
    Calls Tryz.prog 9 #[.slice A0 l0.length c0] w fun e w' => e = .returned (.tuple #[.agg (ordC 0 ⟨#[]⟩ ⟨#[]⟩ 0 ⟨#[]⟩ 0 false 0 0 0), .int .i64 161]) ∧ Below w.heap.size w w' := by
  unfold ordC
  have q0 : ((l0.length : Int) == 0) = false := by rw [beq_eq_false_iff_ne]; intro h; exact hl (List.length_eq_zero_iff.1 (by omega))
  have HC := Lib.hid (fun W (hb : Below w.heap.size w W) => verb_is A0 c0 l0 W ⟨tab_below hT.out hb⟩ (Kd.C_below hr0 hb) hc0 hm0)
  rw [hvv, hrr] at HC
  have hv1 : (v == 0) = false := by rw [beq_eq_false_iff_ne]; exact hv0
  have HM := Lib.hid (fun W => order_most.calls v lo hi W hmost)
  clear hl hr0 hc0 hm0 hv0 hvv hrr hmost
  have HB0 := Lib.hid (below_alloc (Below.refl w.heap.size w) (.cells #[.int .i64 0, .string ⟨#[]⟩, .string ⟨#[]⟩, .int .i64 0, .string ⟨#[]⟩, .int .i64 0, .bool false, .int .i64 0, .int .i64 0, .int .i64 0] 27))
  have HBK := Lib.hid (alloc_blk w #[.int .i64 0, .string ⟨#[]⟩, .string ⟨#[]⟩, .int .i64 0, .string ⟨#[]⟩, .int .i64 0, .bool false, .int .i64 0, .int .i64 0, .int .i64 0] 27)
  rcases hbad with hbad | ⟨hb0, hbad⟩
  · go_enter Tryz.func9, Tryz.ntmps9
    go_wp2_with (first | (go_at_call 22; refine (HC.out _ HB0.out).mono ?_; rintro e w1 ⟨⟨A, c, rfl, hr, hc⟩, hb⟩; have HB1 := Lib.hid (below_step HB0.out hb); have HBK1 := Lib.hid (blk_below HBK.out hb); clear hr hc hb; have z0 : w1.cell? ⟨w.heap.size, 0, none⟩ = some (.int .i64 0) := (blk_cell HBK1.out 0).trans rfl; have f0 := blk_frozen HBK1.out 0; have z1 : w1.cell? ⟨w.heap.size, 1, none⟩ = some (.string ⟨#[]⟩) := (blk_cell HBK1.out 1).trans rfl; have f1 := blk_frozen HBK1.out 1; have z2 : w1.cell? ⟨w.heap.size, 2, none⟩ = some (.string ⟨#[]⟩) := (blk_cell HBK1.out 2).trans rfl; have f2 := blk_frozen HBK1.out 2; have z3 : w1.cell? ⟨w.heap.size, 3, none⟩ = some (.int .i64 0) := (blk_cell HBK1.out 3).trans rfl; have f3 := blk_frozen HBK1.out 3; have z4 : w1.cell? ⟨w.heap.size, 4, none⟩ = some (.string ⟨#[]⟩) := (blk_cell HBK1.out 4).trans rfl; have f4 := blk_frozen HBK1.out 4; have z5 : w1.cell? ⟨w.heap.size, 5, none⟩ = some (.int .i64 0) := (blk_cell HBK1.out 5).trans rfl; have f5 := blk_frozen HBK1.out 5; have z6 : w1.cell? ⟨w.heap.size, 6, none⟩ = some (.bool false) := (blk_cell HBK1.out 6).trans rfl; have f6 := blk_frozen HBK1.out 6; have z7 : w1.cell? ⟨w.heap.size, 7, none⟩ = some (.int .i64 0) := (blk_cell HBK1.out 7).trans rfl; have f7 := blk_frozen HBK1.out 7; have z8 : w1.cell? ⟨w.heap.size, 8, none⟩ = some (.int .i64 0) := (blk_cell HBK1.out 8).trans rfl; have f8 := blk_frozen HBK1.out 8; have z9 : w1.cell? ⟨w.heap.size, 9, none⟩ = some (.int .i64 0) := (blk_cell HBK1.out 9).trans rfl; have f9 := blk_frozen HBK1.out 9) | (go_at_call 23; refine (HM.out _).mono ?_; rintro e w' ⟨rfl, ⟨nd, rfl⟩⟩))
    refine bodyPost_ret (results_ct rfl _ _ w.heap.size 27 _ (0, 0) _ rfl (ord_put (w1.drewN nd) w.heap.size 0 ⟨#[]⟩ ⟨#[]⟩ 0 ⟨#[]⟩ 0 false 0 0 0 0 ⟨#[]⟩ ⟨#[]⟩ 0 ⟨#[]⟩ 0 false 0 0 0 _ HBK1.out) Tryz.underlying27 rfl (by kernel_rfl)) rfl ?_
    exact ⟨rfl, ord_below w (w1.drewN nd) w.heap.size 0 ⟨#[]⟩ ⟨#[]⟩ 0 ⟨#[]⟩ 0 false 0 0 0 (by repeat (first | exact HB1.out | apply pw_below_drewN)) (Nat.le_refl _)⟩
  · go_enter Tryz.func9, Tryz.ntmps9
    go_wp2_with (first | (go_at_call 22; refine (HC.out _ HB0.out).mono ?_; rintro e w1 ⟨⟨A, c, rfl, hr, hc⟩, hb⟩; have HB1 := Lib.hid (below_step HB0.out hb); have HBK1 := Lib.hid (blk_below HBK.out hb); clear hr hc hb; have z0 : w1.cell? ⟨w.heap.size, 0, none⟩ = some (.int .i64 0) := (blk_cell HBK1.out 0).trans rfl; have f0 := blk_frozen HBK1.out 0; have z1 : w1.cell? ⟨w.heap.size, 1, none⟩ = some (.string ⟨#[]⟩) := (blk_cell HBK1.out 1).trans rfl; have f1 := blk_frozen HBK1.out 1; have z2 : w1.cell? ⟨w.heap.size, 2, none⟩ = some (.string ⟨#[]⟩) := (blk_cell HBK1.out 2).trans rfl; have f2 := blk_frozen HBK1.out 2; have z3 : w1.cell? ⟨w.heap.size, 3, none⟩ = some (.int .i64 0) := (blk_cell HBK1.out 3).trans rfl; have f3 := blk_frozen HBK1.out 3; have z4 : w1.cell? ⟨w.heap.size, 4, none⟩ = some (.string ⟨#[]⟩) := (blk_cell HBK1.out 4).trans rfl; have f4 := blk_frozen HBK1.out 4; have z5 : w1.cell? ⟨w.heap.size, 5, none⟩ = some (.int .i64 0) := (blk_cell HBK1.out 5).trans rfl; have f5 := blk_frozen HBK1.out 5; have z6 : w1.cell? ⟨w.heap.size, 6, none⟩ = some (.bool false) := (blk_cell HBK1.out 6).trans rfl; have f6 := blk_frozen HBK1.out 6; have z7 : w1.cell? ⟨w.heap.size, 7, none⟩ = some (.int .i64 0) := (blk_cell HBK1.out 7).trans rfl; have f7 := blk_frozen HBK1.out 7; have z8 : w1.cell? ⟨w.heap.size, 8, none⟩ = some (.int .i64 0) := (blk_cell HBK1.out 8).trans rfl; have f8 := blk_frozen HBK1.out 8; have z9 : w1.cell? ⟨w.heap.size, 9, none⟩ = some (.int .i64 0) := (blk_cell HBK1.out 9).trans rfl; have f9 := blk_frozen HBK1.out 9) | (go_at_call 23; refine (HM.out _).mono ?_; rintro e w' ⟨rfl, ⟨nd, rfl⟩⟩))
    refine bodyPost_ret (results_ct rfl _ _ w.heap.size 27 _ (0, 0) _ rfl (ord_put (w1.drewN nd) w.heap.size 0 ⟨#[]⟩ ⟨#[]⟩ 0 ⟨#[]⟩ 0 false 0 0 0 0 ⟨#[]⟩ ⟨#[]⟩ 0 ⟨#[]⟩ 0 false 0 0 0 _ HBK1.out) Tryz.underlying27 rfl (by kernel_rfl)) rfl ?_
    exact ⟨rfl, ord_below w (w1.drewN nd) w.heap.size 0 ⟨#[]⟩ ⟨#[]⟩ 0 ⟨#[]⟩ 0 false 0 0 0 (by repeat (first | exact HB1.out | apply pw_below_drewN)) (Nat.le_refl _)⟩
set_option maxRecDepth 100000 in
theorem from_alone (A0 : Option Addr) (c0 : Nat) (l0 : List ByteArray) (hl : l0 ≠ []) (w : World) (hT : Aside0 (Tab w)) (hr0 : Kd.C Kd.string w A0 l0.length l0) (hc0 : l0.length ≤ c0) (hm0 : l0.length ≤ 4611686018427387904)
    (v : Int) (r : List ByteArray) (hvv : (verbOf l0).1 = v) (hrr : (verbOf l0).2 = r) (hv0 : v ≠ 0) (lo hi : Int) (hmost : order_most.f v = some (lo, hi)) (hb1 : ¬ (r.length : Int) < lo) (hb2 : ¬ hi < (r.length : Int)) (hnp : order_noProxy.f v = some true) :
    Calls Tryz.prog 9 #[.slice A0 l0.length c0] w fun e w' => e = .returned (.tuple #[.agg (ordC v ⟨#[]⟩ ⟨#[]⟩ 0 ⟨#[]⟩ 0 false 0 0 0), .int .i64 0]) ∧ Below w.heap.size w w' := by
  unfold ordC
  have q0 : ((l0.length : Int) == 0) = false := by rw [beq_eq_false_iff_ne]; intro h; exact hl (List.length_eq_zero_iff.1 (by omega))
  have HC := Lib.hid (fun W (hb : Below w.heap.size w W) => verb_is A0 c0 l0 W ⟨tab_below hT.out hb⟩ (Kd.C_below hr0 hb) hc0 hm0)
  rw [hvv, hrr] at HC
  have hv1 : (v == 0) = false := by rw [beq_eq_false_iff_ne]; exact hv0
  have HM := Lib.hid (fun W => order_most.calls v lo hi W hmost)
  have HN := Lib.hid (fun W => order_noProxy.calls v true W hnp)
  clear hnp hl hr0 hc0 hm0 hv0 hvv hrr hmost
  have HB0 := Lib.hid (below_alloc (Below.refl w.heap.size w) (.cells #[.int .i64 0, .string ⟨#[]⟩, .string ⟨#[]⟩, .int .i64 0, .string ⟨#[]⟩, .int .i64 0, .bool false, .int .i64 0, .int .i64 0, .int .i64 0] 27))
  have HBK := Lib.hid (alloc_blk w #[.int .i64 0, .string ⟨#[]⟩, .string ⟨#[]⟩, .int .i64 0, .string ⟨#[]⟩, .int .i64 0, .bool false, .int .i64 0, .int .i64 0, .int .i64 0] 27)
  go_enter Tryz.func9, Tryz.ntmps9
  go_wp2_with (first | (go_at_call 22; refine (HC.out _ HB0.out).mono ?_; rintro e w1 ⟨⟨A, c, rfl, hr, hc⟩, hb⟩; have HB1 := Lib.hid (below_step HB0.out hb); have HBK1 := Lib.hid (blk_below HBK.out hb); clear hr hc hb; have z0 : w1.cell? ⟨w.heap.size, 0, none⟩ = some (.int .i64 0) := (blk_cell HBK1.out 0).trans rfl; have f0 := blk_frozen HBK1.out 0; have z1 : w1.cell? ⟨w.heap.size, 1, none⟩ = some (.string ⟨#[]⟩) := (blk_cell HBK1.out 1).trans rfl; have f1 := blk_frozen HBK1.out 1; have z2 : w1.cell? ⟨w.heap.size, 2, none⟩ = some (.string ⟨#[]⟩) := (blk_cell HBK1.out 2).trans rfl; have f2 := blk_frozen HBK1.out 2; have z3 : w1.cell? ⟨w.heap.size, 3, none⟩ = some (.int .i64 0) := (blk_cell HBK1.out 3).trans rfl; have f3 := blk_frozen HBK1.out 3; have z4 : w1.cell? ⟨w.heap.size, 4, none⟩ = some (.string ⟨#[]⟩) := (blk_cell HBK1.out 4).trans rfl; have f4 := blk_frozen HBK1.out 4; have z5 : w1.cell? ⟨w.heap.size, 5, none⟩ = some (.int .i64 0) := (blk_cell HBK1.out 5).trans rfl; have f5 := blk_frozen HBK1.out 5; have z6 : w1.cell? ⟨w.heap.size, 6, none⟩ = some (.bool false) := (blk_cell HBK1.out 6).trans rfl; have f6 := blk_frozen HBK1.out 6; have z7 : w1.cell? ⟨w.heap.size, 7, none⟩ = some (.int .i64 0) := (blk_cell HBK1.out 7).trans rfl; have f7 := blk_frozen HBK1.out 7; have z8 : w1.cell? ⟨w.heap.size, 8, none⟩ = some (.int .i64 0) := (blk_cell HBK1.out 8).trans rfl; have f8 := blk_frozen HBK1.out 8; have z9 : w1.cell? ⟨w.heap.size, 9, none⟩ = some (.int .i64 0) := (blk_cell HBK1.out 9).trans rfl; have f9 := blk_frozen HBK1.out 9) | (go_at_call 23; refine (HM.out _).mono ?_; rintro e w' ⟨rfl, ⟨nd, rfl⟩⟩) | (go_at_call 24; refine (HN.out _).mono ?_; rintro e w' ⟨rfl, ⟨ne, rfl⟩⟩))
  refine bodyPost_ret (results_ct rfl _ _ w.heap.size 27 _ (0, 0) _ rfl (ord_put (w1.drewN (nd + ne)) w.heap.size 0 ⟨#[]⟩ ⟨#[]⟩ 0 ⟨#[]⟩ 0 false 0 0 0 v ⟨#[]⟩ ⟨#[]⟩ 0 ⟨#[]⟩ 0 false 0 0 0 _ HBK1.out) Tryz.underlying27 rfl (by kernel_rfl)) rfl ?_
  exact ⟨rfl, ord_below w (w1.drewN (nd + ne)) w.heap.size v ⟨#[]⟩ ⟨#[]⟩ 0 ⟨#[]⟩ 0 false 0 0 0 (by repeat (first | exact HB1.out | apply pw_below_drewN)) (Nat.le_refl _)⟩
set_option maxRecDepth 100000 in
theorem from_plain (A0 : Option Addr) (c0 : Nat) (l0 : List ByteArray) (hl : l0 ≠ []) (w : World) (hT : Aside0 (Tab w)) (hr0 : Kd.C Kd.string w A0 l0.length l0) (hc0 : l0.length ≤ c0) (hm0 : l0.length ≤ 4611686018427387904)
    (v : Int) (r : List ByteArray) (hvv : (verbOf l0).1 = v) (hrr : (verbOf l0).2 = r) (hv0 : v ≠ 0) (lo hi : Int) (hmost : order_most.f v = some (lo, hi)) (hb1 : ¬ (r.length : Int) < lo) (hb2 : ¬ hi < (r.length : Int)) (hnp : order_noProxy.f v = some false) (htx : order_toxical.f v = some false) (hv1' : v ≠ 1) (hv6 : v ≠ 6) (p : ByteArray) (rs : List ByteArray) (hrp : r = p :: rs) :
    Calls Tryz.prog 9 #[.slice A0 l0.length c0] w fun e w' => e = .returned (.tuple #[.agg (ordC v p ⟨#[]⟩ 0 ⟨#[]⟩ 0 false 0 0 0), .int .i64 0]) ∧ Below w.heap.size w w' := by
  unfold ordC
  have q0 : ((l0.length : Int) == 0) = false := by rw [beq_eq_false_iff_ne]; intro h; exact hl (List.length_eq_zero_iff.1 (by omega))
  have HC := Lib.hid (fun W (hb : Below w.heap.size w W) => verb_is A0 c0 l0 W ⟨tab_below hT.out hb⟩ (Kd.C_below hr0 hb) hc0 hm0)
  rw [hvv, hrr] at HC
  have hv1 : (v == 0) = false := by rw [beq_eq_false_iff_ne]; exact hv0
  have HM := Lib.hid (fun W => order_most.calls v lo hi W hmost)
  have HN := Lib.hid (fun W => order_noProxy.calls v false W hnp)
  have HX := Lib.hid (fun W => order_toxical.calls v false W htx)
  have hq1 : (v == 1) = false := by rw [beq_eq_false_iff_ne]; exact hv1'
  have hq6 : (v == 6) = false := by rw [beq_eq_false_iff_ne]; exact hv6
  have HRL := Lib.hid (show r.length = rs.length + 1 by rw [hrp]; rfl)
  have HRP := Lib.hid hrp
  clear hnp htx hv1' hv6 hrp hl hr0 hc0 hm0 hv0 hvv hrr hmost
  have HB0 := Lib.hid (below_alloc (Below.refl w.heap.size w) (.cells #[.int .i64 0, .string ⟨#[]⟩, .string ⟨#[]⟩, .int .i64 0, .string ⟨#[]⟩, .int .i64 0, .bool false, .int .i64 0, .int .i64 0, .int .i64 0] 27))
  have HBK := Lib.hid (alloc_blk w #[.int .i64 0, .string ⟨#[]⟩, .string ⟨#[]⟩, .int .i64 0, .string ⟨#[]⟩, .int .i64 0, .bool false, .int .i64 0, .int .i64 0, .int .i64 0] 27)
  go_enter Tryz.func9, Tryz.ntmps9
  go_wp2_with (first | (go_at_call 22; refine (HC.out _ HB0.out).mono ?_; rintro e w1 ⟨⟨A, c, rfl, hr, hc⟩, hb⟩; have HB1 := Lib.hid (below_step HB0.out hb); have HBK1 := Lib.hid (blk_below HBK.out hb); obtain ⟨ad, ha, hx⟩ := Kd.at_string hr 0 (by omega) (by rw [HRL.out]; omega); cases ha; obtain ⟨A', hcut, -, -⟩ := cut_from (A := some ad) (n := 1) (l := r) (by rw [HRL.out]; omega) hc; have hcut1 : ∀ W : World, (Instr.slice 22 (.slice (some ad) r.length c) (some (.int .i64 1)) none none).run Tryz.prog W = .ok (.slice A' (r.drop 1).length (c - 1)) W := hcut; generalize (r.drop 1).length = nr at hcut1; clear hcut; have hx1 : w1.cell? ad = some (.string p) := (by have h9 := hx; rw [show ad.add (0 : Int).toNat = ad by simp [Addr.add]] at h9; rw [h9, show rdOf ByteArray.empty r 0 = p by rw [HRP.out]; rfl]); have q7 : (0 : Int) < (r.length : Int) := (by rw [HRL.out]; omega); clear hx hr hc hb; have z0 : w1.cell? ⟨w.heap.size, 0, none⟩ = some (.int .i64 0) := (blk_cell HBK1.out 0).trans rfl; have f0 := blk_frozen HBK1.out 0; have z1 : w1.cell? ⟨w.heap.size, 1, none⟩ = some (.string ⟨#[]⟩) := (blk_cell HBK1.out 1).trans rfl; have f1 := blk_frozen HBK1.out 1; have z2 : w1.cell? ⟨w.heap.size, 2, none⟩ = some (.string ⟨#[]⟩) := (blk_cell HBK1.out 2).trans rfl; have f2 := blk_frozen HBK1.out 2; have z3 : w1.cell? ⟨w.heap.size, 3, none⟩ = some (.int .i64 0) := (blk_cell HBK1.out 3).trans rfl; have f3 := blk_frozen HBK1.out 3; have z4 : w1.cell? ⟨w.heap.size, 4, none⟩ = some (.string ⟨#[]⟩) := (blk_cell HBK1.out 4).trans rfl; have f4 := blk_frozen HBK1.out 4; have z5 : w1.cell? ⟨w.heap.size, 5, none⟩ = some (.int .i64 0) := (blk_cell HBK1.out 5).trans rfl; have f5 := blk_frozen HBK1.out 5; have z6 : w1.cell? ⟨w.heap.size, 6, none⟩ = some (.bool false) := (blk_cell HBK1.out 6).trans rfl; have f6 := blk_frozen HBK1.out 6; have z7 : w1.cell? ⟨w.heap.size, 7, none⟩ = some (.int .i64 0) := (blk_cell HBK1.out 7).trans rfl; have f7 := blk_frozen HBK1.out 7; have z8 : w1.cell? ⟨w.heap.size, 8, none⟩ = some (.int .i64 0) := (blk_cell HBK1.out 8).trans rfl; have f8 := blk_frozen HBK1.out 8; have z9 : w1.cell? ⟨w.heap.size, 9, none⟩ = some (.int .i64 0) := (blk_cell HBK1.out 9).trans rfl; have f9 := blk_frozen HBK1.out 9) | (go_at_call 23; refine (HM.out _).mono ?_; rintro e w' ⟨rfl, ⟨nd, rfl⟩⟩) | (go_at_call 24; refine (HN.out _).mono ?_; rintro e w' ⟨rfl, ⟨ne, rfl⟩⟩) | (go_at_call 28; refine (HX.out _).mono ?_; rintro e w' ⟨rfl, ⟨nx, rfl⟩⟩) | (go_at_call 25; refine (nothing_is _ _ _).mono ?_; rintro e w5 ⟨rfl, hw⟩; have hb5 : w5.heap[w1.heap.size]? = some (.cells #[.int .i64 v, .string p, .string ⟨#[]⟩, .int .i64 0, .string ⟨#[]⟩, .int .i64 0, .bool false, .int .i64 0, .int .i64 0, .int .i64 0] 27 (0, 0)) := (by rw [hw]; exact alloc_blk (w1.drewN _) _ _); have hr5 : w5.heap[w.heap.size]? = some (.cells #[.int .i64 0, .string ⟨#[]⟩, .string ⟨#[]⟩, .int .i64 0, .string ⟨#[]⟩, .int .i64 0, .bool false, .int .i64 0, .int .i64 0, .int .i64 0] 27 (0, 0)) := (by rw [hw]; exact blk_alloc (o := .cells _ _) HBK1.out _); have HR5 := Lib.hid hr5; have HB5 := Lib.hid (show Below w.heap.size w w5 by rw [hw]; repeat (first | exact HB1.out | apply pw_below_drewN | apply below_alloc)); clear hw; have y0 : w5.cell? ⟨w1.heap.size, 0, none⟩ = some (.int .i64 v) := (blk_cell hb5 0).trans rfl; have u0_ : w5.cell? ⟨w.heap.size, 0, none⟩ = some (.int .i64 0) := (blk_cell hr5 0).trans rfl; have g0_ := blk_frozen hr5 0; have y1 : w5.cell? ⟨w1.heap.size, 1, none⟩ = some (.string p) := (blk_cell hb5 1).trans rfl; have u1_ : w5.cell? ⟨w.heap.size, 1, none⟩ = some (.string ⟨#[]⟩) := (blk_cell hr5 1).trans rfl; have g1_ := blk_frozen hr5 1; have y2 : w5.cell? ⟨w1.heap.size, 2, none⟩ = some (.string ⟨#[]⟩) := (blk_cell hb5 2).trans rfl; have u2_ : w5.cell? ⟨w.heap.size, 2, none⟩ = some (.string ⟨#[]⟩) := (blk_cell hr5 2).trans rfl; have g2_ := blk_frozen hr5 2; have y3 : w5.cell? ⟨w1.heap.size, 3, none⟩ = some (.int .i64 0) := (blk_cell hb5 3).trans rfl; have u3_ : w5.cell? ⟨w.heap.size, 3, none⟩ = some (.int .i64 0) := (blk_cell hr5 3).trans rfl; have g3_ := blk_frozen hr5 3; have y4 : w5.cell? ⟨w1.heap.size, 4, none⟩ = some (.string ⟨#[]⟩) := (blk_cell hb5 4).trans rfl; have u4_ : w5.cell? ⟨w.heap.size, 4, none⟩ = some (.string ⟨#[]⟩) := (blk_cell hr5 4).trans rfl; have g4_ := blk_frozen hr5 4; have y5 : w5.cell? ⟨w1.heap.size, 5, none⟩ = some (.int .i64 0) := (blk_cell hb5 5).trans rfl; have u5_ : w5.cell? ⟨w.heap.size, 5, none⟩ = some (.int .i64 0) := (blk_cell hr5 5).trans rfl; have g5_ := blk_frozen hr5 5; have y6 : w5.cell? ⟨w1.heap.size, 6, none⟩ = some (.bool false) := (blk_cell hb5 6).trans rfl; have u6_ : w5.cell? ⟨w.heap.size, 6, none⟩ = some (.bool false) := (blk_cell hr5 6).trans rfl; have g6_ := blk_frozen hr5 6; have y7 : w5.cell? ⟨w1.heap.size, 7, none⟩ = some (.int .i64 0) := (blk_cell hb5 7).trans rfl; have u7_ : w5.cell? ⟨w.heap.size, 7, none⟩ = some (.int .i64 0) := (blk_cell hr5 7).trans rfl; have g7_ := blk_frozen hr5 7; have y8 : w5.cell? ⟨w1.heap.size, 8, none⟩ = some (.int .i64 0) := (blk_cell hb5 8).trans rfl; have u8_ : w5.cell? ⟨w.heap.size, 8, none⟩ = some (.int .i64 0) := (blk_cell hr5 8).trans rfl; have g8_ := blk_frozen hr5 8; have y9 : w5.cell? ⟨w1.heap.size, 9, none⟩ = some (.int .i64 0) := (blk_cell hb5 9).trans rfl; have u9_ : w5.cell? ⟨w.heap.size, 9, none⟩ = some (.int .i64 0) := (blk_cell hr5 9).trans rfl; have g9_ := blk_frozen hr5 9; clear hb5 hr5))
  refine bodyPost_ret (results_ct rfl _ _ w.heap.size 27 _ (0, 0) _ rfl (ord_put w5 w.heap.size 0 ⟨#[]⟩ ⟨#[]⟩ 0 ⟨#[]⟩ 0 false 0 0 0 v p ⟨#[]⟩ 0 ⟨#[]⟩ 0 false 0 0 0 _ HR5.out) Tryz.underlying27 rfl (by kernel_rfl)) rfl ?_
  exact ⟨rfl, ord_below w w5 w.heap.size v p ⟨#[]⟩ 0 ⟨#[]⟩ 0 false 0 0 0 HB5.out (Nat.le_refl _)⟩
set_option maxRecDepth 100000 in
theorem from_name (A0 : Option Addr) (c0 : Nat) (l0 : List ByteArray) (hl : l0 ≠ []) (w : World) (hT : Aside0 (Tab w)) (hr0 : Kd.C Kd.string w A0 l0.length l0) (hc0 : l0.length ≤ c0) (hm0 : l0.length ≤ 4611686018427387904)
    (v : Int) (r : List ByteArray) (hvv : (verbOf l0).1 = v) (hrr : (verbOf l0).2 = r) (hv0 : v ≠ 0) (lo hi : Int) (hmost : order_most.f v = some (lo, hi)) (hb1 : ¬ (r.length : Int) < lo) (hb2 : ¬ hi < (r.length : Int)) (hnp : order_noProxy.f v = some false) (hv1' : v ≠ 1) (hv6 : v = 6) (p q : ByteArray) (hrp : r = [p, q]) :
    Calls Tryz.prog 9 #[.slice A0 l0.length c0] w fun e w' => e = .returned (.tuple #[.agg (ordC v p q 0 ⟨#[]⟩ 0 false 0 0 0), .int .i64 0]) ∧ Below w.heap.size w w' := by
  unfold ordC
  have q0 : ((l0.length : Int) == 0) = false := by rw [beq_eq_false_iff_ne]; intro h; exact hl (List.length_eq_zero_iff.1 (by omega))
  have HC := Lib.hid (fun W (hb : Below w.heap.size w W) => verb_is A0 c0 l0 W ⟨tab_below hT.out hb⟩ (Kd.C_below hr0 hb) hc0 hm0)
  rw [hvv, hrr] at HC
  have hv1 : (v == 0) = false := by rw [beq_eq_false_iff_ne]; exact hv0
  have HM := Lib.hid (fun W => order_most.calls v lo hi W hmost)
  have HN := Lib.hid (fun W => order_noProxy.calls v false W hnp)
  have hq1 : (v == 1) = false := by rw [beq_eq_false_iff_ne]; exact hv1'
  have hq6 : (v == 6) = true := by rw [beq_iff_eq]; exact hv6
  have HRL := Lib.hid (show r.length = 2 by rw [hrp]; rfl)
  have HRP := Lib.hid hrp
  clear hnp hv1' hv6 hrp hl hr0 hc0 hm0 hv0 hvv hrr hmost
  have HB0 := Lib.hid (below_alloc (Below.refl w.heap.size w) (.cells #[.int .i64 0, .string ⟨#[]⟩, .string ⟨#[]⟩, .int .i64 0, .string ⟨#[]⟩, .int .i64 0, .bool false, .int .i64 0, .int .i64 0, .int .i64 0] 27))
  have HBK := Lib.hid (alloc_blk w #[.int .i64 0, .string ⟨#[]⟩, .string ⟨#[]⟩, .int .i64 0, .string ⟨#[]⟩, .int .i64 0, .bool false, .int .i64 0, .int .i64 0, .int .i64 0] 27)
  go_enter Tryz.func9, Tryz.ntmps9
  go_wp2_with (first | (go_at_call 22; refine (HC.out _ HB0.out).mono ?_; rintro e w1 ⟨⟨A, c, rfl, hr, hc⟩, hb⟩; have HB1 := Lib.hid (below_step HB0.out hb); have HBK1 := Lib.hid (blk_below HBK.out hb); obtain ⟨ad, ha, hx⟩ := Kd.at_string hr 0 (by omega) (by rw [HRL.out]; omega); cases ha; obtain ⟨A', hcut, hcr, hcl⟩ := cut_from (A := some ad) (n := 1) (l := r) (by rw [HRL.out]; omega) hc; have hcut1 : ∀ W : World, (Instr.slice 22 (.slice (some ad) r.length c) (some (.int .i64 1)) none none).run Tryz.prog W = .ok (.slice A' (r.drop 1).length (c - 1)) W := hcut; have HCR := Lib.hid (hcr _ hr); have HCL := Lib.hid hcl; clear hcr hcl; have hnr : (r.drop 1).length = 1 := (by rw [List.length_drop, HRL.out]); rw [hnr] at hcut1; have HNR := Lib.hid hnr; clear hnr hcut; have hx1 : w1.cell? ad = some (.string p) := (by have h9 := hx; rw [show ad.add (0 : Int).toNat = ad by simp [Addr.add]] at h9; rw [h9, show rdOf ByteArray.empty r 0 = p by rw [HRP.out]; rfl]); have q7 : (0 : Int) < (r.length : Int) := (by rw [HRL.out]; omega); clear hx hr hc hb; have z0 : w1.cell? ⟨w.heap.size, 0, none⟩ = some (.int .i64 0) := (blk_cell HBK1.out 0).trans rfl; have f0 := blk_frozen HBK1.out 0; have z1 : w1.cell? ⟨w.heap.size, 1, none⟩ = some (.string ⟨#[]⟩) := (blk_cell HBK1.out 1).trans rfl; have f1 := blk_frozen HBK1.out 1; have z2 : w1.cell? ⟨w.heap.size, 2, none⟩ = some (.string ⟨#[]⟩) := (blk_cell HBK1.out 2).trans rfl; have f2 := blk_frozen HBK1.out 2; have z3 : w1.cell? ⟨w.heap.size, 3, none⟩ = some (.int .i64 0) := (blk_cell HBK1.out 3).trans rfl; have f3 := blk_frozen HBK1.out 3; have z4 : w1.cell? ⟨w.heap.size, 4, none⟩ = some (.string ⟨#[]⟩) := (blk_cell HBK1.out 4).trans rfl; have f4 := blk_frozen HBK1.out 4; have z5 : w1.cell? ⟨w.heap.size, 5, none⟩ = some (.int .i64 0) := (blk_cell HBK1.out 5).trans rfl; have f5 := blk_frozen HBK1.out 5; have z6 : w1.cell? ⟨w.heap.size, 6, none⟩ = some (.bool false) := (blk_cell HBK1.out 6).trans rfl; have f6 := blk_frozen HBK1.out 6; have z7 : w1.cell? ⟨w.heap.size, 7, none⟩ = some (.int .i64 0) := (blk_cell HBK1.out 7).trans rfl; have f7 := blk_frozen HBK1.out 7; have z8 : w1.cell? ⟨w.heap.size, 8, none⟩ = some (.int .i64 0) := (blk_cell HBK1.out 8).trans rfl; have f8 := blk_frozen HBK1.out 8; have z9 : w1.cell? ⟨w.heap.size, 9, none⟩ = some (.int .i64 0) := (blk_cell HBK1.out 9).trans rfl; have f9 := blk_frozen HBK1.out 9) | (go_at_call 23; refine (HM.out _).mono ?_; rintro e w' ⟨rfl, ⟨nd, rfl⟩⟩) | (go_at_call 24; refine (HN.out _).mono ?_; rintro e w' ⟨rfl, ⟨ne, rfl⟩⟩) | (go_at_call 27; have hbx := alloc_blk (w1.drewN (nd + ne)) (ordC v p ⟨#[]⟩ 0 ⟨#[]⟩ 0 false 0 0 0) 27; have hc4 : Kd.C Kd.string ((w1.drewN (nd + ne)).alloc (.cells (ordC v p ⟨#[]⟩ 0 ⟨#[]⟩ 0 false 0 0 0) 27)) A' (r.drop 1).length (r.drop 1) := Kd.C_alloc (Kd.C_drewN HCR.out _) _; have hq : (r.drop 1).length = 1 := HNR.out; have hd : r.drop 1 = [q] := (by rw [HRP.out]; rfl); rw [hd] at hc4; have hcl4 : [q].length ≤ c - 1 := (by have := HCL.out; rw [hd] at this; exact this); refine (name_is w1.heap.size v p A' (c - 1) [q] (by simp) _ hbx hc4 hcl4).mono ?_; rintro e w5 ⟨rfl, hw⟩; have hgl : w.heap.size < w1.heap.size := blk_lt HBK1.out; have hb5 : w5.heap[w1.heap.size]? = some (.cells #[.int .i64 v, .string p, .string q, .int .i64 0, .string ⟨#[]⟩, .int .i64 0, .bool false, .int .i64 0, .int .i64 0, .int .i64 0] 27 (0, 0)) := (by rw [hw]; exact blk_put (cs := ordC v p ⟨#[]⟩ 0 ⟨#[]⟩ 0 false 0 0 0) hbx 2 _ rfl); have hr5 : w5.heap[w.heap.size]? = some (.cells #[.int .i64 0, .string ⟨#[]⟩, .string ⟨#[]⟩, .int .i64 0, .string ⟨#[]⟩, .int .i64 0, .bool false, .int .i64 0, .int .i64 0, .int .i64 0] 27 (0, 0)) := (by rw [hw]; exact blk_far (blk_alloc (o := .cells _ _) HBK1.out _) (Nat.ne_of_lt hgl) _); have HR5 := Lib.hid hr5; have HB5 := Lib.hid (show Below w.heap.size w w5 by rw [hw]; refine below_set ?_ (Nat.le_of_lt hgl); repeat (first | exact HB1.out | apply pw_below_drewN | apply below_alloc)); clear hw hbx hc4 hq hd hcl4 hgl; have y0 : w5.cell? ⟨w1.heap.size, 0, none⟩ = some (.int .i64 v) := (blk_cell hb5 0).trans rfl; have u0_ : w5.cell? ⟨w.heap.size, 0, none⟩ = some (.int .i64 0) := (blk_cell hr5 0).trans rfl; have g0_ := blk_frozen hr5 0; have y1 : w5.cell? ⟨w1.heap.size, 1, none⟩ = some (.string p) := (blk_cell hb5 1).trans rfl; have u1_ : w5.cell? ⟨w.heap.size, 1, none⟩ = some (.string ⟨#[]⟩) := (blk_cell hr5 1).trans rfl; have g1_ := blk_frozen hr5 1; have y2 : w5.cell? ⟨w1.heap.size, 2, none⟩ = some (.string q) := (blk_cell hb5 2).trans rfl; have u2_ : w5.cell? ⟨w.heap.size, 2, none⟩ = some (.string ⟨#[]⟩) := (blk_cell hr5 2).trans rfl; have g2_ := blk_frozen hr5 2; have y3 : w5.cell? ⟨w1.heap.size, 3, none⟩ = some (.int .i64 0) := (blk_cell hb5 3).trans rfl; have u3_ : w5.cell? ⟨w.heap.size, 3, none⟩ = some (.int .i64 0) := (blk_cell hr5 3).trans rfl; have g3_ := blk_frozen hr5 3; have y4 : w5.cell? ⟨w1.heap.size, 4, none⟩ = some (.string ⟨#[]⟩) := (blk_cell hb5 4).trans rfl; have u4_ : w5.cell? ⟨w.heap.size, 4, none⟩ = some (.string ⟨#[]⟩) := (blk_cell hr5 4).trans rfl; have g4_ := blk_frozen hr5 4; have y5 : w5.cell? ⟨w1.heap.size, 5, none⟩ = some (.int .i64 0) := (blk_cell hb5 5).trans rfl; have u5_ : w5.cell? ⟨w.heap.size, 5, none⟩ = some (.int .i64 0) := (blk_cell hr5 5).trans rfl; have g5_ := blk_frozen hr5 5; have y6 : w5.cell? ⟨w1.heap.size, 6, none⟩ = some (.bool false) := (blk_cell hb5 6).trans rfl; have u6_ : w5.cell? ⟨w.heap.size, 6, none⟩ = some (.bool false) := (blk_cell hr5 6).trans rfl; have g6_ := blk_frozen hr5 6; have y7 : w5.cell? ⟨w1.heap.size, 7, none⟩ = some (.int .i64 0) := (blk_cell hb5 7).trans rfl; have u7_ : w5.cell? ⟨w.heap.size, 7, none⟩ = some (.int .i64 0) := (blk_cell hr5 7).trans rfl; have g7_ := blk_frozen hr5 7; have y8 : w5.cell? ⟨w1.heap.size, 8, none⟩ = some (.int .i64 0) := (blk_cell hb5 8).trans rfl; have u8_ : w5.cell? ⟨w.heap.size, 8, none⟩ = some (.int .i64 0) := (blk_cell hr5 8).trans rfl; have g8_ := blk_frozen hr5 8; have y9 : w5.cell? ⟨w1.heap.size, 9, none⟩ = some (.int .i64 0) := (blk_cell hb5 9).trans rfl; have u9_ : w5.cell? ⟨w.heap.size, 9, none⟩ = some (.int .i64 0) := (blk_cell hr5 9).trans rfl; have g9_ := blk_frozen hr5 9; clear hb5 hr5))
  refine bodyPost_ret (results_ct rfl _ _ w.heap.size 27 _ (0, 0) _ rfl (ord_put w5 w.heap.size 0 ⟨#[]⟩ ⟨#[]⟩ 0 ⟨#[]⟩ 0 false 0 0 0 v p q 0 ⟨#[]⟩ 0 false 0 0 0 _ HR5.out) Tryz.underlying27 rfl (by kernel_rfl)) rfl ?_
  exact ⟨rfl, ord_below w w5 w.heap.size v p q 0 ⟨#[]⟩ 0 false 0 0 0 HB5.out (Nat.le_refl _)⟩
set_option maxRecDepth 100000 in
theorem from_number (A0 : Option Addr) (c0 : Nat) (l0 : List ByteArray) (hl : l0 ≠ []) (w : World) (hT : Aside0 (Tab w)) (hr0 : Kd.C Kd.string w A0 l0.length l0) (hc0 : l0.length ≤ c0) (hm0 : l0.length ≤ 4611686018427387904)
    (v : Int) (r : List ByteArray) (hvv : (verbOf l0).1 = v) (hrr : (verbOf l0).2 = r) (hv0 : v ≠ 0) (lo hi : Int) (hmost : order_most.f v = some (lo, hi)) (hb1 : ¬ (r.length : Int) < lo) (hb2 : ¬ hi < (r.length : Int)) (hnp : order_noProxy.f v = some false) (hv1' : v = 1) (p q : ByteArray) (n : Int) (htp : tickParse q = (n, 0)) (hrp : r = [p, q]) :
    Calls Tryz.prog 9 #[.slice A0 l0.length c0] w fun e w' => e = .returned (.tuple #[.agg (ordC v p ⟨#[]⟩ n ⟨#[]⟩ 0 false 0 0 0), .int .i64 0]) ∧ Below w.heap.size w w' := by
  unfold ordC
  have q0 : ((l0.length : Int) == 0) = false := by rw [beq_eq_false_iff_ne]; intro h; exact hl (List.length_eq_zero_iff.1 (by omega))
  have HC := Lib.hid (fun W (hb : Below w.heap.size w W) => verb_is A0 c0 l0 W ⟨tab_below hT.out hb⟩ (Kd.C_below hr0 hb) hc0 hm0)
  rw [hvv, hrr] at HC
  have hv1 : (v == 0) = false := by rw [beq_eq_false_iff_ne]; exact hv0
  have HM := Lib.hid (fun W => order_most.calls v lo hi W hmost)
  have HN := Lib.hid (fun W => order_noProxy.calls v false W hnp)
  have hq1 : (v == 1) = true := by rw [beq_iff_eq]; exact hv1'
  have HTP := Lib.hid htp
  have HRL := Lib.hid (show r.length = 2 by rw [hrp]; rfl)
  have HRP := Lib.hid hrp
  clear hnp hv1' htp hrp hl hr0 hc0 hm0 hv0 hvv hrr hmost
  have HB0 := Lib.hid (below_alloc (Below.refl w.heap.size w) (.cells #[.int .i64 0, .string ⟨#[]⟩, .string ⟨#[]⟩, .int .i64 0, .string ⟨#[]⟩, .int .i64 0, .bool false, .int .i64 0, .int .i64 0, .int .i64 0] 27))
  have HBK := Lib.hid (alloc_blk w #[.int .i64 0, .string ⟨#[]⟩, .string ⟨#[]⟩, .int .i64 0, .string ⟨#[]⟩, .int .i64 0, .bool false, .int .i64 0, .int .i64 0, .int .i64 0] 27)
  go_enter Tryz.func9, Tryz.ntmps9
  go_wp2_with (first | (go_at_call 22; refine (HC.out _ HB0.out).mono ?_; rintro e w1 ⟨⟨A, c, rfl, hr, hc⟩, hb⟩; have HB1 := Lib.hid (below_step HB0.out hb); have HBK1 := Lib.hid (blk_below HBK.out hb); obtain ⟨ad, ha, hx⟩ := Kd.at_string hr 0 (by omega) (by rw [HRL.out]; omega); cases ha; obtain ⟨A', hcut, hcr, hcl⟩ := cut_from (A := some ad) (n := 1) (l := r) (by rw [HRL.out]; omega) hc; have hcut1 : ∀ W : World, (Instr.slice 22 (.slice (some ad) r.length c) (some (.int .i64 1)) none none).run Tryz.prog W = .ok (.slice A' (r.drop 1).length (c - 1)) W := hcut; have HCR := Lib.hid (hcr _ hr); have HCL := Lib.hid hcl; clear hcr hcl; have hnr : (r.drop 1).length = 1 := (by rw [List.length_drop, HRL.out]); rw [hnr] at hcut1; have HNR := Lib.hid hnr; clear hnr hcut; have hx1 : w1.cell? ad = some (.string p) := (by have h9 := hx; rw [show ad.add (0 : Int).toNat = ad by simp [Addr.add]] at h9; rw [h9, show rdOf ByteArray.empty r 0 = p by rw [HRP.out]; rfl]); have q7 : (0 : Int) < (r.length : Int) := (by rw [HRL.out]; omega); clear hx hr hc hb; have z0 : w1.cell? ⟨w.heap.size, 0, none⟩ = some (.int .i64 0) := (blk_cell HBK1.out 0).trans rfl; have f0 := blk_frozen HBK1.out 0; have z1 : w1.cell? ⟨w.heap.size, 1, none⟩ = some (.string ⟨#[]⟩) := (blk_cell HBK1.out 1).trans rfl; have f1 := blk_frozen HBK1.out 1; have z2 : w1.cell? ⟨w.heap.size, 2, none⟩ = some (.string ⟨#[]⟩) := (blk_cell HBK1.out 2).trans rfl; have f2 := blk_frozen HBK1.out 2; have z3 : w1.cell? ⟨w.heap.size, 3, none⟩ = some (.int .i64 0) := (blk_cell HBK1.out 3).trans rfl; have f3 := blk_frozen HBK1.out 3; have z4 : w1.cell? ⟨w.heap.size, 4, none⟩ = some (.string ⟨#[]⟩) := (blk_cell HBK1.out 4).trans rfl; have f4 := blk_frozen HBK1.out 4; have z5 : w1.cell? ⟨w.heap.size, 5, none⟩ = some (.int .i64 0) := (blk_cell HBK1.out 5).trans rfl; have f5 := blk_frozen HBK1.out 5; have z6 : w1.cell? ⟨w.heap.size, 6, none⟩ = some (.bool false) := (blk_cell HBK1.out 6).trans rfl; have f6 := blk_frozen HBK1.out 6; have z7 : w1.cell? ⟨w.heap.size, 7, none⟩ = some (.int .i64 0) := (blk_cell HBK1.out 7).trans rfl; have f7 := blk_frozen HBK1.out 7; have z8 : w1.cell? ⟨w.heap.size, 8, none⟩ = some (.int .i64 0) := (blk_cell HBK1.out 8).trans rfl; have f8 := blk_frozen HBK1.out 8; have z9 : w1.cell? ⟨w.heap.size, 9, none⟩ = some (.int .i64 0) := (blk_cell HBK1.out 9).trans rfl; have f9 := blk_frozen HBK1.out 9) | (go_at_call 23; refine (HM.out _).mono ?_; rintro e w' ⟨rfl, ⟨nd, rfl⟩⟩) | (go_at_call 24; refine (HN.out _).mono ?_; rintro e w' ⟨rfl, ⟨ne, rfl⟩⟩) | (go_at_call 26; have hbx := alloc_blk (w1.drewN (nd + ne)) (ordC v p ⟨#[]⟩ 0 ⟨#[]⟩ 0 false 0 0 0) 27; have hc4 : Kd.C Kd.string ((w1.drewN (nd + ne)).alloc (.cells (ordC v p ⟨#[]⟩ 0 ⟨#[]⟩ 0 false 0 0 0) 27)) A' (r.drop 1).length (r.drop 1) := Kd.C_alloc (Kd.C_drewN HCR.out _) _; have hq : (r.drop 1).length = 1 := HNR.out; have hd : r.drop 1 = [q] := (by rw [HRP.out]; rfl); rw [hd] at hc4; have hcl4 : [q].length ≤ c - 1 := (by have := HCL.out; rw [hd] at this; exact this); refine (number_is w1.heap.size v p A' (c - 1) [q] (by simp) _ hbx hc4 hcl4 n 0 HTP.out).mono ?_; rintro e w5 ⟨W1, hb6, h6⟩; obtain ⟨-, rfl, hw⟩ := h6.resolve_right (fun hh => hh.1 rfl); have hgl : w.heap.size < w1.heap.size := blk_lt HBK1.out; have hb5 : w5.heap[w1.heap.size]? = some (.cells #[.int .i64 v, .string p, .string ⟨#[]⟩, .int .i64 n, .string ⟨#[]⟩, .int .i64 0, .bool false, .int .i64 0, .int .i64 0, .int .i64 0] 27 (0, 0)) := (by rw [hw]; exact blk_put (cs := ordC v p ⟨#[]⟩ 0 ⟨#[]⟩ 0 false 0 0 0) (blk_below hbx hb6) 3 _ rfl); have hr5 : w5.heap[w.heap.size]? = some (.cells #[.int .i64 0, .string ⟨#[]⟩, .string ⟨#[]⟩, .int .i64 0, .string ⟨#[]⟩, .int .i64 0, .bool false, .int .i64 0, .int .i64 0, .int .i64 0] 27 (0, 0)) := (by rw [hw]; exact blk_far (blk_below (blk_alloc (w := w1.drewN (nd + ne)) (o := .cells _ _) HBK1.out _) hb6) (Nat.ne_of_lt hgl) _); have HR5 := Lib.hid hr5; have HB5 := Lib.hid (show Below w.heap.size w w5 by rw [hw]; refine below_set ?_ (Nat.le_of_lt hgl); refine below_step ?_ hb6; repeat (first | exact HB1.out | apply pw_below_drewN | apply below_alloc)); clear hw hb6 h6 hbx hc4 hq hd hcl4 hgl; have y0 : w5.cell? ⟨w1.heap.size, 0, none⟩ = some (.int .i64 v) := (blk_cell hb5 0).trans rfl; have u0_ : w5.cell? ⟨w.heap.size, 0, none⟩ = some (.int .i64 0) := (blk_cell hr5 0).trans rfl; have g0_ := blk_frozen hr5 0; have y1 : w5.cell? ⟨w1.heap.size, 1, none⟩ = some (.string p) := (blk_cell hb5 1).trans rfl; have u1_ : w5.cell? ⟨w.heap.size, 1, none⟩ = some (.string ⟨#[]⟩) := (blk_cell hr5 1).trans rfl; have g1_ := blk_frozen hr5 1; have y2 : w5.cell? ⟨w1.heap.size, 2, none⟩ = some (.string ⟨#[]⟩) := (blk_cell hb5 2).trans rfl; have u2_ : w5.cell? ⟨w.heap.size, 2, none⟩ = some (.string ⟨#[]⟩) := (blk_cell hr5 2).trans rfl; have g2_ := blk_frozen hr5 2; have y3 : w5.cell? ⟨w1.heap.size, 3, none⟩ = some (.int .i64 n) := (blk_cell hb5 3).trans rfl; have u3_ : w5.cell? ⟨w.heap.size, 3, none⟩ = some (.int .i64 0) := (blk_cell hr5 3).trans rfl; have g3_ := blk_frozen hr5 3; have y4 : w5.cell? ⟨w1.heap.size, 4, none⟩ = some (.string ⟨#[]⟩) := (blk_cell hb5 4).trans rfl; have u4_ : w5.cell? ⟨w.heap.size, 4, none⟩ = some (.string ⟨#[]⟩) := (blk_cell hr5 4).trans rfl; have g4_ := blk_frozen hr5 4; have y5 : w5.cell? ⟨w1.heap.size, 5, none⟩ = some (.int .i64 0) := (blk_cell hb5 5).trans rfl; have u5_ : w5.cell? ⟨w.heap.size, 5, none⟩ = some (.int .i64 0) := (blk_cell hr5 5).trans rfl; have g5_ := blk_frozen hr5 5; have y6 : w5.cell? ⟨w1.heap.size, 6, none⟩ = some (.bool false) := (blk_cell hb5 6).trans rfl; have u6_ : w5.cell? ⟨w.heap.size, 6, none⟩ = some (.bool false) := (blk_cell hr5 6).trans rfl; have g6_ := blk_frozen hr5 6; have y7 : w5.cell? ⟨w1.heap.size, 7, none⟩ = some (.int .i64 0) := (blk_cell hb5 7).trans rfl; have u7_ : w5.cell? ⟨w.heap.size, 7, none⟩ = some (.int .i64 0) := (blk_cell hr5 7).trans rfl; have g7_ := blk_frozen hr5 7; have y8 : w5.cell? ⟨w1.heap.size, 8, none⟩ = some (.int .i64 0) := (blk_cell hb5 8).trans rfl; have u8_ : w5.cell? ⟨w.heap.size, 8, none⟩ = some (.int .i64 0) := (blk_cell hr5 8).trans rfl; have g8_ := blk_frozen hr5 8; have y9 : w5.cell? ⟨w1.heap.size, 9, none⟩ = some (.int .i64 0) := (blk_cell hb5 9).trans rfl; have u9_ : w5.cell? ⟨w.heap.size, 9, none⟩ = some (.int .i64 0) := (blk_cell hr5 9).trans rfl; have g9_ := blk_frozen hr5 9; clear hb5 hr5))
  refine bodyPost_ret (results_ct rfl _ _ w.heap.size 27 _ (0, 0) _ rfl (ord_put w5 w.heap.size 0 ⟨#[]⟩ ⟨#[]⟩ 0 ⟨#[]⟩ 0 false 0 0 0 v p ⟨#[]⟩ n ⟨#[]⟩ 0 false 0 0 0 _ HR5.out) Tryz.underlying27 rfl (by kernel_rfl)) rfl ?_
  exact ⟨rfl, ord_below w w5 w.heap.size v p ⟨#[]⟩ n ⟨#[]⟩ 0 false 0 0 0 HB5.out (Nat.le_refl _)⟩
set_option maxRecDepth 100000 in
theorem from_numbad (A0 : Option Addr) (c0 : Nat) (l0 : List ByteArray) (hl : l0 ≠ []) (w : World) (hT : Aside0 (Tab w)) (hr0 : Kd.C Kd.string w A0 l0.length l0) (hc0 : l0.length ≤ c0) (hm0 : l0.length ≤ 4611686018427387904)
    (v : Int) (r : List ByteArray) (hvv : (verbOf l0).1 = v) (hrr : (verbOf l0).2 = r) (hv0 : v ≠ 0) (lo hi : Int) (hmost : order_most.f v = some (lo, hi)) (hb1 : ¬ (r.length : Int) < lo) (hb2 : ¬ hi < (r.length : Int)) (hnp : order_noProxy.f v = some false) (hv1' : v = 1) (p q : ByteArray) (n er : Int) (htp : tickParse q = (n, er)) (her : er ≠ 0) (hrp : r = [p, q]) :
    Calls Tryz.prog 9 #[.slice A0 l0.length c0] w fun e w' => e = .returned (.tuple #[.agg (ordC 0 ⟨#[]⟩ ⟨#[]⟩ 0 ⟨#[]⟩ 0 false 0 0 0), .int .i64 162]) ∧ Below w.heap.size w w' := by
  unfold ordC
  have q0 : ((l0.length : Int) == 0) = false := by rw [beq_eq_false_iff_ne]; intro h; exact hl (List.length_eq_zero_iff.1 (by omega))
  have HC := Lib.hid (fun W (hb : Below w.heap.size w W) => verb_is A0 c0 l0 W ⟨tab_below hT.out hb⟩ (Kd.C_below hr0 hb) hc0 hm0)
  rw [hvv, hrr] at HC
  have hv1 : (v == 0) = false := by rw [beq_eq_false_iff_ne]; exact hv0
  have HM := Lib.hid (fun W => order_most.calls v lo hi W hmost)
  have HN := Lib.hid (fun W => order_noProxy.calls v false W hnp)
  have hq1 : (v == 1) = true := by rw [beq_iff_eq]; exact hv1'
  have HTP := Lib.hid htp
  have HER := Lib.hid her
  have HRL := Lib.hid (show r.length = 2 by rw [hrp]; rfl)
  have HRP := Lib.hid hrp
  clear hnp hv1' htp her hrp hl hr0 hc0 hm0 hv0 hvv hrr hmost
  have HB0 := Lib.hid (below_alloc (Below.refl w.heap.size w) (.cells #[.int .i64 0, .string ⟨#[]⟩, .string ⟨#[]⟩, .int .i64 0, .string ⟨#[]⟩, .int .i64 0, .bool false, .int .i64 0, .int .i64 0, .int .i64 0] 27))
  have HBK := Lib.hid (alloc_blk w #[.int .i64 0, .string ⟨#[]⟩, .string ⟨#[]⟩, .int .i64 0, .string ⟨#[]⟩, .int .i64 0, .bool false, .int .i64 0, .int .i64 0, .int .i64 0] 27)
  go_enter Tryz.func9, Tryz.ntmps9
  go_wp2_with (first | (go_at_call 22; refine (HC.out _ HB0.out).mono ?_; rintro e w1 ⟨⟨A, c, rfl, hr, hc⟩, hb⟩; have HB1 := Lib.hid (below_step HB0.out hb); have HBK1 := Lib.hid (blk_below HBK.out hb); obtain ⟨ad, ha, hx⟩ := Kd.at_string hr 0 (by omega) (by rw [HRL.out]; omega); cases ha; obtain ⟨A', hcut, hcr, hcl⟩ := cut_from (A := some ad) (n := 1) (l := r) (by rw [HRL.out]; omega) hc; have hcut1 : ∀ W : World, (Instr.slice 22 (.slice (some ad) r.length c) (some (.int .i64 1)) none none).run Tryz.prog W = .ok (.slice A' (r.drop 1).length (c - 1)) W := hcut; have HCR := Lib.hid (hcr _ hr); have HCL := Lib.hid hcl; clear hcr hcl; have hnr : (r.drop 1).length = 1 := (by rw [List.length_drop, HRL.out]); rw [hnr] at hcut1; have HNR := Lib.hid hnr; clear hnr hcut; have hx1 : w1.cell? ad = some (.string p) := (by have h9 := hx; rw [show ad.add (0 : Int).toNat = ad by simp [Addr.add]] at h9; rw [h9, show rdOf ByteArray.empty r 0 = p by rw [HRP.out]; rfl]); have q7 : (0 : Int) < (r.length : Int) := (by rw [HRL.out]; omega); clear hx hr hc hb; have z0 : w1.cell? ⟨w.heap.size, 0, none⟩ = some (.int .i64 0) := (blk_cell HBK1.out 0).trans rfl; have f0 := blk_frozen HBK1.out 0; have z1 : w1.cell? ⟨w.heap.size, 1, none⟩ = some (.string ⟨#[]⟩) := (blk_cell HBK1.out 1).trans rfl; have f1 := blk_frozen HBK1.out 1; have z2 : w1.cell? ⟨w.heap.size, 2, none⟩ = some (.string ⟨#[]⟩) := (blk_cell HBK1.out 2).trans rfl; have f2 := blk_frozen HBK1.out 2; have z3 : w1.cell? ⟨w.heap.size, 3, none⟩ = some (.int .i64 0) := (blk_cell HBK1.out 3).trans rfl; have f3 := blk_frozen HBK1.out 3; have z4 : w1.cell? ⟨w.heap.size, 4, none⟩ = some (.string ⟨#[]⟩) := (blk_cell HBK1.out 4).trans rfl; have f4 := blk_frozen HBK1.out 4; have z5 : w1.cell? ⟨w.heap.size, 5, none⟩ = some (.int .i64 0) := (blk_cell HBK1.out 5).trans rfl; have f5 := blk_frozen HBK1.out 5; have z6 : w1.cell? ⟨w.heap.size, 6, none⟩ = some (.bool false) := (blk_cell HBK1.out 6).trans rfl; have f6 := blk_frozen HBK1.out 6; have z7 : w1.cell? ⟨w.heap.size, 7, none⟩ = some (.int .i64 0) := (blk_cell HBK1.out 7).trans rfl; have f7 := blk_frozen HBK1.out 7; have z8 : w1.cell? ⟨w.heap.size, 8, none⟩ = some (.int .i64 0) := (blk_cell HBK1.out 8).trans rfl; have f8 := blk_frozen HBK1.out 8; have z9 : w1.cell? ⟨w.heap.size, 9, none⟩ = some (.int .i64 0) := (blk_cell HBK1.out 9).trans rfl; have f9 := blk_frozen HBK1.out 9) | (go_at_call 23; refine (HM.out _).mono ?_; rintro e w' ⟨rfl, ⟨nd, rfl⟩⟩) | (go_at_call 24; refine (HN.out _).mono ?_; rintro e w' ⟨rfl, ⟨ne, rfl⟩⟩) | (go_at_call 26; have hbx := alloc_blk (w1.drewN (nd + ne)) (ordC v p ⟨#[]⟩ 0 ⟨#[]⟩ 0 false 0 0 0) 27; have hc4 : Kd.C Kd.string ((w1.drewN (nd + ne)).alloc (.cells (ordC v p ⟨#[]⟩ 0 ⟨#[]⟩ 0 false 0 0 0) 27)) A' (r.drop 1).length (r.drop 1) := Kd.C_alloc (Kd.C_drewN HCR.out _) _; have hq : (r.drop 1).length = 1 := HNR.out; have hd : r.drop 1 = [q] := (by rw [HRP.out]; rfl); rw [hd] at hc4; have hcl4 : [q].length ≤ c - 1 := (by have := HCL.out; rw [hd] at this; exact this); refine (number_is w1.heap.size v p A' (c - 1) [q] (by simp) _ hbx hc4 hcl4 n er HTP.out).mono ?_; rintro e w5 ⟨W1, hb6, h6⟩; obtain ⟨-, rfl, hw⟩ := h6.resolve_left (fun hh => HER.out hh.1); have hgl : w.heap.size < w1.heap.size := blk_lt HBK1.out; have hr5 : w5.heap[w.heap.size]? = some (.cells #[.int .i64 0, .string ⟨#[]⟩, .string ⟨#[]⟩, .int .i64 0, .string ⟨#[]⟩, .int .i64 0, .bool false, .int .i64 0, .int .i64 0, .int .i64 0] 27 (0, 0)) := (by rw [hw]; exact blk_below (blk_alloc (w := w1.drewN (nd + ne)) (o := .cells _ _) HBK1.out _) hb6); have HR5 := Lib.hid hr5; have HB5 := Lib.hid (show Below w.heap.size w w5 by rw [hw]; refine below_step ?_ hb6; repeat (first | exact HB1.out | apply pw_below_drewN | apply below_alloc)); clear hw hb6 h6 hbx hc4 hq hd hcl4 hgl; have u0_ : w5.cell? ⟨w.heap.size, 0, none⟩ = some (.int .i64 0) := (blk_cell hr5 0).trans rfl; have g0_ := blk_frozen hr5 0; have u1_ : w5.cell? ⟨w.heap.size, 1, none⟩ = some (.string ⟨#[]⟩) := (blk_cell hr5 1).trans rfl; have g1_ := blk_frozen hr5 1; have u2_ : w5.cell? ⟨w.heap.size, 2, none⟩ = some (.string ⟨#[]⟩) := (blk_cell hr5 2).trans rfl; have g2_ := blk_frozen hr5 2; have u3_ : w5.cell? ⟨w.heap.size, 3, none⟩ = some (.int .i64 0) := (blk_cell hr5 3).trans rfl; have g3_ := blk_frozen hr5 3; have u4_ : w5.cell? ⟨w.heap.size, 4, none⟩ = some (.string ⟨#[]⟩) := (blk_cell hr5 4).trans rfl; have g4_ := blk_frozen hr5 4; have u5_ : w5.cell? ⟨w.heap.size, 5, none⟩ = some (.int .i64 0) := (blk_cell hr5 5).trans rfl; have g5_ := blk_frozen hr5 5; have u6_ : w5.cell? ⟨w.heap.size, 6, none⟩ = some (.bool false) := (blk_cell hr5 6).trans rfl; have g6_ := blk_frozen hr5 6; have u7_ : w5.cell? ⟨w.heap.size, 7, none⟩ = some (.int .i64 0) := (blk_cell hr5 7).trans rfl; have g7_ := blk_frozen hr5 7; have u8_ : w5.cell? ⟨w.heap.size, 8, none⟩ = some (.int .i64 0) := (blk_cell hr5 8).trans rfl; have g8_ := blk_frozen hr5 8; have u9_ : w5.cell? ⟨w.heap.size, 9, none⟩ = some (.int .i64 0) := (blk_cell hr5 9).trans rfl; have g9_ := blk_frozen hr5 9; clear hr5))
  refine bodyPost_ret (results_ct rfl _ _ w.heap.size 27 _ (0, 0) _ rfl (ord_put w5 w.heap.size 0 ⟨#[]⟩ ⟨#[]⟩ 0 ⟨#[]⟩ 0 false 0 0 0 0 ⟨#[]⟩ ⟨#[]⟩ 0 ⟨#[]⟩ 0 false 0 0 0 _ HR5.out) Tryz.underlying27 rfl (by kernel_rfl)) rfl ?_
  exact ⟨rfl, ord_below w w5 w.heap.size 0 ⟨#[]⟩ ⟨#[]⟩ 0 ⟨#[]⟩ 0 false 0 0 0 HB5.out (Nat.le_refl _)⟩
end Go.Proofs.YtlglbpjccpdloaaGreatDoor.Ext
namespace Go.Proofs.YtlglbpjccpdloaaGreatDoor.PToxR
open Go.Proofs.YtlglbpjccpdloaaGreatDoor.Ext Go.RowKit Go.Proofs.YtlglbpjccpdloaaGreatDoorW.PrintWords Go.Proofs.YtlglbpjccpdloaaGreatDoorW.PrintLast Go.Proofs.YtlglbpjccpdloaaGreatDoorW.PrintMore
attribute [local go_sem] max2_int min2_int max_two min_two max_three min_three max_four min_four   -- for this text's walks alone
set_option linter.unusedVariables false
set_option linter.unusedSimpArgs false
def errW : Option Int → Value
 | none => .nilIface
 | some c => .iface 0 (.int .i64 c)
theorem errW_none : errW none = .nilIface := rfl
theorem errW_some (c : Int) : errW (some c) = .iface 0 (.int .i64 c) := rfl
end Go.Proofs.YtlglbpjccpdloaaGreatDoor.PToxR
namespace Go.Proofs.YtlglbpjccpdloaaGreatDoor.PToxR
open Go.Proofs.YtlglbpjccpdloaaGreatDoor.Ext Go.RowKit Go.Proofs.YtlglbpjccpdloaaGreatDoorW.PrintWords Go.Proofs.YtlglbpjccpdloaaGreatDoorW.PrintLast Go.Proofs.YtlglbpjccpdloaaGreatDoorW.PrintMore
attribute [local go_sem] max2_int min2_int max_two min_two max_three min_three max_four min_four   -- for this text's walks alone
set_option linter.unusedVariables false
set_option linter.unusedSimpArgs false
def chicaneref09_Name.l0 : Nat → ByteArray → Int → Option (Bool)
 | 0, _, _ => none
 | k + 1, x0, x3 => if x3 < (x0.size : Int) then (if 0 ≤ x3 then (if (bt x0 x3) ≥ 97 then (if (bt x0 x3) ≥ 48 then (if ((bt x0 x3) ≤ 122) then (chicaneref09_Name.l0 k x0 (wrap64 (x3 + 1))) else (if ((bt x0 x3) ≤ 57) then (chicaneref09_Name.l0 k x0 (wrap64 (x3 + 1))) else (if (bt x0 x3) = 95 then (chicaneref09_Name.l0 k x0 (wrap64 (x3 + 1))) else (if (bt x0 x3) = 45 then (chicaneref09_Name.l0 k x0 (wrap64 (x3 + 1))) else (some false))))) else (if ((bt x0 x3) ≤ 122) then (chicaneref09_Name.l0 k x0 (wrap64 (x3 + 1))) else (if (bt x0 x3) = 95 then (chicaneref09_Name.l0 k x0 (wrap64 (x3 + 1))) else (if (bt x0 x3) = 45 then (chicaneref09_Name.l0 k x0 (wrap64 (x3 + 1))) else (some false))))) else (if (bt x0 x3) ≥ 48 then (if ((bt x0 x3) ≤ 57) then (chicaneref09_Name.l0 k x0 (wrap64 (x3 + 1))) else (if (bt x0 x3) = 95 then (chicaneref09_Name.l0 k x0 (wrap64 (x3 + 1))) else (if (bt x0 x3) = 45 then (chicaneref09_Name.l0 k x0 (wrap64 (x3 + 1))) else (some false)))) else (if (bt x0 x3) = 95 then (chicaneref09_Name.l0 k x0 (wrap64 (x3 + 1))) else (if (bt x0 x3) = 45 then (chicaneref09_Name.l0 k x0 (wrap64 (x3 + 1))) else (some false))))) else (none)) else (if (x0.size : Int) > 0 then (some (decide ((x0.size : Int) ≤ 16))) else (some false))
def chicaneref09_Name.f (k : Nat) (a0 : ByteArray) : Option (Bool) := chicaneref09_Name.l0 k a0 0
set_option maxHeartbeats 8000000 in
set_option maxRecDepth 100000 in
theorem chicaneref09_Name.calls (k : Nat) (a0 : ByteArray) (r : Bool) (w : World) (h : chicaneref09_Name.f k a0 = some r) :
  Calls Tryz.prog 87 #[.string a0] w fun e w' => e = .returned (.bool r) ∧ Drawn0 w w' := by
 have H : (chicaneref09_Name.l0 k a0 0) = some r := h
 clear h
 have H' := Aside0.mk H
 clear H
 go_enter Tryz.func87, Tryz.ntmps87
 go_wp2
 go_loopg [3] k (fun kq v3 w' => ∃ (x3_1 : Int), v3 = .int .i64 x3_1 ∧ Aside0 (chicaneref09_Name.l0 kq a0 x3_1 = some r) ∧ Aside0 (kq ≤ k) ∧ Drawn0 w w')
 case atStart => exact ⟨(0), (by first | rfl | (simp; done) | (simp [*]; done)), H', ⟨Nat.le_refl _⟩, by repeat (first | exact Drawn0.refl _ | apply Drawn0.step)⟩
 case round =>
  clear H'
  obtain ⟨x3_1, rfl, HA, HK1, ⟨m1, rfl⟩⟩ := hrel
  cases gk with
  | zero => exact absurd HA.out (by simp [chicaneref09_Name.l0])
  | succ k1 =>
   have H := HA.out
   clear HA
   simp only [chicaneref09_Name.l0] at H
   by_cases c2 : x3_1 < (a0.size : Int)
   ·rw [if_pos c2] at H
    have c2b0 : decide (x3_1 < (a0.size : Int)) = true := decide_eq_true c2
    clear c2
    by_cases c3 : 0 ≤ x3_1
    ·rw [if_pos c3] at H
     have c3b0 : decide (0 ≤ x3_1) = true := decide_eq_true c3
     clear c3
     by_cases c5 : (bt a0 x3_1) ≥ 97
     ·rw [if_pos c5] at H
      have c5b0 : decide (97 ≤ (bt a0 x3_1)) = true := decide_eq_true c5
      clear c5
      by_cases c6 : (bt a0 x3_1) ≥ 48
      ·rw [if_pos c6] at H
       have c6b0 : decide (48 ≤ (bt a0 x3_1)) = true := decide_eq_true c6
       clear c6
       by_cases c7 : ((bt a0 x3_1) ≤ 122)
       ·rw [if_pos c7] at H
        have c7b0 : decide ((bt a0 x3_1) ≤ 122) = true := decide_eq_true c7
        clear c7
        have H' := Aside0.mk H
        clear H
        have p4 : 0 ≤ (x3_1 : Int) := of_decide_eq_true (by first | (with_reducible assumption) | assumption)
        have q4 : x3_1 < (a0.size : Int) := of_decide_eq_true (by first | (with_reducible assumption) | assumption)
        have hx4 := bt_at a0 x3_1
        replace p4 := eq_true p4
        replace q4 := eq_true q4
        go_wp2
        go_roundg k1
        case measure => have := HK1.out; omega
        case rel => exact ⟨(wrap64 (x3_1 + 1)), (by first | rfl | (simp; done) | (simp [*]; done)), H', ⟨by have := HK1.out; omega⟩, by repeat (first | exact Drawn0.refl _ | apply Drawn0.step)⟩
       ·rw [if_neg c7] at H
        have c7b0 : decide ((bt a0 x3_1) ≤ 122) = false := decide_eq_false c7
        clear c7
        by_cases c8 : ((bt a0 x3_1) ≤ 57)
        ·rw [if_pos c8] at H
         have c8b0 : decide ((bt a0 x3_1) ≤ 57) = true := decide_eq_true c8
         clear c8
         have H' := Aside0.mk H
         clear H
         have p4 : 0 ≤ (x3_1 : Int) := of_decide_eq_true (by first | (with_reducible assumption) | assumption)
         have q4 : x3_1 < (a0.size : Int) := of_decide_eq_true (by first | (with_reducible assumption) | assumption)
         have hx4 := bt_at a0 x3_1
         replace p4 := eq_true p4
         replace q4 := eq_true q4
         go_wp2
         go_roundg k1
         case measure => have := HK1.out; omega
         case rel => exact ⟨(wrap64 (x3_1 + 1)), (by first | rfl | (simp; done) | (simp [*]; done)), H', ⟨by have := HK1.out; omega⟩, by repeat (first | exact Drawn0.refl _ | apply Drawn0.step)⟩
        ·rw [if_neg c8] at H
         have c8b0 : decide ((bt a0 x3_1) ≤ 57) = false := decide_eq_false c8
         clear c8
         by_cases c9 : (bt a0 x3_1) = 95
         ·rw [if_pos c9] at H
          have c9b0 : ((bt a0 x3_1) == 95) = true := beq_iff_eq.mpr c9
          have c9b1 : ((bt a0 x3_1) != 95) = false := bne_eq_false_iff_eq.mpr c9
          clear c9
          have H' := Aside0.mk H
          clear H
          have p4 : 0 ≤ (x3_1 : Int) := of_decide_eq_true (by first | (with_reducible assumption) | assumption)
          have q4 : x3_1 < (a0.size : Int) := of_decide_eq_true (by first | (with_reducible assumption) | assumption)
          have hx4 := bt_at a0 x3_1
          replace p4 := eq_true p4
          replace q4 := eq_true q4
          go_wp2
          go_roundg k1
          case measure => have := HK1.out; omega
          case rel => exact ⟨(wrap64 (x3_1 + 1)), (by first | rfl | (simp; done) | (simp [*]; done)), H', ⟨by have := HK1.out; omega⟩, by repeat (first | exact Drawn0.refl _ | apply Drawn0.step)⟩
         ·rw [if_neg c9] at H
          have c9b0 : ((bt a0 x3_1) == 95) = false := beq_eq_false_iff_ne.mpr c9
          have c9b1 : ((bt a0 x3_1) != 95) = true := bne_iff_ne.mpr c9
          by_cases c10 : (bt a0 x3_1) = 45
          ·rw [if_pos c10] at H
           have c10b0 : ((bt a0 x3_1) == 45) = true := beq_iff_eq.mpr c10
           have c10b1 : ((bt a0 x3_1) != 45) = false := bne_eq_false_iff_eq.mpr c10
           clear c10
           have H' := Aside0.mk H
           clear H
           have p4 : 0 ≤ (x3_1 : Int) := of_decide_eq_true (by first | (with_reducible assumption) | assumption)
           have q4 : x3_1 < (a0.size : Int) := of_decide_eq_true (by first | (with_reducible assumption) | assumption)
           have hx4 := bt_at a0 x3_1
           replace p4 := eq_true p4
           replace q4 := eq_true q4
           go_wp2
           go_roundg k1
           case measure => have := HK1.out; omega
           case rel => exact ⟨(wrap64 (x3_1 + 1)), (by first | rfl | (simp; done) | (simp [*]; done)), H', ⟨by have := HK1.out; omega⟩, by repeat (first | exact Drawn0.refl _ | apply Drawn0.step)⟩
          ·rw [if_neg c10] at H
           have c10b0 : ((bt a0 x3_1) == 45) = false := beq_eq_false_iff_ne.mpr c10
           have c10b1 : ((bt a0 x3_1) != 45) = true := bne_iff_ne.mpr c10
           obtain rfl := Option.some.inj H
           have p4 : 0 ≤ (x3_1 : Int) := of_decide_eq_true (by first | (with_reducible assumption) | assumption)
           have q4 : x3_1 < (a0.size : Int) := of_decide_eq_true (by first | (with_reducible assumption) | assumption)
           have hx4 := bt_at a0 x3_1
           replace p4 := eq_true p4
           replace q4 := eq_true q4
           go_wp2
           go_ret
           exact ⟨by first | rfl | (simp; done) | (simp [*]; done), by repeat (first | exact Drawn0.refl _ | apply Drawn0.step)⟩
      ·rw [if_neg c6] at H
       have c6b0 : decide (48 ≤ (bt a0 x3_1)) = false := decide_eq_false c6
       clear c6
       by_cases c11 : ((bt a0 x3_1) ≤ 122)
       ·rw [if_pos c11] at H
        have c11b0 : decide ((bt a0 x3_1) ≤ 122) = true := decide_eq_true c11
        clear c11
        have H' := Aside0.mk H
        clear H
        have p4 : 0 ≤ (x3_1 : Int) := of_decide_eq_true (by first | (with_reducible assumption) | assumption)
        have q4 : x3_1 < (a0.size : Int) := of_decide_eq_true (by first | (with_reducible assumption) | assumption)
        have hx4 := bt_at a0 x3_1
        replace p4 := eq_true p4
        replace q4 := eq_true q4
        go_wp2
        go_roundg k1
        case measure => have := HK1.out; omega
        case rel => exact ⟨(wrap64 (x3_1 + 1)), (by first | rfl | (simp; done) | (simp [*]; done)), H', ⟨by have := HK1.out; omega⟩, by repeat (first | exact Drawn0.refl _ | apply Drawn0.step)⟩
       ·rw [if_neg c11] at H
        have c11b0 : decide ((bt a0 x3_1) ≤ 122) = false := decide_eq_false c11
        clear c11
        by_cases c12 : (bt a0 x3_1) = 95
        ·rw [if_pos c12] at H
         have c12b0 : ((bt a0 x3_1) == 95) = true := beq_iff_eq.mpr c12
         have c12b1 : ((bt a0 x3_1) != 95) = false := bne_eq_false_iff_eq.mpr c12
         clear c12
         have H' := Aside0.mk H
         clear H
         have p4 : 0 ≤ (x3_1 : Int) := of_decide_eq_true (by first | (with_reducible assumption) | assumption)
         have q4 : x3_1 < (a0.size : Int) := of_decide_eq_true (by first | (with_reducible assumption) | assumption)
         have hx4 := bt_at a0 x3_1
         replace p4 := eq_true p4
         replace q4 := eq_true q4
         go_wp2
         go_roundg k1
         case measure => have := HK1.out; omega
         case rel => exact ⟨(wrap64 (x3_1 + 1)), (by first | rfl | (simp; done) | (simp [*]; done)), H', ⟨by have := HK1.out; omega⟩, by repeat (first | exact Drawn0.refl _ | apply Drawn0.step)⟩
        ·rw [if_neg c12] at H
         have c12b0 : ((bt a0 x3_1) == 95) = false := beq_eq_false_iff_ne.mpr c12
         have c12b1 : ((bt a0 x3_1) != 95) = true := bne_iff_ne.mpr c12
         by_cases c13 : (bt a0 x3_1) = 45
         ·rw [if_pos c13] at H
          have c13b0 : ((bt a0 x3_1) == 45) = true := beq_iff_eq.mpr c13
          have c13b1 : ((bt a0 x3_1) != 45) = false := bne_eq_false_iff_eq.mpr c13
          clear c13
          have H' := Aside0.mk H
          clear H
          have p4 : 0 ≤ (x3_1 : Int) := of_decide_eq_true (by first | (with_reducible assumption) | assumption)
          have q4 : x3_1 < (a0.size : Int) := of_decide_eq_true (by first | (with_reducible assumption) | assumption)
          have hx4 := bt_at a0 x3_1
          replace p4 := eq_true p4
          replace q4 := eq_true q4
          go_wp2
          go_roundg k1
          case measure => have := HK1.out; omega
          case rel => exact ⟨(wrap64 (x3_1 + 1)), (by first | rfl | (simp; done) | (simp [*]; done)), H', ⟨by have := HK1.out; omega⟩, by repeat (first | exact Drawn0.refl _ | apply Drawn0.step)⟩
         ·rw [if_neg c13] at H
          have c13b0 : ((bt a0 x3_1) == 45) = false := beq_eq_false_iff_ne.mpr c13
          have c13b1 : ((bt a0 x3_1) != 45) = true := bne_iff_ne.mpr c13
          obtain rfl := Option.some.inj H
          have p4 : 0 ≤ (x3_1 : Int) := of_decide_eq_true (by first | (with_reducible assumption) | assumption)
          have q4 : x3_1 < (a0.size : Int) := of_decide_eq_true (by first | (with_reducible assumption) | assumption)
          have hx4 := bt_at a0 x3_1
          replace p4 := eq_true p4
          replace q4 := eq_true q4
          go_wp2
          go_ret
          exact ⟨by first | rfl | (simp; done) | (simp [*]; done), by repeat (first | exact Drawn0.refl _ | apply Drawn0.step)⟩
     ·rw [if_neg c5] at H
      have c5b0 : decide (97 ≤ (bt a0 x3_1)) = false := decide_eq_false c5
      clear c5
      by_cases c14 : (bt a0 x3_1) ≥ 48
      ·rw [if_pos c14] at H
       have c14b0 : decide (48 ≤ (bt a0 x3_1)) = true := decide_eq_true c14
       clear c14
       by_cases c15 : ((bt a0 x3_1) ≤ 57)
       ·rw [if_pos c15] at H
        have c15b0 : decide ((bt a0 x3_1) ≤ 57) = true := decide_eq_true c15
        clear c15
        have H' := Aside0.mk H
        clear H
        have p4 : 0 ≤ (x3_1 : Int) := of_decide_eq_true (by first | (with_reducible assumption) | assumption)
        have q4 : x3_1 < (a0.size : Int) := of_decide_eq_true (by first | (with_reducible assumption) | assumption)
        have hx4 := bt_at a0 x3_1
        replace p4 := eq_true p4
        replace q4 := eq_true q4
        go_wp2
        go_roundg k1
        case measure => have := HK1.out; omega
        case rel => exact ⟨(wrap64 (x3_1 + 1)), (by first | rfl | (simp; done) | (simp [*]; done)), H', ⟨by have := HK1.out; omega⟩, by repeat (first | exact Drawn0.refl _ | apply Drawn0.step)⟩
       ·rw [if_neg c15] at H
        have c15b0 : decide ((bt a0 x3_1) ≤ 57) = false := decide_eq_false c15
        clear c15
        by_cases c16 : (bt a0 x3_1) = 95
        ·rw [if_pos c16] at H
         have c16b0 : ((bt a0 x3_1) == 95) = true := beq_iff_eq.mpr c16
         have c16b1 : ((bt a0 x3_1) != 95) = false := bne_eq_false_iff_eq.mpr c16
         clear c16
         have H' := Aside0.mk H
         clear H
         have p4 : 0 ≤ (x3_1 : Int) := of_decide_eq_true (by first | (with_reducible assumption) | assumption)
         have q4 : x3_1 < (a0.size : Int) := of_decide_eq_true (by first | (with_reducible assumption) | assumption)
         have hx4 := bt_at a0 x3_1
         replace p4 := eq_true p4
         replace q4 := eq_true q4
         go_wp2
         go_roundg k1
         case measure => have := HK1.out; omega
         case rel => exact ⟨(wrap64 (x3_1 + 1)), (by first | rfl | (simp; done) | (simp [*]; done)), H', ⟨by have := HK1.out; omega⟩, by repeat (first | exact Drawn0.refl _ | apply Drawn0.step)⟩
        ·rw [if_neg c16] at H
         have c16b0 : ((bt a0 x3_1) == 95) = false := beq_eq_false_iff_ne.mpr c16
         have c16b1 : ((bt a0 x3_1) != 95) = true := bne_iff_ne.mpr c16
         by_cases c17 : (bt a0 x3_1) = 45
         ·rw [if_pos c17] at H
          have c17b0 : ((bt a0 x3_1) == 45) = true := beq_iff_eq.mpr c17
          have c17b1 : ((bt a0 x3_1) != 45) = false := bne_eq_false_iff_eq.mpr c17
          clear c17
          have H' := Aside0.mk H
          clear H
          have p4 : 0 ≤ (x3_1 : Int) := of_decide_eq_true (by first | (with_reducible assumption) | assumption)
          have q4 : x3_1 < (a0.size : Int) := of_decide_eq_true (by first | (with_reducible assumption) | assumption)
          have hx4 := bt_at a0 x3_1
          replace p4 := eq_true p4
          replace q4 := eq_true q4
          go_wp2
          go_roundg k1
          case measure => have := HK1.out; omega
          case rel => exact ⟨(wrap64 (x3_1 + 1)), (by first | rfl | (simp; done) | (simp [*]; done)), H', ⟨by have := HK1.out; omega⟩, by repeat (first | exact Drawn0.refl _ | apply Drawn0.step)⟩
         ·rw [if_neg c17] at H
          have c17b0 : ((bt a0 x3_1) == 45) = false := beq_eq_false_iff_ne.mpr c17
          have c17b1 : ((bt a0 x3_1) != 45) = true := bne_iff_ne.mpr c17
          obtain rfl := Option.some.inj H
          have p4 : 0 ≤ (x3_1 : Int) := of_decide_eq_true (by first | (with_reducible assumption) | assumption)
          have q4 : x3_1 < (a0.size : Int) := of_decide_eq_true (by first | (with_reducible assumption) | assumption)
          have hx4 := bt_at a0 x3_1
          replace p4 := eq_true p4
          replace q4 := eq_true q4
          go_wp2
          go_ret
          exact ⟨by first | rfl | (simp; done) | (simp [*]; done), by repeat (first | exact Drawn0.refl _ | apply Drawn0.step)⟩
      ·rw [if_neg c14] at H
       have c14b0 : decide (48 ≤ (bt a0 x3_1)) = false := decide_eq_false c14
       clear c14
       by_cases c18 : (bt a0 x3_1) = 95
       ·rw [if_pos c18] at H
        have c18b0 : ((bt a0 x3_1) == 95) = true := beq_iff_eq.mpr c18
        have c18b1 : ((bt a0 x3_1) != 95) = false := bne_eq_false_iff_eq.mpr c18
        clear c18
        have H' := Aside0.mk H
        clear H
        have p4 : 0 ≤ (x3_1 : Int) := of_decide_eq_true (by first | (with_reducible assumption) | assumption)
        have q4 : x3_1 < (a0.size : Int) := of_decide_eq_true (by first | (with_reducible assumption) | assumption)
        have hx4 := bt_at a0 x3_1
        replace p4 := eq_true p4
        replace q4 := eq_true q4
        go_wp2
        go_roundg k1
        case measure => have := HK1.out; omega
        case rel => exact ⟨(wrap64 (x3_1 + 1)), (by first | rfl | (simp; done) | (simp [*]; done)), H', ⟨by have := HK1.out; omega⟩, by repeat (first | exact Drawn0.refl _ | apply Drawn0.step)⟩
       ·rw [if_neg c18] at H
        have c18b0 : ((bt a0 x3_1) == 95) = false := beq_eq_false_iff_ne.mpr c18
        have c18b1 : ((bt a0 x3_1) != 95) = true := bne_iff_ne.mpr c18
        by_cases c19 : (bt a0 x3_1) = 45
        ·rw [if_pos c19] at H
         have c19b0 : ((bt a0 x3_1) == 45) = true := beq_iff_eq.mpr c19
         have c19b1 : ((bt a0 x3_1) != 45) = false := bne_eq_false_iff_eq.mpr c19
         clear c19
         have H' := Aside0.mk H
         clear H
         have p4 : 0 ≤ (x3_1 : Int) := of_decide_eq_true (by first | (with_reducible assumption) | assumption)
         have q4 : x3_1 < (a0.size : Int) := of_decide_eq_true (by first | (with_reducible assumption) | assumption)
         have hx4 := bt_at a0 x3_1
         replace p4 := eq_true p4
         replace q4 := eq_true q4
         go_wp2
         go_roundg k1
         case measure => have := HK1.out; omega
         case rel => exact ⟨(wrap64 (x3_1 + 1)), (by first | rfl | (simp; done) | (simp [*]; done)), H', ⟨by have := HK1.out; omega⟩, by repeat (first | exact Drawn0.refl _ | apply Drawn0.step)⟩
        ·rw [if_neg c19] at H
         have c19b0 : ((bt a0 x3_1) == 45) = false := beq_eq_false_iff_ne.mpr c19
         have c19b1 : ((bt a0 x3_1) != 45) = true := bne_iff_ne.mpr c19
         obtain rfl := Option.some.inj H
         have p4 : 0 ≤ (x3_1 : Int) := of_decide_eq_true (by first | (with_reducible assumption) | assumption)
         have q4 : x3_1 < (a0.size : Int) := of_decide_eq_true (by first | (with_reducible assumption) | assumption)
         have hx4 := bt_at a0 x3_1
         replace p4 := eq_true p4
         replace q4 := eq_true q4
         go_wp2
         go_ret
         exact ⟨by first | rfl | (simp; done) | (simp [*]; done), by repeat (first | exact Drawn0.refl _ | apply Drawn0.step)⟩
    ·rw [if_neg c3] at H
     exact absurd H (by simp)
   ·rw [if_neg c2] at H
    have c2b0 : decide (x3_1 < (a0.size : Int)) = false := decide_eq_false c2
    clear c2
    by_cases c20 : (a0.size : Int) > 0
    ·rw [if_pos c20] at H
     have c20b0 : decide (0 < (a0.size : Int)) = true := decide_eq_true c20
     have c20b1 : decide (0 < a0.size) = true := decide_eq_true (by omega)
     clear c20
     obtain rfl := Option.some.inj H
     go_wp2
     go_ret
     exact ⟨by first | rfl | (simp; done) | (simp [*]; done), by repeat (first | exact Drawn0.refl _ | apply Drawn0.step)⟩
    ·rw [if_neg c20] at H
     have c20b0 : decide (0 < (a0.size : Int)) = false := decide_eq_false c20
     have c20b1 : decide (0 < a0.size) = false := decide_eq_false (by omega)
     clear c20
     obtain rfl := Option.some.inj H
     go_wp2
     go_ret
     exact ⟨by first | rfl | (simp; done) | (simp [*]; done), by repeat (first | exact Drawn0.refl _ | apply Drawn0.step)⟩
def chicaneref01_Top.f  : Option (Int) := some 1099511627776
set_option maxHeartbeats 8000000 in
set_option maxRecDepth 100000 in
theorem chicaneref01_Top.calls  (r : Int) (w : World) (h : chicaneref01_Top.f  = some r) :
  Calls Tryz.prog 53 #[] w fun e w' => e = .returned (.int .i64 r) ∧ Drawn0 w w' := by
 have H : (some 1099511627776) = some r := h
 clear h
 obtain rfl := Option.some.inj H
 go_enter Tryz.func53, Tryz.ntmps53
 go_wp2
 go_ret
 exact ⟨by first | rfl | (simp; done) | (simp [*]; done), by repeat (first | exact Drawn0.refl _ | apply Drawn0.step)⟩
def chicaneref01_Near.f (a0 : Int) : Option (Int) := if a0 < 0 then (some 0) else ((chicaneref01_Top.f).bind fun t101 => (if a0 > t101 then ((chicaneref01_Top.f).bind fun t102 => (some t102)) else (some a0)))
set_option maxHeartbeats 8000000 in
set_option maxRecDepth 100000 in
theorem chicaneref01_Near.calls (a0 : Int) (r : Int) (w : World) (h : chicaneref01_Near.f a0 = some r) :
  Calls Tryz.prog 43 #[.int .i64 a0] w fun e w' => e = .returned (.int .i64 r) ∧ Drawn0 w w' := by
 have H : (if a0 < 0 then (some 0) else ((chicaneref01_Top.f).bind fun t101 => (if a0 > t101 then ((chicaneref01_Top.f).bind fun t102 => (some t102)) else (some a0)))) = some r := h
 clear h
 by_cases c2 : a0 < 0
 ·rw [if_pos c2] at H
  have c2b0 : decide (a0 < 0) = true := decide_eq_true c2
  clear c2
  obtain rfl := Option.some.inj H
  go_enter Tryz.func43, Tryz.ntmps43
  go_wp2
  go_ret
  exact ⟨by first | rfl | (simp; done) | (simp [*]; done), by repeat (first | exact Drawn0.refl _ | apply Drawn0.step)⟩
 ·rw [if_neg c2] at H
  have c2b0 : decide (a0 < 0) = false := decide_eq_false c2
  clear c2
  replace H := Option.bind_eq_some_iff.mp H
  obtain ⟨t101, A30, H⟩ := H
  replace H : (if a0 > t101 then ((chicaneref01_Top.f).bind fun t102 => (some t102)) else (some a0)) = some r := H
  have A3 := Aside0.mk A30
  clear A30
  by_cases c4 : a0 > t101
  ·rw [if_pos c4] at H
   have c4b0 : decide (t101 < a0) = true := decide_eq_true c4
   clear c4
   replace H := Option.bind_eq_some_iff.mp H
   obtain ⟨t102, A50, H⟩ := H
   replace H : (some t102) = some r := H
   have A5 := Aside0.mk A50
   clear A50
   obtain rfl := Option.some.inj H
   go_enter Tryz.func43, Tryz.ntmps43
   go_wp2_with (first | ((with_reducible refine gate_callee (f := 53) rfl ?_); refine goesL_ (some 6) rfl rfl Tryz.func53 (by kernel_rfl) rfl #[] rfl (by (try simp only [List.map_toArray, List.map_cons, List.map_nil]); first | done | rfl | (simp only [List.length_drop, List.length_take]; rfl)) ?_; (with_reducible refine (chicaneref01_Top.calls  t101 _ A3.out).mono ?_); rintro e w' ⟨rfl, ⟨nd, rfl⟩⟩; refine ⟨_, rfl, ?_⟩) | ((with_reducible refine gate_callee (f := 53) rfl ?_); refine goesL_ (some 8) rfl rfl Tryz.func53 (by kernel_rfl) rfl #[] rfl (by (try simp only [List.map_toArray, List.map_cons, List.map_nil]); first | done | rfl | (simp only [List.length_drop, List.length_take]; rfl)) ?_; (with_reducible refine (chicaneref01_Top.calls  t102 _ A5.out).mono ?_); rintro e w' ⟨rfl, ⟨nd, rfl⟩⟩; refine ⟨_, rfl, ?_⟩))
   go_ret
   exact ⟨by first | rfl | (simp; done) | (simp [*]; done), by repeat (first | exact Drawn0.refl _ | apply Drawn0.step)⟩
  ·rw [if_neg c4] at H
   have c4b0 : decide (t101 < a0) = false := decide_eq_false c4
   clear c4
   obtain rfl := Option.some.inj H
   go_enter Tryz.func43, Tryz.ntmps43
   go_wp2_with (first | ((with_reducible refine gate_callee (f := 53) rfl ?_); refine goesL_ (some 6) rfl rfl Tryz.func53 (by kernel_rfl) rfl #[] rfl (by (try simp only [List.map_toArray, List.map_cons, List.map_nil]); first | done | rfl | (simp only [List.length_drop, List.length_take]; rfl)) ?_; (with_reducible refine (chicaneref01_Top.calls  t101 _ A3.out).mono ?_); rintro e w' ⟨rfl, ⟨nd, rfl⟩⟩; refine ⟨_, rfl, ?_⟩))
   go_ret
   exact ⟨by first | rfl | (simp; done) | (simp [*]; done), by repeat (first | exact Drawn0.refl _ | apply Drawn0.step)⟩
def chicaneref09_right.f (a0 : Int) : Option (Bool) := (chicaneref01_Near.f a0).bind fun t103 => (some (t103 == a0))
set_option maxHeartbeats 8000000 in
set_option maxRecDepth 100000 in
theorem chicaneref09_right.calls (a0 : Int) (r : Bool) (w : World) (h : chicaneref09_right.f a0 = some r) :
  Calls Tryz.prog 102 #[.int .i64 a0] w fun e w' => e = .returned (.bool r) ∧ Drawn0 w w' := by
 have H : ((chicaneref01_Near.f a0).bind fun t103 => (some (t103 == a0))) = some r := h
 clear h
 replace H := Option.bind_eq_some_iff.mp H
 obtain ⟨t103, A20, H⟩ := H
 replace H : (some (t103 == a0)) = some r := H
 have A2 := Aside0.mk A20
 clear A20
 obtain rfl := Option.some.inj H
 go_enter Tryz.func102, Tryz.ntmps102
 go_wp2_with (first | ((with_reducible refine gate_callee (f := 43) rfl ?_); refine goesL_ (some 4) rfl rfl Tryz.func43 (by kernel_rfl) rfl #[.int .i64 a0] rfl (by (try simp only [List.map_toArray, List.map_cons, List.map_nil]); first | done | rfl | (simp only [List.length_drop, List.length_take]; rfl)) ?_; (with_reducible refine (chicaneref01_Near.calls a0 t103 _ A2.out).mono ?_); rintro e w' ⟨rfl, ⟨nd, rfl⟩⟩; refine ⟨_, rfl, ?_⟩))
 go_ret
 exact ⟨by first | rfl | (simp; done) | (simp [*]; done), by repeat (first | exact Drawn0.refl _ | apply Drawn0.step)⟩
def chicaneref09_numbers.j0 : Nat → Bool → ByteArray → Int → Bool → Int → Int → Int → Option (Bool)
 | 0, _, _, _, _, _, _, _ => none
 | k + 1, x12, x105000, x105001, x105002, x105003, x105004, x105005 => if x12 = true then (some false) else (if x105001 = 1 then (some (decide (x105005 ≤ x105004))) else (if x105001 = 2 then (if x105005 ≥ 1 then (some (decide (x105005 ≤ 4096))) else (some false)) else (if x105001 = 3 then (if x105004 ≥ 1 then (some (decide (x105004 ≤ 4096))) else (some false)) else (if x105001 = 4 then (if x105004 > 0 then (some (x105005 == 0)) else (some false)) else (if x105001 = 5 then (if x105004 > 0 then (some (x105005 == 0)) else (some false)) else (some (x105005 == 0)))))))
def chicaneref09_numbers.f (k : Nat) (a0_0 : ByteArray) (a0_1 : Int) (a0_2 : Bool) (a0_3 : Int) (a0_4 : Int) (a0_5 : Int) : Option (Bool) := (chicaneref09_right.f a0_4).bind fun t105 => (if t105 = true then ((chicaneref09_right.f a0_5).bind fun t106 => (chicaneref09_numbers.j0 k (!t106) a0_0 a0_1 a0_2 a0_3 a0_4 a0_5)) else (chicaneref09_numbers.j0 k true a0_0 a0_1 a0_2 a0_3 a0_4 a0_5))
set_option maxHeartbeats 8000000 in
set_option maxRecDepth 100000 in
theorem chicaneref09_numbers.calls (k : Nat) (a0_0 : ByteArray) (a0_1 : Int) (a0_2 : Bool) (a0_3 : Int) (a0_4 : Int) (a0_5 : Int) (r : Bool) (w : World) (h : chicaneref09_numbers.f k a0_0 a0_1 a0_2 a0_3 a0_4 a0_5 = some r) :
  Calls Tryz.prog 88 #[.agg #[.string a0_0, .int .i64 a0_1, .bool a0_2, .int .i64 a0_3, .int .i64 a0_4, .int .i64 a0_5]] w fun e w' => e = .returned (.bool r) ∧ Below w.heap.size w w' := by
 have hu25 := Tryz.underlying25
 have HB := Aside0.mk (Below.refl w.heap.size w)
 have H : ((chicaneref09_right.f a0_4).bind fun t105 => (if t105 = true then ((chicaneref09_right.f a0_5).bind fun t106 => (chicaneref09_numbers.j0 k (!t106) a0_0 a0_1 a0_2 a0_3 a0_4 a0_5)) else (chicaneref09_numbers.j0 k true a0_0 a0_1 a0_2 a0_3 a0_4 a0_5))) = some r := h
 clear h
 have HC2 := Aside0.mk H
 clear H
 go_enter Tryz.func88, Tryz.ntmps88
 go_upto_region 1 with (first | ((with_reducible refine gate_dst (N := 1) rfl ?_); refine box_event ?hg (N := 1) ?hd (cs := #[.string a0_0, .int .i64 a0_1, .bool a0_2, .int .i64 a0_3, .int .i64 a0_4, .int .i64 a0_5]) (t := 25) ?hr ?_; (case hd => rfl); (case hg => rfl); (case hr => first | (go_simp; done) | (go_simp; rfl)); intro gb104 hg w3 hbox hb; have n0_ := Aside0.mk (below_step (by repeat (first | (with_reducible first | exact HB.out | apply below_alloc | apply pw_below_drewN | apply below_drew1) | exact HB.out)) hb); have n1_ := Aside0.mk (hbox); have n2_ := Aside0.mk ((by rw [hg]; exact (below_size (by repeat (first | (with_reducible first | exact HB.out | apply below_alloc | apply pw_below_drewN | apply below_drew1) | exact HB.out))) : w.heap.size ≤ gb104)); have n3_ := Aside0.mk ((by rw [hg]; exact (below_size (by repeat (first | (with_reducible first | exact HB.out | apply below_alloc | apply pw_below_drewN | apply below_drew1) | exact HB.out))) : w.heap.size ≤ gb104)); clear HB; have HB := n0_; have BK104 := n1_; have GW104 := n2_; have GE104 := n3_; clear n0_ n1_ n2_ n3_; clear hb hbox hg))
 (try simp only [Act.put, List.setIfInBounds_toArray, List.set_cons_zero, List.set_cons_succ])
 go_cut [12] (fun v12 wc => ∃ (kq : Nat) (x12_1 : Bool), v12 = .bool x12_1 ∧ Aside0 (chicaneref09_numbers.j0 kq x12_1 a0_0 a0_1 a0_2 a0_3 a0_4 a0_5 = some r) ∧ Aside0 (kq ≤ k) ∧ Aside0 (wc.heap[gb104]? = some (.cells #[.string a0_0, .int .i64 a0_1, .bool a0_2, .int .i64 a0_3, .int .i64 a0_4, .int .i64 a0_5] 25 (0, 0))) ∧ Aside0 (Below w.heap.size w wc))
 case first =>
  have H := HC2.out
  clear HC2
  replace H := Option.bind_eq_some_iff.mp H
  obtain ⟨t105, A40, H⟩ := H
  replace H : (if t105 = true then ((chicaneref09_right.f a0_5).bind fun t106 => (chicaneref09_numbers.j0 k (!t106) a0_0 a0_1 a0_2 a0_3 a0_4 a0_5)) else (chicaneref09_numbers.j0 k true a0_0 a0_1 a0_2 a0_3 a0_4 a0_5)) = some r := H
  have A4 := Aside0.mk A40
  clear A40
  by_cases c5 : t105 = true
  ·subst c5
   have H1 : ((chicaneref09_right.f a0_5).bind fun t106 => (chicaneref09_numbers.j0 k (!t106) a0_0 a0_1 a0_2 a0_3 a0_4 a0_5)) = some r := by rw [if_pos rfl] at H; exact H
   clear H
   have H := H1
   clear H1
   replace H := Option.bind_eq_some_iff.mp H
   obtain ⟨t106, A60, H⟩ := H
   replace H : (chicaneref09_numbers.j0 k (!t106) a0_0 a0_1 a0_2 a0_3 a0_4 a0_5) = some r := H
   have A6 := Aside0.mk A60
   clear A60
   have H' := Aside0.mk H
   clear H
   have hcz7_0 : w3.cell? ⟨gb104, 0, none⟩ = some (.string a0_0) := (blk_cell BK104.out 0).trans rfl
   have hcz7_1 : w3.cell? ⟨gb104, 1, none⟩ = some (.int .i64 a0_1) := (blk_cell BK104.out 1).trans rfl
   have hcz7_2 : w3.cell? ⟨gb104, 2, none⟩ = some (.bool a0_2) := (blk_cell BK104.out 2).trans rfl
   have hcz7_3 : w3.cell? ⟨gb104, 3, none⟩ = some (.int .i64 a0_3) := (blk_cell BK104.out 3).trans rfl
   have hcz7_4 : w3.cell? ⟨gb104, 4, none⟩ = some (.int .i64 a0_4) := (blk_cell BK104.out 4).trans rfl
   have hcz7_5 : w3.cell? ⟨gb104, 5, none⟩ = some (.int .i64 a0_5) := (blk_cell BK104.out 5).trans rfl
   have hfz7_0 := blk_frozen BK104.out 0
   have hfz7_1 := blk_frozen BK104.out 1
   have hfz7_2 := blk_frozen BK104.out 2
   have hfz7_3 := blk_frozen BK104.out 3
   have hfz7_4 := blk_frozen BK104.out 4
   have hfz7_5 := blk_frozen BK104.out 5
   go_wp2_with (first | ((with_reducible refine gate_callee (f := 102) rfl ?_); refine goesL_ (some 5) rfl rfl Tryz.func102 (by kernel_rfl) rfl #[.int .i64 a0_4] rfl (by (try simp only [List.map_toArray, List.map_cons, List.map_nil]); first | done | rfl | (simp only [List.length_drop, List.length_take]; rfl)) ?_; (with_reducible refine (chicaneref09_right.calls a0_4 true _ A4.out).mono ?_); rintro e w' ⟨rfl, ⟨nd, rfl⟩⟩; refine ⟨_, rfl, ?_⟩) | (go_at_call 102; (with_reducible refine (chicaneref09_right.calls a0_5 t106 _ A6.out).mono ?_); rintro e w' ⟨rfl, ⟨nd, rfl⟩⟩))
   go_meet
   case rel => exact ⟨_, (!t106), (by first | rfl | (simp; done) | (simp [*]; done)), H', ⟨by first | omega | exact Nat.le_refl _⟩, ⟨by (with_reducible repeat (first | refine blk_drewN ?_ _ | refine blk_drew ?_ | refine blk_alloc ?_ _)); exact BK104.out⟩, ⟨by repeat (first | (with_reducible first | exact HB.out | apply below_alloc | apply pw_below_drewN | apply below_drew1 | refine below_set ?_ GE104.out) | exact HB.out)⟩⟩
  ·replace c5 := Bool.eq_false_iff.mpr c5
   subst c5
   have H1 : (chicaneref09_numbers.j0 k true a0_0 a0_1 a0_2 a0_3 a0_4 a0_5) = some r := by rw [if_neg (show ¬ (false = true) by decide)] at H; exact H
   clear H
   have H := H1
   clear H1
   have H' := Aside0.mk H
   clear H
   have hcz8_0 : w3.cell? ⟨gb104, 0, none⟩ = some (.string a0_0) := (blk_cell BK104.out 0).trans rfl
   have hcz8_1 : w3.cell? ⟨gb104, 1, none⟩ = some (.int .i64 a0_1) := (blk_cell BK104.out 1).trans rfl
   have hcz8_2 : w3.cell? ⟨gb104, 2, none⟩ = some (.bool a0_2) := (blk_cell BK104.out 2).trans rfl
   have hcz8_3 : w3.cell? ⟨gb104, 3, none⟩ = some (.int .i64 a0_3) := (blk_cell BK104.out 3).trans rfl
   have hcz8_4 : w3.cell? ⟨gb104, 4, none⟩ = some (.int .i64 a0_4) := (blk_cell BK104.out 4).trans rfl
   have hcz8_5 : w3.cell? ⟨gb104, 5, none⟩ = some (.int .i64 a0_5) := (blk_cell BK104.out 5).trans rfl
   have hfz8_0 := blk_frozen BK104.out 0
   have hfz8_1 := blk_frozen BK104.out 1
   have hfz8_2 := blk_frozen BK104.out 2
   have hfz8_3 := blk_frozen BK104.out 3
   have hfz8_4 := blk_frozen BK104.out 4
   have hfz8_5 := blk_frozen BK104.out 5
   go_wp2_with (first | ((with_reducible refine gate_callee (f := 102) rfl ?_); refine goesL_ (some 5) rfl rfl Tryz.func102 (by kernel_rfl) rfl #[.int .i64 a0_4] rfl (by (try simp only [List.map_toArray, List.map_cons, List.map_nil]); first | done | rfl | (simp only [List.length_drop, List.length_take]; rfl)) ?_; (with_reducible refine (chicaneref09_right.calls a0_4 false _ A4.out).mono ?_); rintro e w' ⟨rfl, ⟨nd, rfl⟩⟩; refine ⟨_, rfl, ?_⟩))
   go_meet
   case rel => exact ⟨_, (true), (by first | rfl | (simp; done) | (simp [*]; done)), H', ⟨by first | omega | exact Nat.le_refl _⟩, ⟨by (with_reducible repeat (first | refine blk_drewN ?_ _ | refine blk_drew ?_ | refine blk_alloc ?_ _)); exact BK104.out⟩, ⟨by repeat (first | (with_reducible first | exact HB.out | apply below_alloc | apply pw_below_drewN | apply below_drew1 | refine below_set ?_ GE104.out) | exact HB.out)⟩⟩
 case rest =>
  clear HC2
  try clear c1
  try clear p2
  try clear c5
  try clear c8
  try clear hcz7_0
  try clear hcz7_1
  try clear hcz7_2
  try clear hcz7_3
  try clear hcz7_4
  try clear hcz7_5
  try clear hcz8_0
  try clear hcz8_1
  try clear hcz8_2
  try clear hcz8_3
  try clear hcz8_4
  try clear hcz8_5
  try clear hfz7_0
  try clear hfz7_1
  try clear hfz7_2
  try clear hfz7_3
  try clear hfz7_4
  try clear hfz7_5
  try clear hfz8_0
  try clear hfz8_1
  try clear hfz8_2
  try clear hfz8_3
  try clear hfz8_4
  try clear hfz8_5
  obtain ⟨kq, x12_1, rfl, HA, HJ1, BK104, HB⟩ := hcut
  cases kq with
  | zero => exact absurd HA.out (by simp [chicaneref09_numbers.j0])
  | succ kj1 =>
   have H := HA.out
   clear HA
   simp only [chicaneref09_numbers.j0] at H
   by_cases c9 : x12_1 = true
   ·subst c9
    have H1 : (some false) = some r := by rw [if_pos rfl] at H; exact H
    clear H
    have H := H1
    clear H1
    obtain rfl := Option.some.inj H
    go_wp2
    go_ret
    exact ⟨by first | rfl | (simp [errW_none, errW_some] <;> rfl) | (simp [*, errW_none, errW_some] <;> rfl), by repeat (first | (with_reducible first | exact HB.out | apply below_alloc | apply pw_below_drewN | apply below_drew1 | refine below_set ?_ GE104.out) | exact HB.out)⟩
   ·replace c9 := Bool.eq_false_iff.mpr c9
    subst c9
    have H1 : (if a0_1 = 1 then (some (decide (a0_5 ≤ a0_4))) else (if a0_1 = 2 then (if a0_5 ≥ 1 then (some (decide (a0_5 ≤ 4096))) else (some false)) else (if a0_1 = 3 then (if a0_4 ≥ 1 then (some (decide (a0_4 ≤ 4096))) else (some false)) else (if a0_1 = 4 then (if a0_4 > 0 then (some (a0_5 == 0)) else (some false)) else (if a0_1 = 5 then (if a0_4 > 0 then (some (a0_5 == 0)) else (some false)) else (some (a0_5 == 0))))))) = some r := by rw [if_neg (show ¬ (false = true) by decide)] at H; exact H
    clear H
    have H := H1
    clear H1
    by_cases c10 : a0_1 = 1
    ·rw [if_pos c10] at H
     have c10b0 : (a0_1 == 1) = true := beq_iff_eq.mpr c10
     have c10b1 : (a0_1 != 1) = false := bne_eq_false_iff_eq.mpr c10
     clear c10
     obtain rfl := Option.some.inj H
     have hcz11_0 : wc.cell? ⟨gb104, 0, none⟩ = some (.string a0_0) := (blk_cell BK104.out 0).trans rfl
     have hcz11_1 : wc.cell? ⟨gb104, 1, none⟩ = some (.int .i64 a0_1) := (blk_cell BK104.out 1).trans rfl
     have hcz11_2 : wc.cell? ⟨gb104, 2, none⟩ = some (.bool a0_2) := (blk_cell BK104.out 2).trans rfl
     have hcz11_3 : wc.cell? ⟨gb104, 3, none⟩ = some (.int .i64 a0_3) := (blk_cell BK104.out 3).trans rfl
     have hcz11_4 : wc.cell? ⟨gb104, 4, none⟩ = some (.int .i64 a0_4) := (blk_cell BK104.out 4).trans rfl
     have hcz11_5 : wc.cell? ⟨gb104, 5, none⟩ = some (.int .i64 a0_5) := (blk_cell BK104.out 5).trans rfl
     have hfz11_0 := blk_frozen BK104.out 0
     have hfz11_1 := blk_frozen BK104.out 1
     have hfz11_2 := blk_frozen BK104.out 2
     have hfz11_3 := blk_frozen BK104.out 3
     have hfz11_4 := blk_frozen BK104.out 4
     have hfz11_5 := blk_frozen BK104.out 5
     go_wp2
     go_ret
     exact ⟨by first | rfl | (simp [errW_none, errW_some] <;> rfl) | (simp [*, errW_none, errW_some] <;> rfl), by repeat (first | (with_reducible first | exact HB.out | apply below_alloc | apply pw_below_drewN | apply below_drew1 | refine below_set ?_ GE104.out) | exact HB.out)⟩
    ·rw [if_neg c10] at H
     have c10b0 : (a0_1 == 1) = false := beq_eq_false_iff_ne.mpr c10
     have c10b1 : (a0_1 != 1) = true := bne_iff_ne.mpr c10
     by_cases c12 : a0_1 = 2
     ·rw [if_pos c12] at H
      have c12b0 : (a0_1 == 2) = true := beq_iff_eq.mpr c12
      have c12b1 : (a0_1 != 2) = false := bne_eq_false_iff_eq.mpr c12
      clear c12
      by_cases c13 : a0_5 ≥ 1
      ·rw [if_pos c13] at H
       have c13b0 : decide (1 ≤ a0_5) = true := decide_eq_true c13
       clear c13
       obtain rfl := Option.some.inj H
       have hcz14_0 : wc.cell? ⟨gb104, 0, none⟩ = some (.string a0_0) := (blk_cell BK104.out 0).trans rfl
       have hcz14_1 : wc.cell? ⟨gb104, 1, none⟩ = some (.int .i64 a0_1) := (blk_cell BK104.out 1).trans rfl
       have hcz14_2 : wc.cell? ⟨gb104, 2, none⟩ = some (.bool a0_2) := (blk_cell BK104.out 2).trans rfl
       have hcz14_3 : wc.cell? ⟨gb104, 3, none⟩ = some (.int .i64 a0_3) := (blk_cell BK104.out 3).trans rfl
       have hcz14_4 : wc.cell? ⟨gb104, 4, none⟩ = some (.int .i64 a0_4) := (blk_cell BK104.out 4).trans rfl
       have hcz14_5 : wc.cell? ⟨gb104, 5, none⟩ = some (.int .i64 a0_5) := (blk_cell BK104.out 5).trans rfl
       have hfz14_0 := blk_frozen BK104.out 0
       have hfz14_1 := blk_frozen BK104.out 1
       have hfz14_2 := blk_frozen BK104.out 2
       have hfz14_3 := blk_frozen BK104.out 3
       have hfz14_4 := blk_frozen BK104.out 4
       have hfz14_5 := blk_frozen BK104.out 5
       go_wp2
       go_ret
       exact ⟨by first | rfl | (simp [errW_none, errW_some] <;> rfl) | (simp [*, errW_none, errW_some] <;> rfl), by repeat (first | (with_reducible first | exact HB.out | apply below_alloc | apply pw_below_drewN | apply below_drew1 | refine below_set ?_ GE104.out) | exact HB.out)⟩
      ·rw [if_neg c13] at H
       have c13b0 : decide (1 ≤ a0_5) = false := decide_eq_false c13
       clear c13
       obtain rfl := Option.some.inj H
       have hcz15_0 : wc.cell? ⟨gb104, 0, none⟩ = some (.string a0_0) := (blk_cell BK104.out 0).trans rfl
       have hcz15_1 : wc.cell? ⟨gb104, 1, none⟩ = some (.int .i64 a0_1) := (blk_cell BK104.out 1).trans rfl
       have hcz15_2 : wc.cell? ⟨gb104, 2, none⟩ = some (.bool a0_2) := (blk_cell BK104.out 2).trans rfl
       have hcz15_3 : wc.cell? ⟨gb104, 3, none⟩ = some (.int .i64 a0_3) := (blk_cell BK104.out 3).trans rfl
       have hcz15_4 : wc.cell? ⟨gb104, 4, none⟩ = some (.int .i64 a0_4) := (blk_cell BK104.out 4).trans rfl
       have hcz15_5 : wc.cell? ⟨gb104, 5, none⟩ = some (.int .i64 a0_5) := (blk_cell BK104.out 5).trans rfl
       have hfz15_0 := blk_frozen BK104.out 0
       have hfz15_1 := blk_frozen BK104.out 1
       have hfz15_2 := blk_frozen BK104.out 2
       have hfz15_3 := blk_frozen BK104.out 3
       have hfz15_4 := blk_frozen BK104.out 4
       have hfz15_5 := blk_frozen BK104.out 5
       go_wp2
       go_ret
       exact ⟨by first | rfl | (simp [errW_none, errW_some] <;> rfl) | (simp [*, errW_none, errW_some] <;> rfl), by repeat (first | (with_reducible first | exact HB.out | apply below_alloc | apply pw_below_drewN | apply below_drew1 | refine below_set ?_ GE104.out) | exact HB.out)⟩
     ·rw [if_neg c12] at H
      have c12b0 : (a0_1 == 2) = false := beq_eq_false_iff_ne.mpr c12
      have c12b1 : (a0_1 != 2) = true := bne_iff_ne.mpr c12
      by_cases c16 : a0_1 = 3
      ·rw [if_pos c16] at H
       have c16b0 : (a0_1 == 3) = true := beq_iff_eq.mpr c16
       have c16b1 : (a0_1 != 3) = false := bne_eq_false_iff_eq.mpr c16
       clear c16
       by_cases c17 : a0_4 ≥ 1
       ·rw [if_pos c17] at H
        have c17b0 : decide (1 ≤ a0_4) = true := decide_eq_true c17
        clear c17
        obtain rfl := Option.some.inj H
        have hcz18_0 : wc.cell? ⟨gb104, 0, none⟩ = some (.string a0_0) := (blk_cell BK104.out 0).trans rfl
        have hcz18_1 : wc.cell? ⟨gb104, 1, none⟩ = some (.int .i64 a0_1) := (blk_cell BK104.out 1).trans rfl
        have hcz18_2 : wc.cell? ⟨gb104, 2, none⟩ = some (.bool a0_2) := (blk_cell BK104.out 2).trans rfl
        have hcz18_3 : wc.cell? ⟨gb104, 3, none⟩ = some (.int .i64 a0_3) := (blk_cell BK104.out 3).trans rfl
        have hcz18_4 : wc.cell? ⟨gb104, 4, none⟩ = some (.int .i64 a0_4) := (blk_cell BK104.out 4).trans rfl
        have hcz18_5 : wc.cell? ⟨gb104, 5, none⟩ = some (.int .i64 a0_5) := (blk_cell BK104.out 5).trans rfl
        have hfz18_0 := blk_frozen BK104.out 0
        have hfz18_1 := blk_frozen BK104.out 1
        have hfz18_2 := blk_frozen BK104.out 2
        have hfz18_3 := blk_frozen BK104.out 3
        have hfz18_4 := blk_frozen BK104.out 4
        have hfz18_5 := blk_frozen BK104.out 5
        go_wp2
        go_ret
        exact ⟨by first | rfl | (simp [errW_none, errW_some] <;> rfl) | (simp [*, errW_none, errW_some] <;> rfl), by repeat (first | (with_reducible first | exact HB.out | apply below_alloc | apply pw_below_drewN | apply below_drew1 | refine below_set ?_ GE104.out) | exact HB.out)⟩
       ·rw [if_neg c17] at H
        have c17b0 : decide (1 ≤ a0_4) = false := decide_eq_false c17
        clear c17
        obtain rfl := Option.some.inj H
        have hcz19_0 : wc.cell? ⟨gb104, 0, none⟩ = some (.string a0_0) := (blk_cell BK104.out 0).trans rfl
        have hcz19_1 : wc.cell? ⟨gb104, 1, none⟩ = some (.int .i64 a0_1) := (blk_cell BK104.out 1).trans rfl
        have hcz19_2 : wc.cell? ⟨gb104, 2, none⟩ = some (.bool a0_2) := (blk_cell BK104.out 2).trans rfl
        have hcz19_3 : wc.cell? ⟨gb104, 3, none⟩ = some (.int .i64 a0_3) := (blk_cell BK104.out 3).trans rfl
        have hcz19_4 : wc.cell? ⟨gb104, 4, none⟩ = some (.int .i64 a0_4) := (blk_cell BK104.out 4).trans rfl
        have hcz19_5 : wc.cell? ⟨gb104, 5, none⟩ = some (.int .i64 a0_5) := (blk_cell BK104.out 5).trans rfl
        have hfz19_0 := blk_frozen BK104.out 0
        have hfz19_1 := blk_frozen BK104.out 1
        have hfz19_2 := blk_frozen BK104.out 2
        have hfz19_3 := blk_frozen BK104.out 3
        have hfz19_4 := blk_frozen BK104.out 4
        have hfz19_5 := blk_frozen BK104.out 5
        go_wp2
        go_ret
        exact ⟨by first | rfl | (simp [errW_none, errW_some] <;> rfl) | (simp [*, errW_none, errW_some] <;> rfl), by repeat (first | (with_reducible first | exact HB.out | apply below_alloc | apply pw_below_drewN | apply below_drew1 | refine below_set ?_ GE104.out) | exact HB.out)⟩
      ·rw [if_neg c16] at H
       have c16b0 : (a0_1 == 3) = false := beq_eq_false_iff_ne.mpr c16
       have c16b1 : (a0_1 != 3) = true := bne_iff_ne.mpr c16
       by_cases c20 : a0_1 = 4
       ·rw [if_pos c20] at H
        have c20b0 : (a0_1 == 4) = true := beq_iff_eq.mpr c20
        have c20b1 : (a0_1 != 4) = false := bne_eq_false_iff_eq.mpr c20
        clear c20
        by_cases c21 : a0_4 > 0
        ·rw [if_pos c21] at H
         have c21b0 : decide (0 < a0_4) = true := decide_eq_true c21
         clear c21
         obtain rfl := Option.some.inj H
         have hcz22_0 : wc.cell? ⟨gb104, 0, none⟩ = some (.string a0_0) := (blk_cell BK104.out 0).trans rfl
         have hcz22_1 : wc.cell? ⟨gb104, 1, none⟩ = some (.int .i64 a0_1) := (blk_cell BK104.out 1).trans rfl
         have hcz22_2 : wc.cell? ⟨gb104, 2, none⟩ = some (.bool a0_2) := (blk_cell BK104.out 2).trans rfl
         have hcz22_3 : wc.cell? ⟨gb104, 3, none⟩ = some (.int .i64 a0_3) := (blk_cell BK104.out 3).trans rfl
         have hcz22_4 : wc.cell? ⟨gb104, 4, none⟩ = some (.int .i64 a0_4) := (blk_cell BK104.out 4).trans rfl
         have hcz22_5 : wc.cell? ⟨gb104, 5, none⟩ = some (.int .i64 a0_5) := (blk_cell BK104.out 5).trans rfl
         have hfz22_0 := blk_frozen BK104.out 0
         have hfz22_1 := blk_frozen BK104.out 1
         have hfz22_2 := blk_frozen BK104.out 2
         have hfz22_3 := blk_frozen BK104.out 3
         have hfz22_4 := blk_frozen BK104.out 4
         have hfz22_5 := blk_frozen BK104.out 5
         go_wp2
         go_ret
         exact ⟨by first | rfl | (simp [errW_none, errW_some] <;> rfl) | (simp [*, errW_none, errW_some] <;> rfl), by repeat (first | (with_reducible first | exact HB.out | apply below_alloc | apply pw_below_drewN | apply below_drew1 | refine below_set ?_ GE104.out) | exact HB.out)⟩
        ·rw [if_neg c21] at H
         have c21b0 : decide (0 < a0_4) = false := decide_eq_false c21
         clear c21
         obtain rfl := Option.some.inj H
         have hcz23_0 : wc.cell? ⟨gb104, 0, none⟩ = some (.string a0_0) := (blk_cell BK104.out 0).trans rfl
         have hcz23_1 : wc.cell? ⟨gb104, 1, none⟩ = some (.int .i64 a0_1) := (blk_cell BK104.out 1).trans rfl
         have hcz23_2 : wc.cell? ⟨gb104, 2, none⟩ = some (.bool a0_2) := (blk_cell BK104.out 2).trans rfl
         have hcz23_3 : wc.cell? ⟨gb104, 3, none⟩ = some (.int .i64 a0_3) := (blk_cell BK104.out 3).trans rfl
         have hcz23_4 : wc.cell? ⟨gb104, 4, none⟩ = some (.int .i64 a0_4) := (blk_cell BK104.out 4).trans rfl
         have hcz23_5 : wc.cell? ⟨gb104, 5, none⟩ = some (.int .i64 a0_5) := (blk_cell BK104.out 5).trans rfl
         have hfz23_0 := blk_frozen BK104.out 0
         have hfz23_1 := blk_frozen BK104.out 1
         have hfz23_2 := blk_frozen BK104.out 2
         have hfz23_3 := blk_frozen BK104.out 3
         have hfz23_4 := blk_frozen BK104.out 4
         have hfz23_5 := blk_frozen BK104.out 5
         go_wp2
         go_ret
         exact ⟨by first | rfl | (simp [errW_none, errW_some] <;> rfl) | (simp [*, errW_none, errW_some] <;> rfl), by repeat (first | (with_reducible first | exact HB.out | apply below_alloc | apply pw_below_drewN | apply below_drew1 | refine below_set ?_ GE104.out) | exact HB.out)⟩
       ·rw [if_neg c20] at H
        have c20b0 : (a0_1 == 4) = false := beq_eq_false_iff_ne.mpr c20
        have c20b1 : (a0_1 != 4) = true := bne_iff_ne.mpr c20
        by_cases c24 : a0_1 = 5
        ·rw [if_pos c24] at H
         have c24b0 : (a0_1 == 5) = true := beq_iff_eq.mpr c24
         have c24b1 : (a0_1 != 5) = false := bne_eq_false_iff_eq.mpr c24
         clear c24
         by_cases c25 : a0_4 > 0
         ·rw [if_pos c25] at H
          have c25b0 : decide (0 < a0_4) = true := decide_eq_true c25
          clear c25
          obtain rfl := Option.some.inj H
          have hcz26_0 : wc.cell? ⟨gb104, 0, none⟩ = some (.string a0_0) := (blk_cell BK104.out 0).trans rfl
          have hcz26_1 : wc.cell? ⟨gb104, 1, none⟩ = some (.int .i64 a0_1) := (blk_cell BK104.out 1).trans rfl
          have hcz26_2 : wc.cell? ⟨gb104, 2, none⟩ = some (.bool a0_2) := (blk_cell BK104.out 2).trans rfl
          have hcz26_3 : wc.cell? ⟨gb104, 3, none⟩ = some (.int .i64 a0_3) := (blk_cell BK104.out 3).trans rfl
          have hcz26_4 : wc.cell? ⟨gb104, 4, none⟩ = some (.int .i64 a0_4) := (blk_cell BK104.out 4).trans rfl
          have hcz26_5 : wc.cell? ⟨gb104, 5, none⟩ = some (.int .i64 a0_5) := (blk_cell BK104.out 5).trans rfl
          have hfz26_0 := blk_frozen BK104.out 0
          have hfz26_1 := blk_frozen BK104.out 1
          have hfz26_2 := blk_frozen BK104.out 2
          have hfz26_3 := blk_frozen BK104.out 3
          have hfz26_4 := blk_frozen BK104.out 4
          have hfz26_5 := blk_frozen BK104.out 5
          go_wp2
          go_ret
          exact ⟨by first | rfl | (simp [errW_none, errW_some] <;> rfl) | (simp [*, errW_none, errW_some] <;> rfl), by repeat (first | (with_reducible first | exact HB.out | apply below_alloc | apply pw_below_drewN | apply below_drew1 | refine below_set ?_ GE104.out) | exact HB.out)⟩
         ·rw [if_neg c25] at H
          have c25b0 : decide (0 < a0_4) = false := decide_eq_false c25
          clear c25
          obtain rfl := Option.some.inj H
          have hcz27_0 : wc.cell? ⟨gb104, 0, none⟩ = some (.string a0_0) := (blk_cell BK104.out 0).trans rfl
          have hcz27_1 : wc.cell? ⟨gb104, 1, none⟩ = some (.int .i64 a0_1) := (blk_cell BK104.out 1).trans rfl
          have hcz27_2 : wc.cell? ⟨gb104, 2, none⟩ = some (.bool a0_2) := (blk_cell BK104.out 2).trans rfl
          have hcz27_3 : wc.cell? ⟨gb104, 3, none⟩ = some (.int .i64 a0_3) := (blk_cell BK104.out 3).trans rfl
          have hcz27_4 : wc.cell? ⟨gb104, 4, none⟩ = some (.int .i64 a0_4) := (blk_cell BK104.out 4).trans rfl
          have hcz27_5 : wc.cell? ⟨gb104, 5, none⟩ = some (.int .i64 a0_5) := (blk_cell BK104.out 5).trans rfl
          have hfz27_0 := blk_frozen BK104.out 0
          have hfz27_1 := blk_frozen BK104.out 1
          have hfz27_2 := blk_frozen BK104.out 2
          have hfz27_3 := blk_frozen BK104.out 3
          have hfz27_4 := blk_frozen BK104.out 4
          have hfz27_5 := blk_frozen BK104.out 5
          go_wp2
          go_ret
          exact ⟨by first | rfl | (simp [errW_none, errW_some] <;> rfl) | (simp [*, errW_none, errW_some] <;> rfl), by repeat (first | (with_reducible first | exact HB.out | apply below_alloc | apply pw_below_drewN | apply below_drew1 | refine below_set ?_ GE104.out) | exact HB.out)⟩
        ·rw [if_neg c24] at H
         have c24b0 : (a0_1 == 5) = false := beq_eq_false_iff_ne.mpr c24
         have c24b1 : (a0_1 != 5) = true := bne_iff_ne.mpr c24
         obtain rfl := Option.some.inj H
         have hcz28_0 : wc.cell? ⟨gb104, 0, none⟩ = some (.string a0_0) := (blk_cell BK104.out 0).trans rfl
         have hcz28_1 : wc.cell? ⟨gb104, 1, none⟩ = some (.int .i64 a0_1) := (blk_cell BK104.out 1).trans rfl
         have hcz28_2 : wc.cell? ⟨gb104, 2, none⟩ = some (.bool a0_2) := (blk_cell BK104.out 2).trans rfl
         have hcz28_3 : wc.cell? ⟨gb104, 3, none⟩ = some (.int .i64 a0_3) := (blk_cell BK104.out 3).trans rfl
         have hcz28_4 : wc.cell? ⟨gb104, 4, none⟩ = some (.int .i64 a0_4) := (blk_cell BK104.out 4).trans rfl
         have hcz28_5 : wc.cell? ⟨gb104, 5, none⟩ = some (.int .i64 a0_5) := (blk_cell BK104.out 5).trans rfl
         have hfz28_0 := blk_frozen BK104.out 0
         have hfz28_1 := blk_frozen BK104.out 1
         have hfz28_2 := blk_frozen BK104.out 2
         have hfz28_3 := blk_frozen BK104.out 3
         have hfz28_4 := blk_frozen BK104.out 4
         have hfz28_5 := blk_frozen BK104.out 5
         go_wp2
         go_ret
         exact ⟨by first | rfl | (simp [errW_none, errW_some] <;> rfl) | (simp [*, errW_none, errW_some] <;> rfl), by repeat (first | (with_reducible first | exact HB.out | apply below_alloc | apply pw_below_drewN | apply below_drew1 | refine below_set ?_ GE104.out) | exact HB.out)⟩
end Go.Proofs.YtlglbpjccpdloaaGreatDoor.PToxR
