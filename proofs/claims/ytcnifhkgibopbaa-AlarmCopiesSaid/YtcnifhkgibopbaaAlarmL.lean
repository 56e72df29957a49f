/- The walk of does. -/
import Derived.Test.YtcnifhkgibopbaaAlarmK
set_option linter.unusedVariables false
set_option linter.unusedSimpArgs false
namespace Go.Proofs.Ytcnifhkgibopbaa
open Go.RowKit Go.MapKept Go.ChangeMaps

/-- What is known of the alarms all the while. -/
structure St (L : List D2) (last : Int) (n : Nat) : Prop where
  heap : Heap L
  ids : ∀ d ∈ L, 1 ≤ d.2 ∧ d.2 ≤ last
  ticks : ∀ d ∈ L, 0 ≤ d.1 ∧ d.1 ≤ 1099511627776
  len : L.length ≤ n
  last0 : 0 ≤ last
  last1 : last ≤ n
theorem St.nil : St [] 0 0 := ⟨heap_nil, by simp, by simp, by simp, by omega, by omega⟩
theorem St.more {L : List D2} {last : Int} {n m : Nat} (h : St L last n) (hm : n ≤ m) : St L last m := ⟨h.heap, h.ids, h.ticks, by have := h.len; omega, h.last0, by have := h.last1; omega⟩
theorem St.sub {L L' : List D2} {last : Int} {n : Nat} (h : St L last n) (hh : Heap L') (hs : ∀ d ∈ L', d ∈ L) (hl : L'.length ≤ L.length) : St L' last n :=
  ⟨hh, fun d hd => h.ids d (hs d hd), fun d hd => h.ticks d (hs d hd), by have := h.len; omega, h.last0, h.last1⟩
theorem St.set {L : List D2} {last : Int} {n : Nat} (h : St L last n) {x : Int} (hx : (decide (0 ≤ x) && decide (x ≤ 1099511627776)) = true) : St (setL L x (last + 1)) (last + 1) (n + 1) := by
  simp only [Bool.and_eq_true, decide_eq_true_eq] at hx
  have hp := set_perm' L x (last + 1)
  refine ⟨set_heap h.heap _ _, fun d hd => ?_, fun d hd => ?_, by rw [hp.length_eq]; simp; exact h.len, by have := h.last0; omega, by have := h.last1; omega⟩
  · rcases List.mem_append.1 (hp.mem_iff.1 hd) with hd | hd
    · have := h.ids d hd; omega
    · simp at hd; subst hd; have := h.last0; simp; omega
  · rcases List.mem_append.1 (hp.mem_iff.1 hd) with hd | hd
    · exact h.ticks d hd
    · simp at hd; subst hd; exact hx
theorem St.drop {L : List D2} {last : Int} {n : Nat} (h : St L last n) {k : Nat} (hk : k < L.length) : St (dropL L k) last n :=
  h.sub (drop_heap h.heap hk) (fun d hd => (drop_perm hk).mem_iff.1 (List.mem_cons_of_mem _ hd)) (by rw [dropL_length hk]; omega)
theorem St.take {L : List D2} {last : Int} {n : Nat} (h : St L last n) (now : Int) : St (takeL L.length now L).2 last n := by
  have hs := take_spec L.length now L (Nat.le_refl _) h.heap
  exact h.sub hs.2.2.2.2 (fun d hd => hs.1.mem_iff.1 (List.mem_append_right _ hd)) (by have := hs.1.length_eq; simp at this; omega)

theorem fn_set {L : List D2} {k : Nat} {d : D2} (hk : k < L.length) (i : Nat) : fn (L.set k d) i = if i = k then d else fn L i := by
  unfold fn
  rw [List.getD_eq_getElem?_getD, List.getElem?_set]
  by_cases h : k = i
  · rw [if_pos h, if_pos hk, if_pos h.symm]; rfl
  · have h' : ¬ i = k := fun e => h e.symm
    rw [if_neg h, if_neg h', List.getD_eq_getElem?_getD]
theorem move_perm {L : List D2} {k : Nat} (hk : k < L.length) (at_ : Int) (hj : ∃ j, findL (riseL k (L.set k (at_, (fn L k).2)) k) (fn L k).2 = some j) : (moveL L k at_).Perm (L.set k (at_, (fn L k).2)) := by
  obtain ⟨j, hj⟩ := hj
  unfold moveL
  dsimp only
  rw [hj]
  obtain ⟨d, hd, _⟩ := findL_some hj
  exact (sink_perm _ _ _ (List.getElem?_eq_some_iff.1 hd).1).trans (rise_perm _ _ _ (by simpa using hk))
/-- A heap again, if each number stands once. -/
theorem move_heap {L : List D2} (h : Heap L) {k : Nat} (hk : k < L.length) (at_ : Int) (hu : ∀ (i j : Nat) (d d' : D2), L[i]? = some d → L[j]? = some d' → d.2 = d'.2 → i = j) : Heap (moveL L k at_) := by
  obtain ⟨L1, hL1⟩ : ∃ L1, L1 = L.set k (at_, (fn L k).2) := ⟨_, rfl⟩
  have hl : L1.length = L.length := by rw [hL1]; simp
  have hB : HB (fn L1) L1.length k := by
    refine ⟨fun i i0 hi hne hnp => ?_, fun k0 c hc c0 hpc => ?_⟩
    · rw [hL1, fn_set hk, fn_set hk, if_neg hne, if_neg hnp]
      exact h i i0 (by omega)
    · rw [hL1, fn_set hk, fn_set hk, if_neg (by omega), if_neg (by omega)]
      have h1 := h k k0 hk
      have h2 := h c c0 (by omega)
      rw [hpc] at h2
      exact le_trans' h1 h2
  have hk1 : k < L1.length := by omega
  have hfn : fn L k = L[k] := getD_lt hk
  unfold moveL
  dsimp only
  rw [← hL1]
  by_cases hc : 0 < k ∧ lt (fn L1 k) (fn L1 ((k - 1) / 2))
  · have hx : HX (fn L1) L1.length k := by
      refine ⟨fun i i0 hi hne => ?_, hB.2⟩
      by_cases h1 : (i - 1) / 2 = k
      · rw [h1]
        exact le_trans' (lt_le hc.2) (hB.2 hc.1 i hi i0 h1)
      · exact hB.1 i i0 hi hne h1
    have hh := rise_heap k L1 k (Nat.le_refl _) hk1 hx
    rw [sink_id _ _ _ ?_ hh]
    · exact hh
    · cases hf : findL (riseL k L1 k) (fn L k).2 with
      | none => rw [riseL_length]; simp; omega
      | some j =>
        obtain ⟨d, hd, _⟩ := findL_some hf
        exact (List.getElem?_eq_some_iff.1 hd).1
  · have hr : riseL k L1 k = L1 := by
      cases hkk : k with
      | zero => rfl
      | succ f =>
        unfold riseL
        rw [if_neg]
        simp only [Bool.and_eq_true, decide_eq_true_eq, ahead_true]
        rw [← hkk]
        exact hc
    have hf : findL L1 (fn L k).2 = some k := by
      unfold findL
      rw [List.findIdx?_eq_some_iff_getElem]
      refine ⟨hk1, by subst hL1; simp, fun j hj => ?_⟩
      have hjl : j < L.length := by omega
      simp only [hL1, List.getElem_set, Bool.not_eq_true, beq_eq_false_iff_ne, ne_eq]
      rw [if_neg (by omega)]
      intro e
      have e : L[j].2 = L[k].2 := e.trans (congrArg Prod.snd hfn)
      have := hu j k _ _ (List.getElem?_eq_getElem hjl) (List.getElem?_eq_getElem hk) e
      omega
    rw [hr, hf]
    simp only [Option.getD_some]
    refine sink_heap _ L1 k (by omega) hk1 ⟨fun i i0 hi hnp => ?_, hB.2⟩
    by_cases h1 : i = k
    · rw [h1]
      rw [h1] at i0
      exact le_of_not fun hl => hc ⟨i0, hl⟩
    · exact hB.1 i i0 hi h1 hnp
theorem Idx.rise_find {L : List D2} {m : List (Int × Nat)} (h : Idx L m) {k : Nat} (hk : k < L.length) (at_ : Int) : ∃ j, findL (riseL k (L.set k (at_, (fn L k).2)) k) (fn L k).2 = some j := by
  have hfn : fn L k = L[k] := getD_lt hk
  have hmv := h.moved hk at_
  have := (hmv.get L[k].2 k).2 ⟨(at_, L[k].2), by rw [List.getElem?_set, if_pos rfl, if_pos hk], rfl⟩
  rw [hmv.find, ← hfn] at this
  exact find_perm (rise_perm _ _ _ (by simpa using hk)) this
theorem St.move {L : List D2} {last : Int} {n : Nat} (h : St L last n) {m : List (Int × Nat)} (hx : Idx L m) {k : Nat} (hk : k < L.length) {x : Int} (hr : (decide (0 ≤ x) && decide (x ≤ 1099511627776)) = true) : St (moveL L k x) last n := by
  simp only [Bool.and_eq_true, decide_eq_true_eq] at hr
  have hp := move_perm hk x (hx.rise_find hk x)
  have hfn : fn L k = L[k] := getD_lt hk
  have hmem : ∀ d ∈ moveL L k x, d ∈ L ∨ d = (x, L[k].2) := fun d hd => by
    have := List.mem_or_eq_of_mem_set (hp.mem_iff.1 hd)
    rw [hfn] at this
    exact this
  refine ⟨move_heap h.heap hk x fun i j d d' h1 h2 h3 => hx.uniq h1 h2 h3, fun d hd => ?_, fun d hd => ?_, by rw [hp.length_eq]; simp; exact h.len, h.last0, h.last1⟩
  · rcases hmem d hd with h1 | rfl
    · exact h.ids d h1
    · have := h.ids _ (List.getElem_mem hk); exact this
  · rcases hmem d hd with h1 | rfl
    · exact h.ticks d h1
    · exact hr

/-- An answer: alarms, last number; then N, Is, E, and what was taken. -/
structure Ans where
  L : List D2
  last : Int
  N : Int
  is : Bool
  e : Int
  out : List D2
def doL (L : List D2) (last kind at_ id : Int) : Ans :=
  if kind = 0 then (if (decide (0 ≤ at_) && decide (at_ ≤ 1099511627776)) then ⟨setL L at_ (last + 1), last + 1, last + 1, false, 0, []⟩ else ⟨L, last, 0, false, 1, []⟩)
  else if kind = 1 then (match findL L id with | some k => ⟨dropL L k, last, 0, true, 0, []⟩ | none => ⟨L, last, 0, false, 0, []⟩)
  else if kind = 2 then (match findL L id with | some k => if (decide (0 ≤ at_) && decide (at_ ≤ 1099511627776)) then ⟨moveL L k at_, last, 0, true, 0, []⟩ else ⟨L, last, 0, false, 0, []⟩ | none => ⟨L, last, 0, false, 0, []⟩)
  else if kind = 3 then (match findL L id with | some k => ⟨L, last, (fn L k).1, true, 0, []⟩ | none => ⟨L, last, 0, false, 0, []⟩)
  else if kind = 4 then ⟨(takeL L.length at_ L).2, last, 0, false, 0, (takeL L.length at_ L).1⟩
  else ⟨L, last, 0, false, 0, []⟩

theorem heap_three (w : World) (a b c : Obj) : (((w.alloc a).alloc b).alloc c).heap[w.heap.size]? = some a ∧ (((w.alloc a).alloc b).alloc c).heap[w.heap.size + 1]? = some b ∧ (((w.alloc a).alloc b).alloc c).heap[w.heap.size + 2]? = some c :=
  ⟨heap_alloc_lt _ _ (heap_two w a b).1, heap_alloc_lt _ _ (heap_two w a b).2, by have := (MapKept.heap_alloc ((w.alloc a).alloc b) c).1; simpa using this⟩
theorem results_cell {P : Program} {fn : Func} {tmps : Array Value} {W : World} {p : Tmp} {ty : TypeId} {g : Nat} {t : TypeId} {cs : Array Value} {fr : Nat × Nat} {d : TypeDesc} (h : fn.results = #[.cell p ty]) (hp : tmps.getD p undef = .pointer (some ⟨g, 0, none⟩))
    (hg : W.heap[g]? = some (.cells cs t fr)) (hu : P.underlying ty = some d) (hd : (match d with | .struct _ | .array _ _ => true | _ => false) = true) (hi : (P.info? ty).map (·.size) = some cs.size) : (results fn tmps).run P W = .ok (.agg cs) W := by
  unfold results
  rw [h, show (#[ResultVar.cell p ty]) = [ResultVar.cell p ty].toArray from rfl, List.mapM_toArray]
  have hp' : tmps[p]?.getD undef = .pointer (some ⟨g, 0, none⟩) := by simpa using hp
  simp [List.mapM_cons, hp', asAddr, run_loadVar_row W g t ty cs fr d hg hu hd hi]
theorem ans_block {w : World} {B : Nat} {a b c d x y z u : Value} {t : TypeId} (h : w.heap[B]? = some (.cells #[a, b, c, d] t (0, 0))) :
    ((((w.setCell ⟨B, 0, none⟩ x).setCell ⟨B, 1, none⟩ y).setCell ⟨B, 2, none⟩ z).setCell ⟨B, 3, none⟩ u).heap[B]? = some (.cells #[x, y, z, u] t (0, 0)) := by
  have := heap_set_eq (i := 3) _ u (heap_set_eq (i := 2) _ z (heap_set_eq (i := 1) _ y (heap_set_eq (i := 0) w x h)))
  simpa using this
theorem ans_only {w : World} {S : Nat → Prop} {B : Nat} {x y z u : Value} (hB : S B) :
    Only S w ((((w.setCell ⟨B, 0, none⟩ x).setCell ⟨B, 1, none⟩ y).setCell ⟨B, 2, none⟩ z).setCell ⟨B, 3, none⟩ u) :=
  ((((Only.refl S w).setCell (p := ⟨B, 0, none⟩) (.inl hB) _).setCell (p := ⟨B, 1, none⟩) (.inl hB) _).setCell (p := ⟨B, 2, none⟩) (.inl hB) _).setCell (p := ⟨B, 3, none⟩) (.inl hB) _

/-- What does tells. -/
def DoesPost (pa : Nat) (S : Nat → Prop) (w : World) (A : Ans) (e : Ending) (w' : World) : Prop :=
  ∃ v S', e = .returned (.agg #[.int .i64 A.N, .bool A.is, .int .i64 A.e, v]) ∧ w'.ownsRow 0 53 2 v A.out.length (flat due A.out) ∧ (∀ g, v.ownBlock = some g → w.heap.size ≤ g ∧ ¬ S' g) ∧
    Alm w' pa A.L A.last S' ∧ (∀ k, S' k → S k ∨ w.heap.size ≤ k) ∧ Only S w w'

/-- The three boxes at the begin of does. -/
def boxes (w : World) (kind at_ id : Int) : World := ((w.alloc (.cells #[.int .i64 kind, .int .i64 at_, .int .i64 id] 38)).alloc (.cells #[.int .i64 0, .bool false, .int .i64 0, .slice none 0 0] 41)).alloc (.cells #[.int .i64 0, .bool false, .int .i64 0, .slice none 0 0] 41)
theorem boxes_below (w : World) (kind at_ id : Int) : Below w.heap.size w (boxes w kind at_ id) := (((Below.refl _ w).alloc (Nat.le_refl _) _).alloc (by simp) _).alloc (by simp; omega) _
theorem boxes_size (w : World) (kind at_ id : Int) : (boxes w kind at_ id).heap.size = w.heap.size + 3 := by simp [boxes]
theorem boxes_at (w : World) (kind at_ id : Int) : (boxes w kind at_ id).heap[w.heap.size]? = some (.cells #[.int .i64 kind, .int .i64 at_, .int .i64 id] 38 (0, 0)) ∧
    (boxes w kind at_ id).heap[w.heap.size + 1]? = some (.cells #[.int .i64 0, .bool false, .int .i64 0, .slice none 0 0] 41 (0, 0)) ∧ (boxes w kind at_ id).heap[w.heap.size + 1 + 1]? = some (.cells #[.int .i64 0, .bool false, .int .i64 0, .slice none 0 0] 41 (0, 0)) := heap_three w _ _ _
/-- What is known behind the call. -/
structure Behind (pa : Nat) (S : Nat → Prop) (w : World) (L : List D2) (last : Int) (S2 : Nat → Prop) (w2 : World) : Prop where
  b1 : w2.heap[w.heap.size + 1]? = some (.cells #[.int .i64 0, .bool false, .int .i64 0, .slice none 0 0] 41 (0, 0))
  b2 : w2.heap[w.heap.size + 1 + 1]? = some (.cells #[.int .i64 0, .bool false, .int .i64 0, .slice none 0 0] 41 (0, 0))
  alm : Alm w2 pa L last S2
  sub : ∀ k, S2 k → S k ∨ w.heap.size + 3 ≤ k
  only : Only S w w2
  low : ∀ k, S k → k < w.heap.size
theorem Behind.mk' {pa : Nat} {S S2 : Nat → Prop} {w w2 : World} {L : List D2} {last kind at_ id : Int} (ha : Alm w2 pa L last S2) (hs : ∀ k, S2 k → S k ∨ (boxes w kind at_ id).heap.size ≤ k) (ho : Only S (boxes w kind at_ id) w2) (hl : ∀ k, S k → k < w.heap.size) : Behind pa S w L last S2 w2 :=
  ⟨ho.obj (boxes_at w kind at_ id).2.1 fun hk => by have := hl _ hk; omega, ho.obj (boxes_at w kind at_ id).2.2 fun hk => by have := hl _ hk; omega, ha, fun k hk => by have := hs k hk; rw [boxes_size] at this; exact this,
    (Only.of_below (boxes_below w kind at_ id)).then_ ho, hl⟩
/-- The end of does: the answer lies in its box. -/
theorem Behind.done {pa : Nat} {S S2 : Nat → Prop} {w w2 W : World} {L : List D2} {last : Int} (h : Behind pa S w L last S2 w2) (hW : Only (fun k => k = w.heap.size + 1 ∨ k = w.heap.size + 1 + 1) w2 W) {fnc : Func} (hfn : fnc = Try.f15) {a : Act} (had : a.defers = []) (hslot : a.tmps.getD 4 undef = .pointer (some ⟨w.heap.size + 1, 0, none⟩))
    (N : Int) (is : Bool) (e : Int) (v : Value) (hb : W.heap[w.heap.size + 1]? = some (.cells #[.int .i64 N, .bool is, .int .i64 e, v] 41 (0, 0)))
    (A : Ans) (hA : A.L = L ∧ A.last = last ∧ A.N = N ∧ A.is = is ∧ A.e = e) (hv : w2.ownsRow 0 53 2 v A.out.length (flat due A.out)) (hvs : ∀ g, v.ownBlock = some g → w.heap.size + 3 ≤ g ∧ ¬ S2 g) :
    bodyPost Try.prog fnc (DoesPost pa S w A) .ret a W := by
  subst hfn
  obtain ⟨h1, h2, h3, h4, h5⟩ := hA
  have hS2 : ∀ k, S2 k → ¬ (k = w.heap.size + 1 ∨ k = w.heap.size + 1 + 1) := fun k hk hkk => by
    rcases h.sub k hk with hs | hs
    · have := h.low k hs; omega
    · omega
  refine bodyPost_ret (v := .agg #[.int .i64 N, .bool is, .int .i64 e, v]) (results_cell rfl hslot hb Try.underlying41 rfl (by kernel_rfl)) had ?_
  refine ⟨v, S2, by rw [h3, h4, h5], hW.own hv fun g hg hk => by have := (hvs g hg).1; omega, fun g hg => ⟨by have := (hvs g hg).1; omega, (hvs g hg).2⟩, by rw [h1, h2]; exact h.alm.other hW hS2, fun k hk => ?_, h.only.trans hW fun i hi hk => by omega⟩
  rcases h.sub k hk with hs | hs
  · exact .inl hs
  · exact .inr (by omega)
set_option maxRecDepth 100000 in
set_option maxHeartbeats 400000 in
theorem does_set (pa : Nat) (at_ id : Int) (L : List D2) (last : Int) (S : Nat → Prop) (n : Nat) (w : World) (h : Alm w pa L last S) (hs : St L last n) (hn : n ≤ 1000) (hid : iok id) :
    Calls Try.prog 15 #[.pointer (some ⟨pa, 0, none⟩), .agg #[.int .i64 0, .int .i64 at_, .int .i64 id]] w (DoesPost pa S w (doL L last 0 at_ id)) := by
  have HH := Lib.hid (h.below (boxes_below w 0 at_ id))
  have hlow : ∀ k, S k → k < w.heap.size := by obtain ⟨_, _, _, hw, _⟩ := h; exact hw.low
  have HLOW := Lib.hid hlow
  have HST := Lib.hid hs
  clear h hlow hs
  cases hr : (decide (0 ≤ at_) && decide (at_ ≤ 1099511627776)) with
  | true =>
    have HA : Hid (doL L last 0 at_ id = ⟨setL L at_ (last + 1), last + 1, last + 1, false, 0, []⟩) := Lib.hid (by unfold doL; rw [if_pos rfl, hr]; rfl)
    have HR := Lib.hid hr
    clear hr
    go_enter Try.func15, Try.ntmps15
    go_wp2_with fail
    refine (set_yes pa at_ L last S _ HH.out HR.out (by have := HST.out.len; omega) HST.out.last0 (by have := HST.out.last1; omega) (fun d hd => (HST.out.ids d hd).2)).mono ?_
    rintro e w2 ⟨rfl, S2, h2, hs2, ho2⟩
    have hbe := Behind.mk' h2 hs2 ho2 HLOW.out
    have c1 := cell_of_cells hbe.b1
    have c2 := cell_of_cells hbe.b2
    have c10 := c1 0
    have c11 := c1 1
    have c12 := c1 2
    have c13 := c1 3
    have c20 := c2 0
    have c21 := c2 1
    have c22 := c2 2
    have c23 := c2 3
    have f1 := free_of_cells hbe.b1
    have f2 := free_of_cells hbe.b2
    simp only [List.getElem?_toArray, List.getElem?_cons_zero, List.getElem?_cons_succ] at c10 c11 c12 c13 c20 c21 c22 c23
    have HBE := Lib.hid hbe
    clear h2 hs2 ho2 c1 c2 hbe
    go_wp2_with fail
    refine HBE.out.done (((Only.refl (fun k => k = w.heap.size + 1 ∨ k = w.heap.size + 1 + 1) w2).setCell (p := ⟨w.heap.size + 1 + 1, 0, none⟩) (.inl (.inr rfl)) _).setCell (p := ⟨w.heap.size + 1 + 1, 2, none⟩) (.inl (.inr rfl)) _ |>.then_ (ans_only (.inl rfl))) rfl rfl rfl (last + 1) false 0 (.slice none 0 0)
      (ans_block (heap_set_ne _ _ _ (heap_set_ne _ _ _ HBE.out.b1 (by simp)) (by simp))) _ (by rw [HA.out]; exact ⟨rfl, rfl, rfl, rfl, rfl⟩) (by rw [HA.out]; exact World.ownsRow_nil _ _ _ _) (fun g hg => by simp [Value.ownBlock] at hg)
  | false =>
    have HA : Hid (doL L last 0 at_ id = ⟨L, last, 0, false, 1, []⟩) := Lib.hid (by unfold doL; rw [if_pos rfl, hr]; rfl)
    have HR := Lib.hid hr
    clear hr
    go_enter Try.func15, Try.ntmps15
    go_wp2_with fail
    refine (set_arg pa at_ _ HR.out).mono ?_
    rintro e w2 ⟨rfl, hw2⟩
    have hbe : Behind pa S w L last S w2 := hw2 ▸ Behind.mk' (kind := 0) (at_ := at_) (id := id) HH.out (fun k hk => .inl hk) (Only.refl _ _) HLOW.out
    have c1 := cell_of_cells hbe.b1
    have c2 := cell_of_cells hbe.b2
    have c10 := c1 0
    have c11 := c1 1
    have c12 := c1 2
    have c13 := c1 3
    have c20 := c2 0
    have c21 := c2 1
    have c22 := c2 2
    have c23 := c2 3
    have f1 := free_of_cells hbe.b1
    have f2 := free_of_cells hbe.b2
    simp only [List.getElem?_toArray, List.getElem?_cons_zero, List.getElem?_cons_succ] at c10 c11 c12 c13 c20 c21 c22 c23
    have HBE := Lib.hid hbe
    clear c1 c2 hbe
    clear hw2
    go_wp2_with fail
    refine HBE.out.done (((Only.refl (fun k => k = w.heap.size + 1 ∨ k = w.heap.size + 1 + 1) w2).setCell (p := ⟨w.heap.size + 1 + 1, 0, none⟩) (.inl (.inr rfl)) _).setCell (p := ⟨w.heap.size + 1 + 1, 2, none⟩) (.inl (.inr rfl)) _ |>.then_ (ans_only (.inl rfl))) rfl rfl rfl 0 false 1 (.slice none 0 0)
      (ans_block (heap_set_ne _ _ _ (heap_set_ne _ _ _ HBE.out.b1 (by simp)) (by simp))) _ (by rw [HA.out]; exact ⟨rfl, rfl, rfl, rfl, rfl⟩) (by rw [HA.out]; exact World.ownsRow_nil _ _ _ _) (fun g hg => by simp [Value.ownBlock] at hg)

set_option maxRecDepth 100000 in
set_option maxHeartbeats 400000 in
theorem does_cancel (pa : Nat) (at_ id : Int) (L : List D2) (last : Int) (S : Nat → Prop) (n : Nat) (w : World) (h : Alm w pa L last S) (hs : St L last n) (hn : n ≤ 1000) (hid : iok id) :
    Calls Try.prog 15 #[.pointer (some ⟨pa, 0, none⟩), .agg #[.int .i64 1, .int .i64 at_, .int .i64 id]] w (DoesPost pa S w (doL L last 1 at_ id)) := by
  have HH := Lib.hid (h.below (boxes_below w 1 at_ id))
  have hlow : ∀ k, S k → k < w.heap.size := by obtain ⟨_, _, _, hw, _⟩ := h; exact hw.low
  have HLOW := Lib.hid hlow
  have HST := Lib.hid hs
  have HID := Lib.hid hid
  clear h hlow hs hid
  cases hf : findL L id with
  | some k =>
    have HA : Hid (doL L last 1 at_ id = ⟨dropL L k, last, 0, true, 0, []⟩) := Lib.hid (by unfold doL; rw [if_neg (by omega), if_pos rfl, hf])
    have HF := Lib.hid hf
    clear hf
    go_enter Try.func15, Try.ntmps15
    go_wp2_with fail
    refine (cancel_some pa id L last S _ HH.out HID.out k HF.out).mono ?_
    rintro e w2 ⟨rfl, h2, ho2⟩
    have hbe := Behind.mk' h2 (fun k hk => .inl hk) ho2 HLOW.out
    have c1 := cell_of_cells hbe.b1
    have c2 := cell_of_cells hbe.b2
    have c10 := c1 0
    have c11 := c1 1
    have c12 := c1 2
    have c13 := c1 3
    have c20 := c2 0
    have c21 := c2 1
    have c22 := c2 2
    have c23 := c2 3
    have f1 := free_of_cells hbe.b1
    have f2 := free_of_cells hbe.b2
    simp only [List.getElem?_toArray, List.getElem?_cons_zero, List.getElem?_cons_succ] at c10 c11 c12 c13 c20 c21 c22 c23
    have HBE := Lib.hid hbe
    clear c1 c2 hbe
    clear h2 ho2
    go_wp2_with fail
    refine HBE.out.done ((Only.refl (fun k => k = w.heap.size + 1 ∨ k = w.heap.size + 1 + 1) w2).setCell (p := ⟨w.heap.size + 1 + 1, 1, none⟩) (.inl (.inr rfl)) _ |>.then_ (ans_only (.inl rfl))) rfl rfl rfl 0 true 0 (.slice none 0 0)
      (ans_block (heap_set_ne _ _ _ HBE.out.b1 (by simp))) _ (by rw [HA.out]; exact ⟨rfl, rfl, rfl, rfl, rfl⟩) (by rw [HA.out]; exact World.ownsRow_nil _ _ _ _) (fun g hg => by simp [Value.ownBlock] at hg)
  | none =>
    have HA : Hid (doL L last 1 at_ id = ⟨L, last, 0, false, 0, []⟩) := Lib.hid (by unfold doL; rw [if_neg (by omega), if_pos rfl, hf])
    have HF := Lib.hid hf
    clear hf
    go_enter Try.func15, Try.ntmps15
    go_wp2_with fail
    refine (cancel_none pa id L last S _ HH.out HID.out HF.out).mono ?_
    rintro e w2 ⟨rfl, hw2⟩
    have hbe : Behind pa S w L last S w2 := hw2 ▸ Behind.mk' (kind := 1) (at_ := at_) (id := id) HH.out (fun k hk => .inl hk) (Only.refl _ _) HLOW.out
    have c1 := cell_of_cells hbe.b1
    have c2 := cell_of_cells hbe.b2
    have c10 := c1 0
    have c11 := c1 1
    have c12 := c1 2
    have c13 := c1 3
    have c20 := c2 0
    have c21 := c2 1
    have c22 := c2 2
    have c23 := c2 3
    have f1 := free_of_cells hbe.b1
    have f2 := free_of_cells hbe.b2
    simp only [List.getElem?_toArray, List.getElem?_cons_zero, List.getElem?_cons_succ] at c10 c11 c12 c13 c20 c21 c22 c23
    have HBE := Lib.hid hbe
    clear c1 c2 hbe
    clear hw2
    go_wp2_with fail
    refine HBE.out.done ((Only.refl (fun k => k = w.heap.size + 1 ∨ k = w.heap.size + 1 + 1) w2).setCell (p := ⟨w.heap.size + 1 + 1, 1, none⟩) (.inl (.inr rfl)) _ |>.then_ (ans_only (.inl rfl))) rfl rfl rfl 0 false 0 (.slice none 0 0)
      (ans_block (heap_set_ne _ _ _ HBE.out.b1 (by simp))) _ (by rw [HA.out]; exact ⟨rfl, rfl, rfl, rfl, rfl⟩) (by rw [HA.out]; exact World.ownsRow_nil _ _ _ _) (fun g hg => by simp [Value.ownBlock] at hg)

set_option maxRecDepth 100000 in
set_option maxHeartbeats 400000 in
theorem does_move (pa : Nat) (at_ id : Int) (L : List D2) (last : Int) (S : Nat → Prop) (n : Nat) (w : World) (h : Alm w pa L last S) (hs : St L last n) (hn : n ≤ 1000) (hid : iok id) :
    Calls Try.prog 15 #[.pointer (some ⟨pa, 0, none⟩), .agg #[.int .i64 2, .int .i64 at_, .int .i64 id]] w (DoesPost pa S w (doL L last 2 at_ id)) := by
  have HH := Lib.hid (h.below (boxes_below w 2 at_ id))
  have hlow : ∀ k, S k → k < w.heap.size := by obtain ⟨_, _, _, hw, _⟩ := h; exact hw.low
  have HLOW := Lib.hid hlow
  have HST := Lib.hid hs
  have HID := Lib.hid hid
  clear h hlow hs hid
  by_cases hf : (∃ k, findL L id = some k) ∧ (decide (0 ≤ at_) && decide (at_ ≤ 1099511627776)) = true
  · obtain ⟨⟨k, hf⟩, hr⟩ := hf
    have HA : Hid (doL L last 2 at_ id = ⟨moveL L k at_, last, 0, true, 0, []⟩) := Lib.hid (by unfold doL; rw [if_neg (by omega), if_neg (by omega), if_pos rfl, hf, hr]; rfl)
    have HF := Lib.hid (And.intro hf hr)
    clear hf hr
    go_enter Try.func15, Try.ntmps15
    go_wp2_with fail
    refine (move_yes pa id at_ L last S _ HH.out HID.out k HF.out.1 HF.out.2).mono ?_
    rintro e w2 ⟨rfl, h2, ho2⟩
    have hbe := Behind.mk' h2 (fun k hk => .inl hk) ho2 HLOW.out
    have c1 := cell_of_cells hbe.b1
    have c2 := cell_of_cells hbe.b2
    have c10 := c1 0
    have c11 := c1 1
    have c12 := c1 2
    have c13 := c1 3
    have c20 := c2 0
    have c21 := c2 1
    have c22 := c2 2
    have c23 := c2 3
    have f1 := free_of_cells hbe.b1
    have f2 := free_of_cells hbe.b2
    simp only [List.getElem?_toArray, List.getElem?_cons_zero, List.getElem?_cons_succ] at c10 c11 c12 c13 c20 c21 c22 c23
    have HBE := Lib.hid hbe
    clear c1 c2 hbe
    clear h2 ho2
    go_wp2_with fail
    refine HBE.out.done ((Only.refl (fun k => k = w.heap.size + 1 ∨ k = w.heap.size + 1 + 1) w2).setCell (p := ⟨w.heap.size + 1 + 1, 1, none⟩) (.inl (.inr rfl)) _ |>.then_ (ans_only (.inl rfl))) rfl rfl rfl 0 true 0 (.slice none 0 0)
      (ans_block (heap_set_ne _ _ _ HBE.out.b1 (by simp))) _ (by rw [HA.out]; exact ⟨rfl, rfl, rfl, rfl, rfl⟩) (by rw [HA.out]; exact World.ownsRow_nil _ _ _ _) (fun g hg => by simp [Value.ownBlock] at hg)
  · have HA : Hid (doL L last 2 at_ id = ⟨L, last, 0, false, 0, []⟩) := Lib.hid (by
      unfold doL
      rw [if_neg (by omega), if_neg (by omega), if_pos rfl]
      cases hk : findL L id with
      | none => rfl
      | some k =>
        have : (decide (0 ≤ at_) && decide (at_ ≤ 1099511627776)) = false := by
          cases hr : (decide (0 ≤ at_) && decide (at_ ≤ 1099511627776)) with
          | false => rfl
          | true => exact absurd ⟨⟨k, hk⟩, hr⟩ hf
        simp only [this]
        rfl)
    have hf' : findL L id = none ∨ (decide (0 ≤ at_) && decide (at_ ≤ 1099511627776)) = false := by
      cases hk : findL L id with
      | none => exact .inl rfl
      | some k =>
        cases hr : (decide (0 ≤ at_) && decide (at_ ≤ 1099511627776)) with
        | false => exact .inr rfl
        | true => exact absurd ⟨⟨k, hk⟩, hr⟩ hf
    have HF := Lib.hid hf'
    clear hf hf'
    go_enter Try.func15, Try.ntmps15
    go_wp2_with fail
    refine (move_no pa id at_ L last S _ HH.out HID.out HF.out).mono ?_
    rintro e w2 ⟨rfl, hw2⟩
    have hbe : Behind pa S w L last S w2 := hw2 ▸ Behind.mk' (kind := 2) (at_ := at_) (id := id) HH.out (fun k hk => .inl hk) (Only.refl _ _) HLOW.out
    have c1 := cell_of_cells hbe.b1
    have c2 := cell_of_cells hbe.b2
    have c10 := c1 0
    have c11 := c1 1
    have c12 := c1 2
    have c13 := c1 3
    have c20 := c2 0
    have c21 := c2 1
    have c22 := c2 2
    have c23 := c2 3
    have f1 := free_of_cells hbe.b1
    have f2 := free_of_cells hbe.b2
    simp only [List.getElem?_toArray, List.getElem?_cons_zero, List.getElem?_cons_succ] at c10 c11 c12 c13 c20 c21 c22 c23
    have HBE := Lib.hid hbe
    clear c1 c2 hbe
    clear hw2
    go_wp2_with fail
    refine HBE.out.done ((Only.refl (fun k => k = w.heap.size + 1 ∨ k = w.heap.size + 1 + 1) w2).setCell (p := ⟨w.heap.size + 1 + 1, 1, none⟩) (.inl (.inr rfl)) _ |>.then_ (ans_only (.inl rfl))) rfl rfl rfl 0 false 0 (.slice none 0 0)
      (ans_block (heap_set_ne _ _ _ HBE.out.b1 (by simp))) _ (by rw [HA.out]; exact ⟨rfl, rfl, rfl, rfl, rfl⟩) (by rw [HA.out]; exact World.ownsRow_nil _ _ _ _) (fun g hg => by simp [Value.ownBlock] at hg)

set_option maxRecDepth 100000 in
set_option maxHeartbeats 400000 in
theorem does_when (pa : Nat) (at_ id : Int) (L : List D2) (last : Int) (S : Nat → Prop) (n : Nat) (w : World) (h : Alm w pa L last S) (hs : St L last n) (hn : n ≤ 1000) (hid : iok id) :
    Calls Try.prog 15 #[.pointer (some ⟨pa, 0, none⟩), .agg #[.int .i64 3, .int .i64 at_, .int .i64 id]] w (DoesPost pa S w (doL L last 3 at_ id)) := by
  have HH := Lib.hid (h.below (boxes_below w 3 at_ id))
  have hlow : ∀ k, S k → k < w.heap.size := by obtain ⟨_, _, _, hw, _⟩ := h; exact hw.low
  have HLOW := Lib.hid hlow
  have HST := Lib.hid hs
  have HID := Lib.hid hid
  clear h hlow hs hid
  cases hf : findL L id with
  | some k =>
    have HA : Hid (doL L last 3 at_ id = ⟨L, last, (fn L k).1, true, 0, []⟩) := Lib.hid (by unfold doL; rw [if_neg (by omega), if_neg (by omega), if_neg (by omega), if_pos rfl, hf])
    have HF := Lib.hid hf
    clear hf
    go_enter Try.func15, Try.ntmps15
    go_wp2_with fail
    refine (when_some pa id L last S _ HH.out HID.out k HF.out).mono ?_
    rintro e w2 ⟨rfl, hw2⟩
    have hbe : Behind pa S w L last S w2 := hw2 ▸ Behind.mk' (kind := 3) (at_ := at_) (id := id) HH.out (fun k hk => .inl hk) (Only.refl _ _) HLOW.out
    have c1 := cell_of_cells hbe.b1
    have c2 := cell_of_cells hbe.b2
    have c10 := c1 0
    have c11 := c1 1
    have c12 := c1 2
    have c13 := c1 3
    have c20 := c2 0
    have c21 := c2 1
    have c22 := c2 2
    have c23 := c2 3
    have f1 := free_of_cells hbe.b1
    have f2 := free_of_cells hbe.b2
    simp only [List.getElem?_toArray, List.getElem?_cons_zero, List.getElem?_cons_succ] at c10 c11 c12 c13 c20 c21 c22 c23
    have HBE := Lib.hid hbe
    clear c1 c2 hbe
    clear hw2
    go_wp2_with fail
    refine HBE.out.done (((Only.refl (fun k => k = w.heap.size + 1 ∨ k = w.heap.size + 1 + 1) w2).setCell (p := ⟨w.heap.size + 1 + 1, 0, none⟩) (.inl (.inr rfl)) _).setCell (p := ⟨w.heap.size + 1 + 1, 1, none⟩) (.inl (.inr rfl)) _ |>.then_ (ans_only (.inl rfl))) rfl rfl rfl (fn L k).1 true 0 (.slice none 0 0)
      (ans_block (heap_set_ne _ _ _ (heap_set_ne _ _ _ HBE.out.b1 (by simp)) (by simp))) _ (by rw [HA.out]; exact ⟨rfl, rfl, rfl, rfl, rfl⟩) (by rw [HA.out]; exact World.ownsRow_nil _ _ _ _) (fun g hg => by simp [Value.ownBlock] at hg)
  | none =>
    have HA : Hid (doL L last 3 at_ id = ⟨L, last, 0, false, 0, []⟩) := Lib.hid (by unfold doL; rw [if_neg (by omega), if_neg (by omega), if_neg (by omega), if_pos rfl, hf])
    have HF := Lib.hid hf
    clear hf
    go_enter Try.func15, Try.ntmps15
    go_wp2_with fail
    refine (when_none pa id L last S _ HH.out HID.out HF.out).mono ?_
    rintro e w2 ⟨rfl, hw2⟩
    have hbe : Behind pa S w L last S w2 := hw2 ▸ Behind.mk' (kind := 3) (at_ := at_) (id := id) HH.out (fun k hk => .inl hk) (Only.refl _ _) HLOW.out
    have c1 := cell_of_cells hbe.b1
    have c2 := cell_of_cells hbe.b2
    have c10 := c1 0
    have c11 := c1 1
    have c12 := c1 2
    have c13 := c1 3
    have c20 := c2 0
    have c21 := c2 1
    have c22 := c2 2
    have c23 := c2 3
    have f1 := free_of_cells hbe.b1
    have f2 := free_of_cells hbe.b2
    simp only [List.getElem?_toArray, List.getElem?_cons_zero, List.getElem?_cons_succ] at c10 c11 c12 c13 c20 c21 c22 c23
    have HBE := Lib.hid hbe
    clear c1 c2 hbe
    clear hw2
    go_wp2_with fail
    refine HBE.out.done (((Only.refl (fun k => k = w.heap.size + 1 ∨ k = w.heap.size + 1 + 1) w2).setCell (p := ⟨w.heap.size + 1 + 1, 0, none⟩) (.inl (.inr rfl)) _).setCell (p := ⟨w.heap.size + 1 + 1, 1, none⟩) (.inl (.inr rfl)) _ |>.then_ (ans_only (.inl rfl))) rfl rfl rfl 0 false 0 (.slice none 0 0)
      (ans_block (heap_set_ne _ _ _ (heap_set_ne _ _ _ HBE.out.b1 (by simp)) (by simp))) _ (by rw [HA.out]; exact ⟨rfl, rfl, rfl, rfl, rfl⟩) (by rw [HA.out]; exact World.ownsRow_nil _ _ _ _) (fun g hg => by simp [Value.ownBlock] at hg)

set_option maxRecDepth 100000 in
set_option maxHeartbeats 400000 in
theorem does_take (pa : Nat) (at_ id : Int) (L : List D2) (last : Int) (S : Nat → Prop) (n : Nat) (w : World) (h : Alm w pa L last S) (hs : St L last n) (hn : n ≤ 1000) (hid : iok id) :
    Calls Try.prog 15 #[.pointer (some ⟨pa, 0, none⟩), .agg #[.int .i64 4, .int .i64 at_, .int .i64 id]] w (DoesPost pa S w (doL L last 4 at_ id)) := by
  have HH := Lib.hid (h.below (boxes_below w 4 at_ id))
  have hlow : ∀ k, S k → k < w.heap.size := by obtain ⟨_, _, _, hw, _⟩ := h; exact hw.low
  have HLOW := Lib.hid hlow
  have HST := Lib.hid hs
  have HID := Lib.hid hid
  clear h hlow hs hid
  have HA : Hid (doL L last 4 at_ id = ⟨(takeL L.length at_ L).2, last, 0, false, 0, (takeL L.length at_ L).1⟩) := Lib.hid (by unfold doL; rw [if_neg (by omega), if_neg (by omega), if_neg (by omega), if_neg (by omega), if_pos rfl])
  have hspec := take_spec L.length at_ L (Nat.le_refl _) HST.out.heap
  have hol : (takeL L.length at_ L).1.length ≤ 1000 := by have e1 := hspec.1.length_eq; have e2 := HST.out.len; rw [List.length_append] at e1; omega
  have HOL := Lib.hid hol
  clear hspec hol
  go_enter Try.func15, Try.ntmps15
  go_wp2_with fail
  refine (take_any pa at_ L last S _ HH.out).mono ?_
  rintro e w1 ⟨v1, rfl, hown1, hne1, h1, ho1⟩
  have HT := Lib.hid (And.intro h1 ho1)
  have HRD := Lib.hid (Rd.of_own due_length hown1)
  clear hown1 hne1 h1 ho1
  go_wp2_with fail
  refine (rows_any v1 _ _ HRD.out (by have := HOL.out; omega)).mono ?_
  rintro e w2 ⟨v2, rfl, hown2, hne2, hb2⟩
  obtain ⟨A2, c2', hv2⟩ : ∃ A c, v2 = .slice A (takeL L.length at_ L).1.length c := by
    rcases hown2.2 with ⟨rfl, h0⟩ | ⟨g, cap, cur, rfl, _⟩
    · exact ⟨none, 0, by rw [h0]⟩
    · exact ⟨_, cap, rfl⟩
  subst hv2
  have hsz1 : w.heap.size + 3 ≤ w1.heap.size := by have h3 := HT.out.2.size; rw [boxes_size] at h3; exact h3
  have hbe : Behind pa S w (takeL L.length at_ L).2 last S w2 := Behind.mk' (kind := 4) (at_ := at_) (id := id) (HT.out.1.below hb2) (fun k hk => .inl hk) (HT.out.2.then_ (Only.of_below hb2)) HLOW.out
  have HOWN := Lib.hid (And.intro hown2 (And.intro hne2 hsz1))
  clear hown2 hne2 hb2 hsz1
  have c1 := cell_of_cells hbe.b1
  have c2 := cell_of_cells hbe.b2
  have c10 := c1 0
  have c11 := c1 1
  have c12 := c1 2
  have c13 := c1 3
  have c20 := c2 0
  have c21 := c2 1
  have c22 := c2 2
  have c23 := c2 3
  have f1 := free_of_cells hbe.b1
  have f2 := free_of_cells hbe.b2
  simp only [List.getElem?_toArray, List.getElem?_cons_zero, List.getElem?_cons_succ] at c10 c11 c12 c13 c20 c21 c22 c23
  have HBE := Lib.hid hbe
  clear c1 c2 hbe
  go_wp2_with fail
  refine HBE.out.done ((Only.refl (fun k => k = w.heap.size + 1 ∨ k = w.heap.size + 1 + 1) w2).setCell (p := ⟨w.heap.size + 1 + 1, 3, none⟩) (.inl (.inr rfl)) _ |>.then_ (ans_only (.inl rfl))) rfl rfl rfl 0 false 0 (.slice A2 (takeL L.length at_ L).1.length c2')
    (ans_block (heap_set_ne _ _ _ HBE.out.b1 (by simp))) _ (by rw [HA.out]; exact ⟨rfl, rfl, rfl, rfl, rfl⟩) (by rw [HA.out]; exact HOWN.out.1) (fun g hg => by have := HOWN.out.2.1 g hg; have := HOWN.out.2.2; exact ⟨by omega, fun hk => by have := HLOW.out g hk; omega⟩)

set_option maxRecDepth 100000 in
set_option maxHeartbeats 400000 in
theorem does_else (pa : Nat) (kind at_ id : Int) (L : List D2) (last : Int) (S : Nat → Prop) (n : Nat) (w : World) (h : Alm w pa L last S) (hs : St L last n) (hn : n ≤ 1000) (hid : iok id) (hk : ¬ (0 ≤ kind ∧ kind ≤ 4)) :
    Calls Try.prog 15 #[.pointer (some ⟨pa, 0, none⟩), .agg #[.int .i64 kind, .int .i64 at_, .int .i64 id]] w (DoesPost pa S w (doL L last kind at_ id)) := by
  have HH := Lib.hid (h.below (boxes_below w kind at_ id))
  have hlow : ∀ k, S k → k < w.heap.size := by obtain ⟨_, _, _, hw, _⟩ := h; exact hw.low
  have HLOW := Lib.hid hlow
  have HST := Lib.hid hs
  have HID := Lib.hid hid
  clear h hlow hs hid
  have HA : Hid (doL L last kind at_ id = ⟨L, last, 0, false, 0, []⟩) := Lib.hid (by unfold doL; rw [if_neg (by omega), if_neg (by omega), if_neg (by omega), if_neg (by omega), if_neg (by omega)])
  have k0 : ((kind : Int) == 0) = false := beq_eq_false_iff_ne.2 (by omega)
  have k1 : ((kind : Int) == 1) = false := beq_eq_false_iff_ne.2 (by omega)
  have k2 : ((kind : Int) == 2) = false := beq_eq_false_iff_ne.2 (by omega)
  have k3 : ((kind : Int) == 3) = false := beq_eq_false_iff_ne.2 (by omega)
  have k4 : ((kind : Int) == 4) = false := beq_eq_false_iff_ne.2 (by omega)
  clear hk
  go_enter Try.func15, Try.ntmps15
  go_wp2_with fail
  have hbe : Behind pa S w L last S (boxes w kind at_ id) := Behind.mk' (kind := kind) (at_ := at_) (id := id) HH.out (fun k hk => .inl hk) (Only.refl _ _) HLOW.out
  refine hbe.done (W := boxes w kind at_ id) (Only.refl _ _) rfl rfl rfl 0 false 0 (.slice none 0 0) hbe.b1 _ (by rw [HA.out]; exact ⟨rfl, rfl, rfl, rfl, rfl⟩) (by rw [HA.out]; exact World.ownsRow_nil _ _ _ _) (fun g hg => by simp [Value.ownBlock] at hg)

theorem does_any (pa : Nat) (kind at_ id : Int) (L : List D2) (last : Int) (S : Nat → Prop) (n : Nat) (w : World) (h : Alm w pa L last S) (hs : St L last n) (hn : n ≤ 1000) (hid : iok id) :
    Calls Try.prog 15 #[.pointer (some ⟨pa, 0, none⟩), .agg #[.int .i64 kind, .int .i64 at_, .int .i64 id]] w (DoesPost pa S w (doL L last kind at_ id)) := by
  by_cases hk : 0 ≤ kind ∧ kind ≤ 4
  · have : kind = 0 ∨ kind = 1 ∨ kind = 2 ∨ kind = 3 ∨ kind = 4 := by omega
    rcases this with rfl | rfl | rfl | rfl | rfl
    · exact does_set pa at_ id L last S n w h hs hn hid
    · exact does_cancel pa at_ id L last S n w h hs hn hid
    · exact does_move pa at_ id L last S n w h hs hn hid
    · exact does_when pa at_ id L last S n w h hs hn hid
    · exact does_take pa at_ id L last S n w h hs hn hid
  · exact does_else pa kind at_ id L last S n w h hs hn hid hk
end Go.Proofs.Ytcnifhkgibopbaa
