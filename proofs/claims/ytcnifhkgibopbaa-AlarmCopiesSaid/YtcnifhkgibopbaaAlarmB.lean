/- The walks of swap, ahead, rise, sink. -/
import Derived.Test.YtcnifhkgibopbaaAlarmA
import Derived.Test.YtcnifhkgibopbaaHeap
import Derived.StillTailTactics
import Derived.ScopeJumps
set_option linter.unusedVariables false
set_option linter.unusedSimpArgs false
namespace Go.Proofs.Ytcnifhkgibopbaa
open Go.RowKit Go.MapKept Go.ChangeMaps

set_option maxHeartbeats 400000 in
theorem swap_any (pa mb g cap i k : Nat) (L : List (Int × Int)) (m : List (Int × Nat)) (last : Int) (S : Nat → Prop) (w : World)
    (h : AlmRaw w pa mb (.slice (some ⟨g, 0, none⟩) L.length cap) L m last S) (hi : i < L.length) (hk : k < L.length) (hok : ∀ d ∈ L, iok d.2) (i' k' : Int) (hi' : i' = i) (hk' : k' = k) :
    Calls Try.prog 42 #[.pointer (some ⟨pa, 0, none⟩), .int .i64 i', .int .i64 k'] w fun e w' => e = .returned (.tuple #[]) ∧
      AlmRaw w' pa mb (.slice (some ⟨g, 0, none⟩) L.length cap) ((L.set i L[k]).set k L[i]) (mput (mput m L[k].2 i) L[i].2 k) last S ∧ Only S w w' := by
  subst hi'
  subst hk'
  have hm := h.lens.2
  unfold maxLen at hm
  obtain ⟨a0, a1, a2, a3, a4, a5⟩ := h.heads
  obtain ⟨c0, c1, c2, c3⟩ := h.cells (List.getElem?_eq_getElem hi)
  obtain ⟨d0, d1, d2, d3⟩ := h.cells (List.getElem?_eq_getElem hk)
  have lpa := lt_of_heap h.box
  have lg := h.low g (h.inS.2.2 g rfl).1
  have HH := Lib.hid h
  have hoi : iok L[i].2 := hok _ (List.getElem_mem hi)
  have hok' : iok L[k].2 := hok _ (List.getElem_mem hk)
  clear h hok
  obtain ⟨n, hn⟩ : ∃ n, n = L.length := ⟨_, rfl⟩
  go_enter Try.func42, Try.ntmps42
  go_wp2
  go_region
  all_goals
    go_wp2_with fail
    refine (lay_any pa mb g cap i _ _ L m last S _ (((HH.out.alloc _).alloc _).drew) hi hok' _ rfl n hn).mono ?_
    rintro e w1 ⟨rfl, h1, ho1⟩
    have b0 := ho1.obj (b := w.heap.size) (heap_two w _ _).1 fun hS => by have := HH.out.low _ hS; omega
    have b1 := ho1.obj (b := w.heap.size + 1) (heap_two w _ _).2 fun hS => by have := HH.out.low _ hS; omega
    have e00 := cell_of_cells b0 0
    have e01 := cell_of_cells b0 1
    have e10 := cell_of_cells b1 0
    have e11 := cell_of_cells b1 1
    simp only [List.getElem?_toArray, List.getElem?_cons_zero, List.getElem?_cons_succ] at e00 e01 e10 e11
    have ho : Only S w w1 := (((Only.refl S w).alloc _).alloc _).drew.then_ ho1
    have H1 := Lib.hid h1
    have HO := Lib.hid ho
    clear h1 ho1 ho b0 b1
    go_wp2_with fail
    refine (lay_any pa mb g cap k _ _ (L.set i L[k]) _ last S _ (by rw [List.length_set]; exact H1.out) (by rw [List.length_set]; exact hk) hoi _ rfl n (by rw [List.length_set]; exact hn)).mono ?_
    rintro e w2 ⟨rfl, h2, ho2⟩
    rw [List.length_set] at h2
    go_wp2
    go_end0
    exact ⟨rfl, h2, HO.out.then_ ho2⟩

theorem ahead_any (a b : Int × Int) (w : World) :
    Calls Try.prog 39 #[.agg #[.int .i64 a.1, .int .i64 a.2], .agg #[.int .i64 b.1, .int .i64 b.2]] w fun e w' => e = .returned (.bool (aheadB a b)) ∧ Below w.heap.size w w' := by
  obtain ⟨a1, a2⟩ := a
  obtain ⟨b1, b2⟩ := b
  have hb : Below w.heap.size w ((w.alloc (.cells #[.int .i64 a1, .int .i64 a2] 33)).alloc (.cells #[.int .i64 b1, .int .i64 b2] 33)) := ((Below.refl _ w).alloc (Nat.le_refl _) _).alloc (by simp) _
  have HB := Lib.hid hb
  clear hb
  by_cases h : a1 < b1
  · have H := Lib.hid h
    go_enter Try.func39, Try.ntmps39
    go_wp2
    go_ret
    exact ⟨by simp [aheadB, H.out], HB.out⟩
  · by_cases h1 : a1 = b1
    · have hq : ((a1 : Int) == b1) = true := by simpa using h1
      have H := Lib.hid h
      have H1 := Lib.hid h1
      clear h1
      go_enter Try.func39, Try.ntmps39
      go_wp2
      go_ret
      exact ⟨by simp [aheadB, H.out, H1.out], HB.out⟩
    · have hq : ((a1 : Int) == b1) = false := by simpa using h1
      have H := Lib.hid h
      have H1 := Lib.hid h1
      clear h1
      go_enter Try.func39, Try.ntmps39
      go_wp2
      go_ret
      exact ⟨by simp [aheadB, H.out, H1.out], HB.out⟩
end Go.Proofs.Ytcnifhkgibopbaa
