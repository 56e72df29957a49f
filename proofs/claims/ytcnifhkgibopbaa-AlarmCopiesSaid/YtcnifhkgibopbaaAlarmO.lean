/- List: all alarms in their order. -/
import Derived.Test.YtcnifhkgibopbaaAlarmN
import Derived.Test.YtcnifhkgibopbaaSort
import Derived.Shelf.SlSortCmp.NoneTotal
set_option linter.unusedVariables false
set_option linter.unusedSimpArgs false
namespace Go.Proofs.Ytcnifhkgibopbaa
open Go.RowKit Go.MapKept Go.ChangeMaps

theorem flatK_flat (L : List D2) : (Go.Sort.flatK due 2 L.toArray).toList = flat due L := by
  apply List.ext_getElem?
  intro t
  by_cases h : t < L.length * 2
  · have hk : t / 2 < L.length := by omega
    have e : t = t / 2 * 2 + t % 2 := by omega
    have h2 : t % 2 < 2 := Nat.mod_lt _ (by omega)
    have hx : L[t / 2]? = some L[t / 2] := List.getElem?_eq_getElem hk
    have hf := flat_at due_length L (t / 2) L[t / 2] (t % 2) hx h2
    rw [← e] at hf
    rw [hf, Array.getElem?_toList, Array.getElem?_eq_getElem (by simpa using h)]
    have hg := Go.Sort.get_flatK due 2 L.toArray t (by simpa using h)
    rw [getElem!_pos _ t (by simpa using h)] at hg
    rw [hg, getElem!_pos _ (t / 2) (by simpa using hk)]
    have hl : t % 2 < (due L[t / 2]).length := by rw [due_length]; exact h2
    simp only [List.getElem_toArray]
    rw [getElem!_pos _ (t % 2) hl, List.getElem?_eq_getElem hl]
  · rw [List.getElem?_eq_none (by simp; omega), List.getElem?_eq_none (by rw [flat_length due_length]; omega)]

/-- Alarms in order. -/
def sortL (L : List D2) : List D2 := L.mergeSort fun x y => !(ltOf cmpD) y x
theorem ltOf_cmpD (a b : D2) : ltOf cmpD a b = aheadB a b := by
  unfold ltOf
  rw [Bool.eq_iff_iff, decide_eq_true_eq, ahead_true]
  exact cmpD_lt a b
theorem swo_cmpD : Go.Sort.SWO (ltOf cmpD) where
  irrefl x := by rw [ltOf_cmpD, ahead_false]; exact le_refl' x
  trans x y z h1 h2 := by rw [ltOf_cmpD, ahead_true] at *; unfold lt at *; omega
  ntrans x y z h1 h2 := by rw [ltOf_cmpD, ahead_false] at *; exact le_trans' h2 h1
theorem sortL_perm (L : List D2) : (sortL L).Perm L := List.mergeSort_perm L _
theorem not_ahead (x y : D2) : (!(ltOf cmpD) y x) = true ↔ le x y := by
  rw [ltOf_cmpD, Bool.not_eq_true', ahead_false]
theorem sortL_pair (L : List D2) : (sortL L).Pairwise le := by
  have h := List.pairwise_mergeSort (le := fun x y : D2 => !(ltOf cmpD) y x)
    (fun a b c h1 h2 => by rw [not_ahead] at *; exact le_trans' h1 h2)
    (fun a b => by rw [Bool.or_eq_true, not_ahead, not_ahead]; unfold le; omega) L
  exact h.imp fun h => (not_ahead _ _).1 h

theorem cmp_lays (blk off size : Nat) (w : World) : CmpLays Try.prog 36 #[] due 2 cmpD blk off size w := by
  intro m os dk _ x y
  exact listcmp_any x y _

theorem agg_due (w : World) : (isAgg 33).run Try.prog w = .ok true w := by kernel_rfl
theorem size_due (w : World) : (Go.sizeOf 33).run Try.prog w = .ok 2 w := by kernel_rfl

theorem holds_of_own {w : World} {g n cap base : Nat} {L : List D2} (h : w.ownsRow base 33 2 (.slice (some ⟨g, 0, none⟩) n cap) n (flat due L)) :
    Go.Sort.HoldsK due 2 w g 0 L.toArray ∧ g < w.heap.size ∧ n ≤ cap ∧ cap ≤ 9223372036854775807 := by
  obtain ⟨hl, h2⟩ := h
  rcases h2 with ⟨h2, _⟩ | ⟨g', cap', cur, h3, h4, hh, hn, hm, hs, ht⟩
  · cases h2
  · simp only [Value.slice.injEq, Option.some.injEq, Addr.mk.injEq] at h3
    obtain ⟨⟨rfl, _⟩, _, rfl⟩ := h3
    refine ⟨fun j hj => ⟨?_, free_of_cells hh _⟩, lt_of_heap hh, hn, by unfold maxLen at hm; omega⟩
    have hj2 := hj
    rw [Go.Sort.size_flatK, List.size_toArray] at hj2
    have hfl := flat_length due_length L
    rw [cell_of_cells hh, Nat.zero_add, getElem!_pos _ j hj]
    have h1 : cur[j]? = (flat due L)[j]? := by
      rw [← ht, List.getElem?_take_of_lt (by omega), Array.getElem?_toList]
    rw [h1, ← flatK_flat, Array.getElem?_toList, Array.getElem?_eq_getElem hj]
    rfl
/-- Behind the sort. -/
theorem sorted_world (w0 w : World) (g m : Nat) (L R : List D2) (os : Array Obj) (hlen : R.length = L.length) (hH : Go.Sort.HoldsK due 2 w g 0 L.toArray) (hb : Below w0.heap.size w0 w) (hg : w0.heap.size ≤ g) (hgw : g < w.heap.size) (cap : Nat) (hc : R.length ≤ cap) (hcm : cap ≤ 9223372036854775807) :
    Rd due (sortWorldK due 2 w g 0 m R.toArray os) (.slice (some ⟨g, 0, none⟩) R.length cap) R ∧ Below w0.heap.size w0 (sortWorldK due 2 w g 0 m R.toArray os) := by
  have h1 : Go.Sort.HoldsK due 2 (sortWorldK due 2 w g 0 m R.toArray os) g 0 R.toArray := by
    unfold sortWorldK
    refine Go.Sort.holdsK_grow (enc := due) (k := 2) _ _ _ _ _ ?_ ?_
    · unfold Go.Sort.putRowK; rw [Go.Sort.size_putRow]; exact hgw
    · exact Go.Sort.holdsK_putRowK (enc := due) (k := 2) _ _ _ L.toArray _ hH (by simp [hlen])
  refine ⟨⟨_, cap, rfl, hc, by omega, fun hp => ⟨g, 0, rfl, fun j u hu => ?_⟩⟩, ?_⟩
  · have hj : j < (Go.Sort.flatK due 2 R.toArray).size := by
      rw [← flatK_flat, Array.getElem?_toList] at hu
      exact (Array.getElem?_eq_some_iff.1 hu).1
    have := (h1 j hj).1
    rw [this]
    rw [← flatK_flat, Array.getElem?_toList] at hu
    obtain ⟨h2, h3⟩ := Array.getElem?_eq_some_iff.1 hu
    rw [getElem!_pos _ j hj]
    simp [h3]
  · refine hb.trans ⟨rfl, rfl, rfl, ?_, ?_⟩
    · simp [sortWorldK, Go.Sort.grow, Go.Sort.putRowK, Go.Sort.putRow, Go.Sort.mapBlock, Go.Sort.ahead]
    · intro k hk
      have hkw : k < w.heap.size := Nat.lt_of_lt_of_le hk hb.size
      have hkg : ¬ g = k := by omega
      simp only [sortWorldK, Go.Sort.grow, Go.Sort.putRowK, Go.Sort.putRow, Go.Sort.mapBlock, Go.Sort.ahead]
      rw [Array.getElem?_append_left (by simpa using hkw), Array.getElem?_modify, if_neg hkg]

set_option maxRecDepth 100000 in
theorem list_any (pa : Nat) (L : List D2) (last : Int) (S : Nat → Prop) (w : World) (h : Alm w pa L last S) (hl : L.length ≤ 100000) :
    Calls Try.prog 20 #[.pointer (some ⟨pa, 0, none⟩)] w fun e w' => ∃ v, e = .returned v ∧ Rd due w' v (sortL L) ∧ (∀ g, v.ownBlock = some g → w.heap.size ≤ g) ∧ Below w.heap.size w w' := by
  obtain ⟨mb, v, m, hw, hx⟩ := h
  obtain ⟨a0, _, _, _, _, _⟩ := hw.heads
  have hrd : Rd due w v L := Rd.of_own due_length hw.row
  have HCL := Lib.hid (clone_any v L w hrd (by omega))
  have HNONE := Lib.hid (fun p cap w => AnyF.slices_SortFunc_none Try.sortDue p cap (.func (.func 36) #[] #[]) w)
  have HSORT := Lib.hid (fun g cap w hH hg => AnyQ.slices_SortFunc_total Try.sortDue 2 agg_due size_due due due_length (fun x u hu => due_one [x] u (by simpa [flat] using hu)) cmpD swo_cmpD 36 #[] g 0 cap L.toArray w
    (enters_of Try.func36 (by kernel_rfl) rfl) (cmp_lays g 0 _ w) hH hg (by simp only [List.size_toArray]; omega) (fun x y h1 h2 => by rw [ltOf_cmpD, ahead_false] at h1 h2; unfold le at h1 h2; exact Prod.ext (by omega) (by omega)))
  have HX := Lib.hid hx
  have hlow := hw.low
  clear hx hrd hlow
  go_enter Try.func20, Try.ntmps20
  go_wp2_with (first | (go_at_call 34; refine HCL.out.mono ?_; rintro e w1 ⟨v1, rfl, hcl⟩; have HCL1 := Lib.hid hcl; clear hcl) | fail)
  rcases HCL1.out with ⟨rfl, hL, rfl⟩ | ⟨g, cap, rfl, hg, hown, hb⟩
  · subst hL
    go_wp2_with (first | (go_at_call 35; refine (HNONE.out none 0 _).mono ?_; rintro e w2 ⟨rfl, rfl⟩) | fail)
    go_ret
    exact ⟨_, rfl, ⟨none, 0, by simp [sortL], by simp [sortL], by simp [sortL], fun hp => by simp [sortL] at hp⟩, fun g hg => by simp [Value.ownBlock] at hg, Below.refl _ _⟩
  · obtain ⟨hH, hgw, hn, hcm⟩ := holds_of_own hown
    have HS : Hid (Calls Try.prog 35 #[.slice (some ⟨g, 0, none⟩) L.length cap, .func (.func 36) #[] #[]] w1 fun e w' =>
        e = .returned (.tuple #[]) ∧ ∃ n os, w' = sortWorldK due 2 w1 g 0 n (sortL L).toArray os) := Lib.hid (HSORT.out g cap w1 hH hgw)
    have hlen : (sortL L).length = L.length := (sortL_perm L).length_eq
    have HB := Lib.hid (fun m os => sorted_world w w1 g m L (sortL L) os hlen hH hb hg hgw cap (by omega) hcm)
    have HLEN := Lib.hid hlen
    have HG := Lib.hid hg
    clear hH hown hb hgw hlen hg hn hcm
    go_wp2_with (first | (go_at_call 35; refine HS.out.mono ?_; rintro e w2 ⟨rfl, n, os, rfl⟩) | fail)
    go_ret
    refine ⟨_, rfl, ?_, fun k hk => ?_, (HB.out n os).2⟩
    · have := (HB.out n os).1
      rw [HLEN.out] at this
      exact this
    · simp [Value.ownBlock] at hk
      have := HG.out
      omega
end Go.Proofs.Ytcnifhkgibopbaa
