/- The walk of alive. -/
import Derived.Test.YtcnifhkgibopbaaAlarmI
set_option linter.unusedVariables false
set_option linter.unusedSimpArgs false
namespace Go.Proofs.Ytcnifhkgibopbaa
open Go.RowKit Go.MapKept Go.ChangeMaps

theorem below_of_only {S : Nat → Prop} {B : Nat} {a w w' : World} (hb : Below B a w) (h : Only S w w') (hB : B ≤ w.heap.size) (hs : ∀ k, S k → B ≤ k) : Below B a w' := hb.trans (h.below hB hs)

set_option maxRecDepth 100000 in
set_option maxHeartbeats 800000 in
theorem alive_any (w : World) : Calls Try.prog 11 #[] w fun e w' => e = .returned (.bool true) ∧ Below w.heap.size w w' := by
  go_enter Try.func11, Try.ntmps11
  go_wp2_with fail
  refine (new_any _).mono ?_
  rintro e w1 ⟨pa, S1, rfl, h1, hs1, hb1⟩
  have H1 := Lib.hid (And.intro h1 (And.intro hs1 hb1))
  clear h1 hs1 hb1
  go_wp2_with fail
  refine (set_yes pa 5 [] 0 S1 _ H1.out.1 (by decide) (by simp) (by omega) (by omega) (by simp)).mono ?_
  rintro e w2 ⟨rfl, S2, h2, hs2, ho2⟩
  rw [show setL [] 5 (0 + 1) = [(5, 1)] by decide] at h2
  have hb2 := below_of_only H1.out.2.2 ho2 H1.out.2.2.size H1.out.2.1
  have hs2' : ∀ k, S2 k → w.heap.size ≤ k := fun k hk => by
    rcases hs2 k hk with h | h
    · exact H1.out.2.1 k h
    · have := H1.out.2.2.size; omega
  have H2 := Lib.hid (And.intro h2 (And.intro hs2' hb2))
  clear h2 hs2 ho2 hb2 hs2' H1
  go_wp2_with fail
  refine (set_yes pa 3 [(5, 1)] (0 + 1) S2 _ H2.out.1 (by decide) (by simp) (by omega) (by omega) (by simp)).mono ?_
  rintro e w3 ⟨rfl, S3, h3, hs3, ho3⟩
  rw [show setL [(5, 1)] 3 (0 + 1 + 1) = [(3, 2), (5, 1)] by decide] at h3
  have hb3 := below_of_only H2.out.2.2 ho3 H2.out.2.2.size H2.out.2.1
  have hs3' : ∀ k, S3 k → w.heap.size ≤ k := fun k hk => by
    rcases hs3 k hk with h | h
    · exact H2.out.2.1 k h
    · have := H2.out.2.2.size; omega
  have H3 := Lib.hid (And.intro h3 (And.intro hs3' hb3))
  clear h3 hs3 ho3 hb3 hs3' H2
  go_wp2_with fail
  refine (set_yes pa 5 [(3, 2), (5, 1)] (0 + 1 + 1) S3 _ H3.out.1 (by decide) (by simp) (by omega) (by omega) (by simp)).mono ?_
  rintro e w4 ⟨rfl, S4, h4, hs4, ho4⟩
  rw [show setL [(3, 2), (5, 1)] 5 (0 + 1 + 1 + 1) = [(3, 2), (5, 1), (5, 3)] by decide] at h4
  have hb4 := below_of_only H3.out.2.2 ho4 H3.out.2.2.size H3.out.2.1
  have hs4' : ∀ k, S4 k → w.heap.size ≤ k := fun k hk => by
    rcases hs4 k hk with h | h
    · exact H3.out.2.1 k h
    · have := H3.out.2.2.size; omega
  have H4 := Lib.hid (And.intro h4 (And.intro hs4' hb4))
  clear h4 hs4 ho4 hb4 hs4' H3
  go_wp2_with fail
  refine (set_arg pa (-1) _ (by decide)).mono ?_
  rintro e w4' ⟨rfl, rfl⟩
  go_wp2_with fail
  refine (cancel_some pa 1 _ _ S4 _ H4.out.1 (by unfold iok; decide) 1 (by decide)).mono ?_
  rintro e w5 ⟨rfl, h5, ho5⟩
  rw [show dropL [(3, 2), (5, 1), (5, 3)] 1 = [(3, 2), (5, 3)] by decide] at h5
  have hb5 := below_of_only H4.out.2.2 ho5 H4.out.2.2.size H4.out.2.1
  have H5 := Lib.hid (And.intro h5 (And.intro H4.out.2.1 hb5))
  clear h5 ho5 hb5 H4
  go_wp2_with fail
  refine (take_any pa 9 _ _ S4 _ H5.out.1).mono ?_
  rintro e w6 ⟨v6, rfl, hown6, hne6, h6, ho6⟩
  rw [show takeL (List.length [((3 : Int), (2 : Int)), (5, 3)]) 9 [(3, 2), (5, 3)] = ([(3, 2), (5, 3)], []) by decide] at hown6 h6
  have hb6 := below_of_only H5.out.2.2 ho6 H5.out.2.2.size H5.out.2.1
  have H6 := Lib.hid (And.intro h6 (And.intro H5.out.2.1 hb6))
  have HR6 := Lib.hid (Rd.of_own due_length hown6)
  clear h6 ho6 hb6 hown6 hne6 H5
  go_wp2_with fail
  refine (rows_any v6 _ _ HR6.out (by simp)).mono ?_
  rintro e w7 ⟨v7, rfl, hown7, hne7, hb7⟩
  have H7 := Lib.hid (And.intro (H6.out.1.below hb7) (And.intro H6.out.2.1 (H6.out.2.2.trans (hb7.mono H6.out.2.2.size))))
  have HR7 := Lib.hid (Rd.of_own due_length hown7)
  clear hown7 hne7 hb7 H6 HR6
  go_wp2_with fail
  have hlit : Rd due (w7.alloc (.cells #[.int .i64 3, .int .i64 2, .int .i64 5, .int .i64 3] 53)) (.slice (some ⟨w7.heap.size, 0, none⟩) 2 2) [(3, 2), (5, 3)] := by
    refine ⟨_, 2, rfl, by simp, by simp, fun _ => ⟨w7.heap.size, 0, rfl, fun j u hu => ?_⟩⟩
    rw [Nat.zero_add, cell_of_cells (MapKept.heap_alloc w7 _).1, ← Array.getElem?_toList]
    exact hu
  have hba : Below w7.heap.size w7 (w7.alloc (.cells #[.int .i64 3, .int .i64 2, .int .i64 5, .int .i64 3] 53)) := (Below.refl _ _).alloc (Nat.le_refl _) _
  refine (same_any v7 _ _ _ _ (HR7.out.below hba) hlit).mono ?_
  rintro e w8 ⟨rfl, hb8⟩
  have hb78 : Below w7.heap.size w7 w8 := hba.trans (hb8.mono (by simp))
  have H8 := Lib.hid (And.intro (H7.out.1.below hb78) (H7.out.2.2.trans (hb78.mono H7.out.2.2.size)))
  clear hlit hba hb8 hb78 H7 HR7
  simp only [decide_true]
  go_wp2_with fail
  refine (len_any pa _ _ S4 _ H8.out.1).mono ?_
  rintro e w8' ⟨rfl, rfl⟩
  go_wp2_with fail
  refine (check_nil pa _ S4 _ H8.out.1).mono ?_
  rintro e w9 ⟨rfl, hb9⟩
  go_wp2_with fail
  go_ret
  exact ⟨rfl, H8.out.2.trans (hb9.mono H8.out.2.size)⟩
end Go.Proofs.Ytcnifhkgibopbaa
