/- ToxicBack in plain words. -/
import Derived.Test.YtbdklgibiadikaaDoorToxPlain
import Derived.Test.YtbdklgibiadikaaDoorToxAlive
import Derived.Test.YtbdklgibiadikaaDoorPToxC4
set_option linter.unusedVariables false
set_option linter.unusedSimpArgs false
namespace Go.Proofs.YtbdklgibiadikaaDoor.LawBack
open Go.RowKit Go.Proofs.YtbdklgibiadikaaDoor.Ext Go.Proofs.YtbdklgibiadikaaDoor.Tox Go.Proofs.YtbdklgibiadikaaDoor.ToxPlain Go.Proofs.YtbdklgibiadikaaDoorW.PrintWords Go.Proofs.YtbdklgibiadikaaDoorW.PrintLast

theorem text_size (n : ByteArray) (k : Int) (up : Bool) (o a b : Int) : (textOf n k up o a b).size < 4294967281 := by
  unfold textOf
  by_cases h : checkOf n k up o a b = 0
  · rw [if_pos h]
    obtain ⟨hn, _⟩ := check_zero h
    have hn16 := name_size n hn
    have hsg : ∀ x ∈ signs n k up o a b, x.size ≤ 16 := by
      intro x hx
      unfold signs at hx
      have h1 := word_size k
      have h2 := tickText_size o
      have h3 := tickText_size a
      have h4 := tickText_size b
      have h5 : (wayOf up).size ≤ 4 := by cases up <;> decide
      have hx' : x = n ∨ x = wordOf k ∨ x = wayOf up ∨ x = tickText o ∨ x = tickText a ∨ x = tickText b := by
        split at hx
        · simp only [List.mem_append, List.mem_cons, List.not_mem_nil, or_false] at hx
          rcases hx with (h | h | h | h | h) | h <;> simp [h]
        · simp only [List.mem_append, List.mem_cons, List.not_mem_nil, or_false] at hx
          rcases hx with h | h | h | h | h <;> simp [h]
      rcases hx' with rfl | rfl | rfl | rfl | rfl | rfl <;> omega
    have hlen : (signs n k up o a b).length ≤ 6 := by unfold signs; split <;> simp
    have hsm : ∀ l : List ByteArray, l.length ≤ 6 → (∀ x ∈ l, x.size ≤ 16) → (joined l ⟨#[32]⟩).size < 4294967281 := by
      intro l hl hx
      have e : (joined l ⟨#[32]⟩).size = (Lib.join (l.map (·.data.toList)) [32]).length := by
        rw [← Cut.joined_data]; rfl
      rw [e]
      cases l with
      | nil => simp [Lib.join_nil]
      | cons x r =>
        rw [List.map_cons, Lib.join_length]
        have hsum : ∀ (l : List ByteArray), (∀ x ∈ l, x.size ≤ 16) → Lib.lens (l.map (·.data.toList)) ≤ 16 * l.length := by
          intro l h
          rw [lens_is]
          induction l with
          | nil => simp
          | cons y l ih =>
            have h1 := h y (by simp)
            have h2 := ih (fun z hz => h z (by simp [hz]))
            simp only [List.map_cons, List.sum_cons, List.length_cons]
            omega
        have := hsum (x :: r) hx
        rw [List.map_cons] at this
        simp only [List.length_cons, List.length_map, List.length_nil] at this hl ⊢
        omega
    exact hsm _ hlen hsg
  · rw [if_neg h]; decide
theorem back_is (n : ByteArray) (k : Int) (up : Bool) (o a b : Int) : PToxC.chicanelaw09_ToxicBack.f n k up o a b = some true := by
  unfold PToxC.chicanelaw09_ToxicBack.f
  rw [ToxAlive.alive_is]
  by_cases hs : (n.size : Int) > 1000
  · rw [if_pos hs]; rfl
  · rw [if_neg hs]
    unfold ToxZ.toxic_Text.f ToxZ.toxic_Parse.f ToxZ.toxic_Right.f
    rw [Option.bind_some, if_pos (text_size n k up o a b), Option.bind_some]
    by_cases h : checkOf n k up o a b = 0
    · rw [back_right n k up o a b h, h]
      simp
    · rw [back_wrong n k up o a b h]
      rw [Option.bind_some, if_neg (by simpa using h)]
      rfl
end Go.Proofs.YtbdklgibiadikaaDoor.LawBack
