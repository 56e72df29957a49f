/- ToxicNames in plain words. -/
import Derived.Test.YtbdklgibiadikaaDoorToxPlain
import Derived.Test.YtbdklgibiadikaaDoorToxZR
import Derived.Test.YtbdklgibiadikaaDoorToxAlive
import Derived.Test.YtbdklgibiadikaaDoorPToxC6
set_option linter.unusedVariables false
set_option linter.unusedSimpArgs false
namespace Go.Proofs.YtbdklgibiadikaaDoor.LawNames
open Go.RowKit Go.Proofs.YtbdklgibiadikaaDoor.Ext Go.Proofs.YtbdklgibiadikaaDoor.Tox Go.Proofs.YtbdklgibiadikaaDoor.ToxPlain Go.Proofs.YtbdklgibiadikaaDoorW.PrintWords Go.Proofs.YtbdklgibiadikaaDoorW.PrintLast

theorem j0_is (s : ByteArray) (c : UInt8) (k : Nat) (b : Bool) (h : nameOk s = true) (hb : b = okN c.toNat) : PToxC.chicanelaw09_ToxicNames.j0 (k + 1) s (c.toNat : Int) b = some true := by
  subst hb
  have hs := name_size s h
  have e : strOfNums [(c.toNat : Int)] = ⟨#[c]⟩ := by
    simp [strOfNums]
  have e1 : (⟨#[c]⟩ : ByteArray).size = 1 := rfl
  rw [PToxC.chicanelaw09_ToxicNames.j0]
  rw [Option.bind_some, e, e1, if_pos (by omega), ToxAlive.alive_is, Option.bind_some, if_pos rfl]
  unfold ToxZ.chicaneref09_Name.f toxic_Name.f
  rw [if_pos (by omega), Option.bind_some, if_pos h, Option.bind_some, name_snoc s c h, name_empty]
  have e2 : decide ((s.size : Int) < 16) = decide (s.size < 16) := by simp; omega
  rw [e2]
  cases okN c.toNat
  · simp
  · simp
theorem names_is (s : ByteArray) (c : UInt8) (hs : s.size ≤ 4611686018427387904) : PToxC.chicanelaw09_ToxicNames.f 1 s (c.toNat : Int) = some true := by
  unfold PToxC.chicanelaw09_ToxicNames.f
  have e : toxic_Name.f s = some (nameOk s) := rfl
  rw [e, Option.bind_some]
  by_cases h : nameOk s = true
  · rw [if_pos h]
    have hj := fun b hb => j0_is s c 0 b h hb
    have h256 := c.toNat_lt
    have hok : ∀ b, (b = true ↔ (97 ≤ c.toNat ∧ c.toNat ≤ 122) ∨ (48 ≤ c.toNat ∧ c.toNat ≤ 57) ∨ c.toNat = 95 ∨ c.toNat = 45) → b = okN c.toNat := by
      intro b hb
      rw [Bool.eq_iff_iff, hb, okN_iff]
    have hbeq : ((c.toNat : Int) == 45) = true ↔ c.toNat = 45 := by rw [beq_iff_eq]; omega
    split
    · split
      · exact hj true (hok _ (by simp; omega))
      · split
        · split
          · exact hj true (hok _ (by simp; omega))
          · split
            · exact hj true (hok _ (by simp; omega))
            · exact hj _ (hok _ (by rw [hbeq]; omega))
        · split
          · exact hj true (hok _ (by simp; omega))
          · exact hj _ (hok _ (by rw [hbeq]; omega))
    · split
      · split
        · exact hj true (hok _ (by simp; omega))
        · split
          · exact hj true (hok _ (by simp; omega))
          · exact hj _ (hok _ (by rw [hbeq]; omega))
      · split
        · exact hj true (hok _ (by simp; omega))
        · exact hj _ (hok _ (by rw [hbeq]; omega))
  · rw [if_neg h, ToxAlive.alive_is, Option.bind_some, if_pos rfl]
    unfold ToxZ.chicaneref09_Name.f
    rw [if_pos hs, Option.bind_some]
    simp [h]
theorem names_int (s : ByteArray) (x : Int) (hs : s.size ≤ 4611686018427387904) (hx : (Lit.int .u8 x).wf = true) : PToxC.chicanelaw09_ToxicNames.f 1 s x = some true := by
  have h : 0 ≤ x ∧ x ≤ 255 := by
    simp only [Lit.wf, Bool.and_eq_true, decide_eq_true_eq] at hx
    exact hx
  have e : x = ((UInt8.ofNat x.toNat).toNat : Int) := by
    simp only [UInt8.toNat_ofNat']
    omega
  rw [e]
  exact names_is s _ hs
end Go.Proofs.YtbdklgibiadikaaDoor.LawNames
