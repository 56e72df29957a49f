/- ToxicOften in plain words. -/
import Derived.Test.YtbdklgibiadikaaDoorToxPlain
import Derived.Test.YtbdklgibiadikaaDoorToxAlive
import Derived.Test.YtbdklgibiadikaaDoorPToxC5
set_option linter.unusedVariables false
set_option linter.unusedSimpArgs false
namespace Go.Proofs.YtbdklgibiadikaaDoor.LawOften
open Go.RowKit Go.Proofs.YtbdklgibiadikaaDoor.Ext Go.Proofs.YtbdklgibiadikaaDoor.Tox Go.Proofs.YtbdklgibiadikaaDoor.ToxPlain Go.Proofs.YtbdklgibiadikaaDoorW.PrintWords Go.Proofs.YtbdklgibiadikaaDoorW.PrintLast

theorem often_is (n : ByteArray) (k : Int) (up : Bool) (o a b : Int) (often b' : Int) : PToxC.chicanelaw09_ToxicOften.f n k up o a b often b' = some true := by
  unfold PToxC.chicanelaw09_ToxicOften.f
  rw [ToxAlive.alive_is]
  unfold ToxZ.toxic_Right.f ToxZ.toxic_Numbers.f
  by_cases h : checkOf n k up o a b = 0
  · have h1 := check_often n k up (!up) o often a b h
    obtain ⟨_, hk1, hk7, _⟩ := check_zero h
    have hnum : numOf k = if k ≤ 3 then 2 else 1 := by rw [numOf, if_neg (by omega)]
    rw [h, h1]
    by_cases hk : k ≤ 3
    · rw [if_pos hk] at hnum
      rw [hnum]
      by_cases ho : 0 ≤ often
      · simp [ho]
      · simp [ho]
    · rw [if_neg hk] at hnum
      have h2 := check_b n k up o a b b' h (by omega)
      rw [hnum, h2]
      by_cases ho : 0 ≤ often
      · simp [ho]
      · simp [ho]
  · simp [h]
end Go.Proofs.YtbdklgibiadikaaDoor.LawOften
