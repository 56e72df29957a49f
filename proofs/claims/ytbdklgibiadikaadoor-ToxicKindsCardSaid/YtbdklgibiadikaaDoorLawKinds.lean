/- ToxicKinds in plain words. -/
import Derived.Test.YtbdklgibiadikaaDoorToxPlain
import Derived.Test.YtbdklgibiadikaaDoorToxZR
import Derived.Test.YtbdklgibiadikaaDoorToxAlive
import Derived.Test.YtbdklgibiadikaaDoorPToxE1
set_option linter.unusedVariables false
set_option linter.unusedSimpArgs false
namespace Go.Proofs.YtbdklgibiadikaaDoor.LawKinds
open Go.RowKit Go.Proofs.YtbdklgibiadikaaDoor.Ext Go.Proofs.YtbdklgibiadikaaDoor.Tox Go.Proofs.YtbdklgibiadikaaDoor.ToxPlain Go.Proofs.YtbdklgibiadikaaDoorW.PrintWords Go.Proofs.YtbdklgibiadikaaDoorW.PrintLast

theorem kinds_is (k : Int) (s : ByteArray) : PToxE.chicanelaw09_ToxicKinds.f k s = some true := by
  unfold PToxE.chicanelaw09_ToxicKinds.f
  rw [ToxAlive.alive_is]
  by_cases hs : (s.size : Int) > 1000
  · rw [if_pos hs]; rfl
  · rw [if_neg hs]
    unfold ToxZ.toxic_Word.f ToxZ.chicaneref09_Word.f ToxZ.toxic_Kind.f ToxZ.chicaneref09_Kind.f ToxZ.toxic_Numbers.f ToxZ.chicaneref09_Numbers.f PToxE.toxic_Ends.f
    simp only [Option.bind_some, if_true]
    by_cases h4 : k ≥ 4
    · rw [if_pos h4]
      simp only [Option.bind_some, if_pos h4]
      by_cases hw : (wordOf k).toList = []
      · simp [hw]
      · have hk := kind_word k (by rcases Classical.em (k < 1 ∨ 7 < k) with h | h; exact absurd ((word_empty k).2 h) hw; omega)
        simp [hw, hk]
    · rw [if_neg h4]
      simp only [Option.bind_some, if_neg h4]
      by_cases hw : (wordOf k).toList = []
      · simp [hw]
      · have hk := kind_word k (by rcases Classical.em (k < 1 ∨ 7 < k) with h | h; exact absurd ((word_empty k).2 h) hw; omega)
        simp [hw, hk]
end Go.Proofs.YtbdklgibiadikaaDoor.LawKinds
