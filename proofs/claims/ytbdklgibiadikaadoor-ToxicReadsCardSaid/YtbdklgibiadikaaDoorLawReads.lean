/- ToxicReads in plain words. -/
import Derived.Test.YtbdklgibiadikaaDoorToxPlain
import Derived.Test.YtbdklgibiadikaaDoorRefParseX
import Derived.Test.YtbdklgibiadikaaDoorToxAlive
import Derived.Test.YtbdklgibiadikaaDoorPToxD2
set_option linter.unusedVariables false
set_option linter.unusedSimpArgs false
namespace Go.Proofs.YtbdklgibiadikaaDoor.LawReads
open Go.RowKit Go.Proofs.YtbdklgibiadikaaDoor.Ext Go.Proofs.YtbdklgibiadikaaDoor.Tox Go.Proofs.YtbdklgibiadikaaDoor.ToxPlain Go.Proofs.YtbdklgibiadikaaDoorW.PrintWords Go.Proofs.YtbdklgibiadikaaDoorW.PrintLast

theorem reads_is (s : ByteArray) : PToxD.chicanelaw09_ToxicReads.f s = some true := by
  unfold PToxD.chicanelaw09_ToxicReads.f
  rw [ToxAlive.alive_is]
  by_cases hs : (s.size : Int) > 1000
  · rw [if_pos hs]; rfl
  · rw [if_neg hs]
    unfold ToxZ.toxic_Parse.f ToxZ.chicaneref09_Parse.f ToxZ.toxic_Text.f
    rw [if_pos (by omega), if_pos (by omega), Option.bind_some, Option.bind_some, Option.bind_some, if_pos rfl, if_pos (by simp), if_pos rfl]
    by_cases he : (parseOf s).2.2.2.2.2.2 = 0
    · rw [if_pos he, Option.bind_some]
      have := reads_right s (parseOf s).1 (parseOf s).2.1 (parseOf s).2.2.1 (parseOf s).2.2.2.1 (parseOf s).2.2.2.2.1 (parseOf s).2.2.2.2.2.1 (by rw [← he])
      rw [this]
      simp
    · rw [if_neg he]
end Go.Proofs.YtbdklgibiadikaaDoor.LawReads
