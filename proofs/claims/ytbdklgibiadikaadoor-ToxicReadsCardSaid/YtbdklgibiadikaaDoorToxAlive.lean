/- The first call of chapter 09's laws answers true. -/
import Derived.Test.YtbdklgibiadikaaDoorPToxC2
set_option linter.unusedVariables false
namespace Go.Proofs.YtbdklgibiadikaaDoor.ToxAlive
theorem alive_is : PToxC.chicanelaw09_alive.f = some true := by kernel_rfl
end Go.Proofs.YtbdklgibiadikaaDoor.ToxAlive
