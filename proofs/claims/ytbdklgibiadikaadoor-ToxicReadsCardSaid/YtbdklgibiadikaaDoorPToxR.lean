-- Written by a program of this session (extprint.py), after the kit's print.
import Derived.Test.YtbdklgibiadikaaDoorPToxR0
import Derived.Test.YtbdklgibiadikaaDoorPToxR1
import Derived.Test.YtbdklgibiadikaaDoorPToxR2
import Derived.Test.YtbdklgibiadikaaDoorPToxR3
namespace Go.Proofs.YtbdklgibiadikaaDoor.PToxR
open Go.Proofs.YtbdklgibiadikaaDoor.Ext Go.RowKit Go.Proofs.YtbdklgibiadikaaDoorW.PrintWords Go.Proofs.YtbdklgibiadikaaDoorW.PrintLast Go.Proofs.YtbdklgibiadikaaDoorW.PrintMore
attribute [local go_sem] max2_int min2_int max_two min_two max_three min_three max_four min_four   -- for this text's walks alone
set_option linter.unusedVariables false
set_option linter.unusedSimpArgs false

end Go.Proofs.YtbdklgibiadikaaDoor.PToxR
