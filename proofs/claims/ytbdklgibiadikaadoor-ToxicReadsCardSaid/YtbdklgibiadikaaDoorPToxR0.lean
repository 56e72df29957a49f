-- Written by a program of this session (extprint.py), after the kit's print.
import Derived.Test.YtbdklgibiadikaaDoorProg
import Derived.Test.YtbdklgibiadikaaDoorToxExt
import Derived.Below
import Derived.Deep.Draws
import Derived.Deep.AppendLies
import Derived.Maps.AppendAt
import Derived.OwnWalk
import Derived.Laws.BytesArg
import Derived.Laws.MakeOwn
import Derived.Laws.OwnMore
import Derived.Deep.OwnRows
import Derived.Tactics
import Derived.Lib.ConvBytes
import Derived.Laws.Slices
import Derived.WalkKit
import Derived.KernelRfl
import Derived.RowKit3
import Derived.Deep.LoopGhost
import Derived.Deep.QuietTactic
import Derived.BigQuiet
import Derived.WideLaws
import Derived.Deep.DeepCutAuto
import Derived.Deep.CutBlock
import Derived.Deep.RegionHeld3
import Derived.Laws.Rows
import Derived.Lib.AppendStr
import Derived.ArgAppend
import Derived.Laws.IdiomCopy
import Derived.OrdersHeld
import Derived.Laws.BitsLemmas
import Derived.RowKit
import Derived.Test.YtbdklgibiadikaaDoorWWords
import Derived.Test.YtbdklgibiadikaaDoorWLast
import Derived.Test.YtbdklgibiadikaaDoorWTab
import Derived.Test.YtbdklgibiadikaaDoorWFour
import Derived.Test.YtbdklgibiadikaaDoorWQPut
import Derived.Test.YtbdklgibiadikaaDoorWApart
import Derived.Test.YtbdklgibiadikaaDoorWArr
import Derived.Test.YtbdklgibiadikaaDoorWZeros
import Derived.Test.YtbdklgibiadikaaDoorWFoot
import Derived.Test.YtbdklgibiadikaaDoorWKept
import Derived.Test.YtbdklgibiadikaaDoorWShare
import Derived.Test.YtbdklgibiadikaaDoorWN
import Derived.Test.YtbdklgibiadikaaDoorWFootNe
import Derived.Test.YtbdklgibiadikaaDoorWAt
import Derived.Test.YtbdklgibiadikaaDoorWEqStruct
import Derived.Test.YtbdklgibiadikaaDoorWRepsOne
import Derived.Test.YtbdklgibiadikaaDoorWInv
import Derived.Test.YtbdklgibiadikaaDoorWInvWords
import Derived.Test.YtbdklgibiadikaaDoorWGuard
import Derived.Test.YtbdklgibiadikaaDoorWNEv
import Derived.Test.YtbdklgibiadikaaDoorWMore
namespace Go.Proofs.YtbdklgibiadikaaDoor.PToxR
open Go.Proofs.YtbdklgibiadikaaDoor.Ext Go.RowKit Go.Proofs.YtbdklgibiadikaaDoorW.PrintWords Go.Proofs.YtbdklgibiadikaaDoorW.PrintLast Go.Proofs.YtbdklgibiadikaaDoorW.PrintMore
attribute [local go_sem] max2_int min2_int max_two min_two max_three min_three max_four min_four   -- for this text's walks alone
set_option linter.unusedVariables false
set_option linter.unusedSimpArgs false



def errW : Option Int → Value
  | none => .nilIface
  | some c => .iface 0 (.int .i64 c)
theorem errW_none : errW none = .nilIface := rfl
theorem errW_some (c : Int) : errW (some c) = .iface 0 (.int .i64 c) := rfl

-- the values' own types

end Go.Proofs.YtbdklgibiadikaaDoor.PToxR
