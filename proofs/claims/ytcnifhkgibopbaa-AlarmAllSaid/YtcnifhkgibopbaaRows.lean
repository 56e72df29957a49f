/-
  No cell of these rows narrows 'for every input' (looked for: loops, veiled, ifaces, maps, wideKeys, modest, calm, conditions, laid).
  DERIVED. THE GIVEN ROWS OF THIS SEAT. 7 by the template 'for every input the law returns true; each argument reads behind the call as it read before'; 0 by the template 'total and deterministic' (their statements: YtcnifhkgibopbaaTotals.lean).
  GIVEN WITH THE SEED: the statements are not yours to turn. If you find one false, say at which input.
  Laid BY PROGRAM, IN A SANDBOX (cutbox-rows.mjs): the forced cells as the released guide's own fill.sh prints them over the translation 9058c6387cbc6b7f… (all of the seat's roots in one cut). By AI agents, Wed Nov 11 2026. No macro, syntax, notation, axiom, sorry.
-/
import Derived.Test.YtcnifhkgibopbaaChecked
import GoSem.Claim
import GoSem.ClaimJoined
import GoSem.ClaimMapViews
import Derived.JoinedTies
import Derived.KernelRfl
namespace Go.Proofs.Ytcnifhkgibopbaa
/- THE CELL 'sum', in the pinned program and in every row, IS THE sha256 OF THE DUMP (.gsa) THAT YtcnifhkgibopbaaProg.lean LOADS. Nothing in Lean hashes anything: it is a label: what it is worth is what the hold of that sum in a sandbox is worth. -/
noncomputable def Try.pinned : Pinned := { name := "ytcnifhkgibopbaa", sum := "9058c6387cbc6b7f5c49f8fe3ea96f68213b498c15278985f9125f10a56572d4", checked := Try.checked }
namespace Rows
def none {H : Type} : Left H := { results := [], args := [] }

/-- 'chicanelaw06.AlarmOrder': WHATEVER THE INPUT: true; the input reads as it did. -/
def alarmOrderSpec : ChangeSpec := { name := "alarmOrder", fn := fun _ => fun
  | [d] => { results := [.lit (.bool true)], args := [d] }
  | _ => none }
def alarmOrderRow : OpenClaim := { program := "ytcnifhkgibopbaa", sum := "9058c6387cbc6b7f5c49f8fe3ea96f68213b498c15278985f9125f10a56572d4", func := "chicane/chicanelaw06.AlarmOrder", spec := "alarmOrder", apart := false }
def AlarmOrderSaid : Prop := alarmOrderRow.holds Try.pinned (OpenSpec.ofChange alarmOrderSpec)

/-- ITS FALSE NEIGHBOUR: 'it returns false'. Refute it at one input. -/
def alarmOrderWrong : ChangeSpec := { name := "alarmOrder", fn := fun _ => fun
  | [d] => { results := [.lit (.bool false)], args := [d] }
  | _ => none }
def AlarmOrderWrongFalsely : Prop := alarmOrderRow.holds Try.pinned (OpenSpec.ofChange alarmOrderWrong)

/-- 'chicanelaw06.AlarmNext': WHATEVER THE INPUT: true; the input reads as it did. -/
def alarmNextSpec : ChangeSpec := { name := "alarmNext", fn := fun _ => fun
  | [d] => { results := [.lit (.bool true)], args := [d] }
  | _ => none }
def alarmNextRow : OpenClaim := { program := "ytcnifhkgibopbaa", sum := "9058c6387cbc6b7f5c49f8fe3ea96f68213b498c15278985f9125f10a56572d4", func := "chicane/chicanelaw06.AlarmNext", spec := "alarmNext", apart := false }
def AlarmNextSaid : Prop := alarmNextRow.holds Try.pinned (OpenSpec.ofChange alarmNextSpec)

/-- ITS FALSE NEIGHBOUR: 'it returns false'. Refute it at one input. -/
def alarmNextWrong : ChangeSpec := { name := "alarmNext", fn := fun _ => fun
  | [d] => { results := [.lit (.bool false)], args := [d] }
  | _ => none }
def AlarmNextWrongFalsely : Prop := alarmNextRow.holds Try.pinned (OpenSpec.ofChange alarmNextWrong)

/-- 'chicanelaw06.AlarmAll': WHATEVER THE INPUT: true; the input reads as it did. -/
def alarmAllSpec : ChangeSpec := { name := "alarmAll", fn := fun _ => fun
  | [d] => { results := [.lit (.bool true)], args := [d] }
  | _ => none }
def alarmAllRow : OpenClaim := { program := "ytcnifhkgibopbaa", sum := "9058c6387cbc6b7f5c49f8fe3ea96f68213b498c15278985f9125f10a56572d4", func := "chicane/chicanelaw06.AlarmAll", spec := "alarmAll", unfollowed := true, recurses := true, apart := false }
def AlarmAllSaid : Prop := alarmAllRow.holds Try.pinned (OpenSpec.ofChange alarmAllSpec)

/-- ITS FALSE NEIGHBOUR: 'it returns false'. Refute it at one input. -/
def alarmAllWrong : ChangeSpec := { name := "alarmAll", fn := fun _ => fun
  | [d] => { results := [.lit (.bool false)], args := [d] }
  | _ => none }
def AlarmAllWrongFalsely : Prop := alarmAllRow.holds Try.pinned (OpenSpec.ofChange alarmAllWrong)

/-- 'chicanelaw06.AlarmSteps': WHATEVER THE INPUT: true; the input reads as it did. -/
def alarmStepsSpec : ChangeSpec := { name := "alarmSteps", fn := fun _ => fun
  | [d1, d2, d3] => { results := [.lit (.bool true)], args := [d1, d2, d3] }
  | _ => none }
def alarmStepsRow : OpenClaim := { program := "ytcnifhkgibopbaa", sum := "9058c6387cbc6b7f5c49f8fe3ea96f68213b498c15278985f9125f10a56572d4", func := "chicane/chicanelaw06.AlarmSteps", spec := "alarmSteps", unfollowed := true, recurses := true, apart := false }
def AlarmStepsSaid : Prop := alarmStepsRow.holds Try.pinned (OpenSpec.ofChange alarmStepsSpec)

/-- ITS FALSE NEIGHBOUR: 'it returns false'. Refute it at one input. -/
def alarmStepsWrong : ChangeSpec := { name := "alarmSteps", fn := fun _ => fun
  | [d1, d2, d3] => { results := [.lit (.bool false)], args := [d1, d2, d3] }
  | _ => none }
def AlarmStepsWrongFalsely : Prop := alarmStepsRow.holds Try.pinned (OpenSpec.ofChange alarmStepsWrong)

/-- 'chicanelaw06.AlarmMoves': WHATEVER THE INPUT: true; the input reads as it did. -/
def alarmMovesSpec : ChangeSpec := { name := "alarmMoves", fn := fun _ => fun
  | [d1, d2, d3] => { results := [.lit (.bool true)], args := [d1, d2, d3] }
  | _ => none }
def alarmMovesRow : OpenClaim := { program := "ytcnifhkgibopbaa", sum := "9058c6387cbc6b7f5c49f8fe3ea96f68213b498c15278985f9125f10a56572d4", func := "chicane/chicanelaw06.AlarmMoves", spec := "alarmMoves", unfollowed := true, recurses := true, apart := false }
def AlarmMovesSaid : Prop := alarmMovesRow.holds Try.pinned (OpenSpec.ofChange alarmMovesSpec)

/-- ITS FALSE NEIGHBOUR: 'it returns false'. Refute it at one input. -/
def alarmMovesWrong : ChangeSpec := { name := "alarmMoves", fn := fun _ => fun
  | [d1, d2, d3] => { results := [.lit (.bool false)], args := [d1, d2, d3] }
  | _ => none }
def AlarmMovesWrongFalsely : Prop := alarmMovesRow.holds Try.pinned (OpenSpec.ofChange alarmMovesWrong)

/-- 'chicanelaw06.AlarmList': WHATEVER THE INPUT: true; the input reads as it did. -/
def alarmListSpec : ChangeSpec := { name := "alarmList", fn := fun _ => fun
  | [d] => { results := [.lit (.bool true)], args := [d] }
  | _ => none }
def alarmListRow : OpenClaim := { program := "ytcnifhkgibopbaa", sum := "9058c6387cbc6b7f5c49f8fe3ea96f68213b498c15278985f9125f10a56572d4", func := "chicane/chicanelaw06.AlarmList", spec := "alarmList", unfollowed := true, recurses := true, apart := false }
def AlarmListSaid : Prop := alarmListRow.holds Try.pinned (OpenSpec.ofChange alarmListSpec)

/-- ITS FALSE NEIGHBOUR: 'it returns false'. Refute it at one input. -/
def alarmListWrong : ChangeSpec := { name := "alarmList", fn := fun _ => fun
  | [d] => { results := [.lit (.bool false)], args := [d] }
  | _ => none }
def AlarmListWrongFalsely : Prop := alarmListRow.holds Try.pinned (OpenSpec.ofChange alarmListWrong)

/-- 'chicanelaw06.AlarmCopies': WHATEVER THE INPUT: true; the input reads as it did. -/
def alarmCopiesSpec : ChangeSpec := { name := "alarmCopies", fn := fun _ => fun
  | [d1, d2] => { results := [.lit (.bool true)], args := [d1, d2] }
  | _ => none }
def alarmCopiesRow : OpenClaim := { program := "ytcnifhkgibopbaa", sum := "9058c6387cbc6b7f5c49f8fe3ea96f68213b498c15278985f9125f10a56572d4", func := "chicane/chicanelaw06.AlarmCopies", spec := "alarmCopies", inPlace := ["maps.clone"], unfollowed := true, recurses := true, apart := false }
def AlarmCopiesSaid : Prop := alarmCopiesRow.holds Try.pinned (OpenSpec.ofChange alarmCopiesSpec)

/-- ITS FALSE NEIGHBOUR: 'it returns false'. Refute it at one input. -/
def alarmCopiesWrong : ChangeSpec := { name := "alarmCopies", fn := fun _ => fun
  | [d1, d2] => { results := [.lit (.bool false)], args := [d1, d2] }
  | _ => none }
def AlarmCopiesWrongFalsely : Prop := alarmCopiesRow.holds Try.pinned (OpenSpec.ofChange alarmCopiesWrong)

/- THE SECOND FORM. 'bulk': how many values and letters a reading holds, each counted each time it is reached (what is shared counts as often as it is met; a slice's spare places count too). A statement '..UptoSaid' is the law's where the arguments, and the package variables that the reading takes, are together of bulk at most 1048576: NARROWER than '..Said'. Prove '..Said' where nothing that the law and all that it calls make is longer than what came in: it says more and counts as full. Else prove '..UptoSaid'. A law counts once. -/
mutual
def uptoBulk {H : Type} : DataW H → Nat
  | .lit (.string bytes) => bytes.length + 1
  | .lit _ => 1
  | .nil => 1
  | .ptr d => uptoBulk d + 1
  | .slice elems spare => uptoBulkAll elems + uptoBulkAll spare + 1
  | .agg parts => uptoBulkAll parts + 1
  | .iface _ d => uptoBulk d + 1
  | .map entries => uptoBulkEntries entries + 1
  | .held _ => 1
def uptoBulkAll {H : Type} : List (DataW H) → Nat
  | [] => 0
  | d :: r => uptoBulk d + uptoBulkAll r
def uptoBulkEntries {H : Type} : List (Lit × DataW H) → Nat
  | [] => 0
  | x :: r => uptoBulkEntry x + uptoBulkEntries r
def uptoBulkEntry {H : Type} : Lit × DataW H → Nat
  | (.string bytes, d) => bytes.length + uptoBulk d + 1
  | (_, d) => uptoBulk d + 1
 end
def uptoSmall : (H : Type) → List (DataW H) → Bool := fun _ ds => decide (uptoBulkAll ds ≤ 1048576)
def OpenSpec.upto (s : _root_.Go.ChangeSpec) : _root_.Go.OpenSpec := { _root_.Go.OpenSpec.ofChange s with cond := some uptoSmall }

/-- 'chicanelaw06.AlarmOrder', WHERE WHAT IT READS IS OF BULK AT MOST 1048576: true; the input reads as it did. -/
def alarmOrderUptoRow : OpenClaim := { program := "ytcnifhkgibopbaa", sum := "9058c6387cbc6b7f5c49f8fe3ea96f68213b498c15278985f9125f10a56572d4", func := "chicane/chicanelaw06.AlarmOrder", spec := "alarmOrder", apart := false, narrowed := true }
def AlarmOrderUptoSaid : Prop := alarmOrderUptoRow.holds Try.pinned (OpenSpec.upto alarmOrderSpec)

/-- 'chicanelaw06.AlarmNext', WHERE WHAT IT READS IS OF BULK AT MOST 1048576: true; the input reads as it did. -/
def alarmNextUptoRow : OpenClaim := { program := "ytcnifhkgibopbaa", sum := "9058c6387cbc6b7f5c49f8fe3ea96f68213b498c15278985f9125f10a56572d4", func := "chicane/chicanelaw06.AlarmNext", spec := "alarmNext", apart := false, narrowed := true }
def AlarmNextUptoSaid : Prop := alarmNextUptoRow.holds Try.pinned (OpenSpec.upto alarmNextSpec)

/-- 'chicanelaw06.AlarmAll', WHERE WHAT IT READS IS OF BULK AT MOST 1048576: true; the input reads as it did. -/
def alarmAllUptoRow : OpenClaim := { program := "ytcnifhkgibopbaa", sum := "9058c6387cbc6b7f5c49f8fe3ea96f68213b498c15278985f9125f10a56572d4", func := "chicane/chicanelaw06.AlarmAll", spec := "alarmAll", unfollowed := true, recurses := true, apart := false, narrowed := true }
def AlarmAllUptoSaid : Prop := alarmAllUptoRow.holds Try.pinned (OpenSpec.upto alarmAllSpec)

/-- 'chicanelaw06.AlarmSteps', WHERE WHAT IT READS IS OF BULK AT MOST 1048576: true; the input reads as it did. -/
def alarmStepsUptoRow : OpenClaim := { program := "ytcnifhkgibopbaa", sum := "9058c6387cbc6b7f5c49f8fe3ea96f68213b498c15278985f9125f10a56572d4", func := "chicane/chicanelaw06.AlarmSteps", spec := "alarmSteps", unfollowed := true, recurses := true, apart := false, narrowed := true }
def AlarmStepsUptoSaid : Prop := alarmStepsUptoRow.holds Try.pinned (OpenSpec.upto alarmStepsSpec)

/-- 'chicanelaw06.AlarmMoves', WHERE WHAT IT READS IS OF BULK AT MOST 1048576: true; the input reads as it did. -/
def alarmMovesUptoRow : OpenClaim := { program := "ytcnifhkgibopbaa", sum := "9058c6387cbc6b7f5c49f8fe3ea96f68213b498c15278985f9125f10a56572d4", func := "chicane/chicanelaw06.AlarmMoves", spec := "alarmMoves", unfollowed := true, recurses := true, apart := false, narrowed := true }
def AlarmMovesUptoSaid : Prop := alarmMovesUptoRow.holds Try.pinned (OpenSpec.upto alarmMovesSpec)

/-- 'chicanelaw06.AlarmList', WHERE WHAT IT READS IS OF BULK AT MOST 1048576: true; the input reads as it did. -/
def alarmListUptoRow : OpenClaim := { program := "ytcnifhkgibopbaa", sum := "9058c6387cbc6b7f5c49f8fe3ea96f68213b498c15278985f9125f10a56572d4", func := "chicane/chicanelaw06.AlarmList", spec := "alarmList", unfollowed := true, recurses := true, apart := false, narrowed := true }
def AlarmListUptoSaid : Prop := alarmListUptoRow.holds Try.pinned (OpenSpec.upto alarmListSpec)

/-- 'chicanelaw06.AlarmCopies', WHERE WHAT IT READS IS OF BULK AT MOST 1048576: true; the input reads as it did. -/
def alarmCopiesUptoRow : OpenClaim := { program := "ytcnifhkgibopbaa", sum := "9058c6387cbc6b7f5c49f8fe3ea96f68213b498c15278985f9125f10a56572d4", func := "chicane/chicanelaw06.AlarmCopies", spec := "alarmCopies", inPlace := ["maps.clone"], unfollowed := true, recurses := true, apart := false, narrowed := true }
def AlarmCopiesUptoSaid : Prop := alarmCopiesUptoRow.holds Try.pinned (OpenSpec.upto alarmCopiesSpec)

end Rows
end Go.Proofs.Ytcnifhkgibopbaa
