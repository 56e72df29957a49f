/-
  No cell of these rows narrows 'for every input' (looked for: loops, veiled, ifaces, maps, wideKeys, modest, calm, conditions, laid).
  DERIVED. THE GIVEN ROWS OF THIS SEAT. 3 by the template 'for every input the law returns true; each argument reads behind the call as it read before'; 0 by the template 'total and deterministic' (their statements: YtlglbpjccpdloaaGreatTotals.lean).
  GIVEN WITH THE SEED: the statements are not yours to turn. If you find one false, say at which input.
  Laid BY PROGRAM, IN A SANDBOX (cutbox-rows.mjs): the forced cells as the released guide's own fill.sh prints them over the translation 3a05deb3a48eadf2… (all of the seat's roots in one cut). By AI agents, Wed Nov 11 2026. No macro, syntax, notation, axiom, sorry.
-/
import Derived.Test.YtlglbpjccpdloaaGreatChecked
import GoSem.Claim
import GoSem.ClaimJoined
import GoSem.ClaimMapViews
import Derived.JoinedTies
import Derived.KernelRfl
namespace Go.Proofs.YtlglbpjccpdloaaGreat
/- THE CELL 'sum', in the pinned program and in every row, IS THE sha256 OF THE DUMP (.gsa) THAT YtlglbpjccpdloaaGreatProg.lean LOADS. Nothing in Lean hashes anything: it is a label: what it is worth is what the hold of that sum in a sandbox is worth. -/
noncomputable def Tryz.pinned : Pinned := { name := "ytlglbpjccpdloaagreat", sum := "3a05deb3a48eadf28db9debd505859fccd963cc976f43afe1394422710178b10", checked := Tryz.checked }
namespace Rows
def none {H : Type} : Left H := { results := [], args := [] }

/-- 'chicanelaw14.NamesAll': WHATEVER THE INPUT: true; the input reads as it did. -/
def namesAllSpec : ChangeSpec := { name := "namesAll", fn := fun _ => fun
  | [d1, d2] => { results := [.lit (.bool true)], args := [d1, d2] }
  | _ => none }
def namesAllRow : OpenClaim := { program := "ytlglbpjccpdloaagreat", sum := "3a05deb3a48eadf28db9debd505859fccd963cc976f43afe1394422710178b10", func := "chicane/chicanelaw14.NamesAll", spec := "namesAll", inPlace := ["internal/bytealg.abigen_runtime_cmpstring", "internal/abi.NoEscape", "internal/bytealg.MakeNoZero"], unfollowed := true, recurses := true, apart := false }
def NamesAllSaid : Prop := namesAllRow.holds Tryz.pinned (OpenSpec.ofChange namesAllSpec)

/-- ITS FALSE NEIGHBOUR: 'it returns false'. Refute it at one input. -/
def namesAllWrong : ChangeSpec := { name := "namesAll", fn := fun _ => fun
  | [d1, d2] => { results := [.lit (.bool false)], args := [d1, d2] }
  | _ => none }
def NamesAllWrongFalsely : Prop := namesAllRow.holds Tryz.pinned (OpenSpec.ofChange namesAllWrong)

/-- 'chicanelaw14.NamesScripts': WHATEVER THE INPUT: true; the input reads as it did. -/
def namesScriptsSpec : ChangeSpec := { name := "namesScripts", fn := fun _ => fun
  | [d] => { results := [.lit (.bool true)], args := [d] }
  | _ => none }
def namesScriptsRow : OpenClaim := { program := "ytlglbpjccpdloaagreat", sum := "3a05deb3a48eadf28db9debd505859fccd963cc976f43afe1394422710178b10", func := "chicane/chicanelaw14.NamesScripts", spec := "namesScripts", inPlace := ["internal/bytealg.abigen_runtime_cmpstring", "internal/abi.NoEscape", "internal/bytealg.MakeNoZero"], unfollowed := true, recurses := true, apart := false }
def NamesScriptsSaid : Prop := namesScriptsRow.holds Tryz.pinned (OpenSpec.ofChange namesScriptsSpec)

/-- ITS FALSE NEIGHBOUR: 'it returns false'. Refute it at one input. -/
def namesScriptsWrong : ChangeSpec := { name := "namesScripts", fn := fun _ => fun
  | [d] => { results := [.lit (.bool false)], args := [d] }
  | _ => none }
def NamesScriptsWrongFalsely : Prop := namesScriptsRow.holds Tryz.pinned (OpenSpec.ofChange namesScriptsWrong)

/-- 'chicanelaw14.NamesOne': WHATEVER THE INPUT: true; the input reads as it did. -/
def namesOneSpec : ChangeSpec := { name := "namesOne", fn := fun _ => fun
  | [d1, d2] => { results := [.lit (.bool true)], args := [d1, d2] }
  | _ => none }
def namesOneRow : OpenClaim := { program := "ytlglbpjccpdloaagreat", sum := "3a05deb3a48eadf28db9debd505859fccd963cc976f43afe1394422710178b10", func := "chicane/chicanelaw14.NamesOne", spec := "namesOne", inPlace := ["internal/bytealg.abigen_runtime_cmpstring", "internal/abi.NoEscape", "internal/bytealg.MakeNoZero"], unfollowed := true, recurses := true, apart := false }
def NamesOneSaid : Prop := namesOneRow.holds Tryz.pinned (OpenSpec.ofChange namesOneSpec)

/-- ITS FALSE NEIGHBOUR: 'it returns false'. Refute it at one input. -/
def namesOneWrong : ChangeSpec := { name := "namesOne", fn := fun _ => fun
  | [d1, d2] => { results := [.lit (.bool false)], args := [d1, d2] }
  | _ => none }
def NamesOneWrongFalsely : Prop := namesOneRow.holds Tryz.pinned (OpenSpec.ofChange namesOneWrong)

/- THE SECOND FORM. 'bulk': how many values and letters a reading holds, each counted each time it is reached (what is shared counts as often as it is met; a slice's spare places count too). A statement '..UptoSaid' is the law's where the arguments, and the package variables that the reading takes, are together of bulk at most 1048576: NARROWER than '..Said'. Prove '..Said' where nothing that the law and all that it calls make is longer than what came in: it says more and counts as full. Else prove '..UptoSaid'. A law counts once. -/
mutual
def uptoBulk {H : Type} : DataW H → Nat
  | .lit (.string bytes) => bytes.length + 1
  | .lit _ => 1
  | .nil => 1
  | .ptr d => uptoBulk d + 1
  | .slice elems spare => uptoBulkAll elems + uptoBulkAll spare + 1
  | .agg parts => uptoBulkAll parts + 1
  | .iface _ d => uptoBulk d + 1
  | .map entries => uptoBulkEntries entries + 1
  | .held _ => 1
def uptoBulkAll {H : Type} : List (DataW H) → Nat
  | [] => 0
  | d :: r => uptoBulk d + uptoBulkAll r
def uptoBulkEntries {H : Type} : List (Lit × DataW H) → Nat
  | [] => 0
  | x :: r => uptoBulkEntry x + uptoBulkEntries r
def uptoBulkEntry {H : Type} : Lit × DataW H → Nat
  | (.string bytes, d) => bytes.length + uptoBulk d + 1
  | (_, d) => uptoBulk d + 1
 end
def uptoSmall : (H : Type) → List (DataW H) → Bool := fun _ ds => decide (uptoBulkAll ds ≤ 1048576)
def OpenSpec.upto (s : _root_.Go.ChangeSpec) : _root_.Go.OpenSpec := { _root_.Go.OpenSpec.ofChange s with cond := some uptoSmall }

/-- 'chicanelaw14.NamesAll', WHERE WHAT IT READS IS OF BULK AT MOST 1048576: true; the input reads as it did. -/
def namesAllUptoRow : OpenClaim := { program := "ytlglbpjccpdloaagreat", sum := "3a05deb3a48eadf28db9debd505859fccd963cc976f43afe1394422710178b10", func := "chicane/chicanelaw14.NamesAll", spec := "namesAll", inPlace := ["internal/bytealg.abigen_runtime_cmpstring", "internal/abi.NoEscape", "internal/bytealg.MakeNoZero"], unfollowed := true, recurses := true, apart := false, narrowed := true }
def NamesAllUptoSaid : Prop := namesAllUptoRow.holds Tryz.pinned (OpenSpec.upto namesAllSpec)

/-- 'chicanelaw14.NamesScripts', WHERE WHAT IT READS IS OF BULK AT MOST 1048576: true; the input reads as it did. -/
def namesScriptsUptoRow : OpenClaim := { program := "ytlglbpjccpdloaagreat", sum := "3a05deb3a48eadf28db9debd505859fccd963cc976f43afe1394422710178b10", func := "chicane/chicanelaw14.NamesScripts", spec := "namesScripts", inPlace := ["internal/bytealg.abigen_runtime_cmpstring", "internal/abi.NoEscape", "internal/bytealg.MakeNoZero"], unfollowed := true, recurses := true, apart := false, narrowed := true }
def NamesScriptsUptoSaid : Prop := namesScriptsUptoRow.holds Tryz.pinned (OpenSpec.upto namesScriptsSpec)

/-- 'chicanelaw14.NamesOne', WHERE WHAT IT READS IS OF BULK AT MOST 1048576: true; the input reads as it did. -/
def namesOneUptoRow : OpenClaim := { program := "ytlglbpjccpdloaagreat", sum := "3a05deb3a48eadf28db9debd505859fccd963cc976f43afe1394422710178b10", func := "chicane/chicanelaw14.NamesOne", spec := "namesOne", inPlace := ["internal/bytealg.abigen_runtime_cmpstring", "internal/abi.NoEscape", "internal/bytealg.MakeNoZero"], unfollowed := true, recurses := true, apart := false, narrowed := true }
def NamesOneUptoSaid : Prop := namesOneUptoRow.holds Tryz.pinned (OpenSpec.upto namesOneSpec)

end Rows
end Go.Proofs.YtlglbpjccpdloaaGreat
