/-
  No cell of these rows narrows 'for every input' (looked for: loops, veiled, ifaces, maps, wideKeys, modest, calm, conditions, laid).
  DERIVED. THE GIVEN ROWS OF THIS SEAT. 4 by the template 'for every input the law returns true; each argument reads behind the call as it read before'; 0 by the template 'total and deterministic' (their statements: YtlglbpjccpdloaaTotals.lean).
  GIVEN WITH THE SEED: the statements are not yours to turn. If you find one false, say at which input.
  Laid BY PROGRAM, IN A SANDBOX (cutbox-rows.mjs): the forced cells as the released guide's own fill.sh prints them over the translation 0a9c73e9443a7398… (all of the seat's roots in one cut). By AI agents, Wed Nov 11 2026. No macro, syntax, notation, axiom, sorry.
-/
import Derived.Test.YtlglbpjccpdloaaChecked
import GoSem.Claim
import GoSem.ClaimJoined
import GoSem.ClaimMapViews
import Derived.JoinedTies
import Derived.KernelRfl
namespace Go.Proofs.Ytlglbpjccpdloaa
/- THE CELL 'sum', in the pinned program and in every row, IS THE sha256 OF THE DUMP (.gsa) THAT YtlglbpjccpdloaaProg.lean LOADS. Nothing in Lean hashes anything: it is a label: what it is worth is what the hold of that sum in a sandbox is worth. -/
noncomputable def Try.pinned : Pinned := { name := "ytlglbpjccpdloaa", sum := "0a9c73e9443a7398d65d56e027ba8bd3f2696686b3cacd43029ab3504678560c", checked := Try.checked }
namespace Rows
def none {H : Type} : Left H := { results := [], args := [] }

/-- 'chicanelaw14.NamesChecks': WHATEVER THE INPUT: true; the input reads as it did. -/
def namesChecksSpec : ChangeSpec := { name := "namesChecks", fn := fun _ => fun
  | [d] => { results := [.lit (.bool true)], args := [d] }
  | _ => none }
def namesChecksRow : OpenClaim := { program := "ytlglbpjccpdloaa", sum := "0a9c73e9443a7398d65d56e027ba8bd3f2696686b3cacd43029ab3504678560c", func := "chicane/chicanelaw14.NamesChecks", spec := "namesChecks", inPlace := ["internal/bytealg.abigen_runtime_cmpstring", "internal/abi.NoEscape", "internal/bytealg.MakeNoZero"], unfollowed := true, recurses := true, apart := false }
def NamesChecksSaid : Prop := namesChecksRow.holds Try.pinned (OpenSpec.ofChange namesChecksSpec)

/-- ITS FALSE NEIGHBOUR: 'it returns false'. Refute it at one input. -/
def namesChecksWrong : ChangeSpec := { name := "namesChecks", fn := fun _ => fun
  | [d] => { results := [.lit (.bool false)], args := [d] }
  | _ => none }
def NamesChecksWrongFalsely : Prop := namesChecksRow.holds Try.pinned (OpenSpec.ofChange namesChecksWrong)

/-- 'chicanelaw14.NamesFinds': WHATEVER THE INPUT: true; the input reads as it did. -/
def namesFindsSpec : ChangeSpec := { name := "namesFinds", fn := fun _ => fun
  | [d1, d2, d3] => { results := [.lit (.bool true)], args := [d1, d2, d3] }
  | _ => none }
def namesFindsRow : OpenClaim := { program := "ytlglbpjccpdloaa", sum := "0a9c73e9443a7398d65d56e027ba8bd3f2696686b3cacd43029ab3504678560c", func := "chicane/chicanelaw14.NamesFinds", spec := "namesFinds", inPlace := ["internal/bytealg.abigen_runtime_cmpstring", "internal/abi.NoEscape", "internal/bytealg.MakeNoZero"], unfollowed := true, recurses := true, apart := false }
def NamesFindsSaid : Prop := namesFindsRow.holds Try.pinned (OpenSpec.ofChange namesFindsSpec)

/-- ITS FALSE NEIGHBOUR: 'it returns false'. Refute it at one input. -/
def namesFindsWrong : ChangeSpec := { name := "namesFinds", fn := fun _ => fun
  | [d1, d2, d3] => { results := [.lit (.bool false)], args := [d1, d2, d3] }
  | _ => none }
def NamesFindsWrongFalsely : Prop := namesFindsRow.holds Try.pinned (OpenSpec.ofChange namesFindsWrong)

/-- 'chicanelaw14.NamesBack': WHATEVER THE INPUT: true; the input reads as it did. -/
def namesBackSpec : ChangeSpec := { name := "namesBack", fn := fun _ => fun
  | [d1, d2, d3] => { results := [.lit (.bool true)], args := [d1, d2, d3] }
  | _ => none }
def namesBackRow : OpenClaim := { program := "ytlglbpjccpdloaa", sum := "0a9c73e9443a7398d65d56e027ba8bd3f2696686b3cacd43029ab3504678560c", func := "chicane/chicanelaw14.NamesBack", spec := "namesBack", inPlace := ["internal/bytealg.abigen_runtime_cmpstring", "internal/abi.NoEscape", "internal/bytealg.MakeNoZero"], unfollowed := true, recurses := true, apart := false }
def NamesBackSaid : Prop := namesBackRow.holds Try.pinned (OpenSpec.ofChange namesBackSpec)

/-- ITS FALSE NEIGHBOUR: 'it returns false'. Refute it at one input. -/
def namesBackWrong : ChangeSpec := { name := "namesBack", fn := fun _ => fun
  | [d1, d2, d3] => { results := [.lit (.bool false)], args := [d1, d2, d3] }
  | _ => none }
def NamesBackWrongFalsely : Prop := namesBackRow.holds Try.pinned (OpenSpec.ofChange namesBackWrong)

/-- 'chicanelaw14.NamesOwn': WHATEVER THE INPUT: true; the input reads as it did. -/
def namesOwnSpec : ChangeSpec := { name := "namesOwn", fn := fun _ => fun
  | [d1, d2] => { results := [.lit (.bool true)], args := [d1, d2] }
  | _ => none }
def namesOwnRow : OpenClaim := { program := "ytlglbpjccpdloaa", sum := "0a9c73e9443a7398d65d56e027ba8bd3f2696686b3cacd43029ab3504678560c", func := "chicane/chicanelaw14.NamesOwn", spec := "namesOwn", inPlace := ["internal/bytealg.abigen_runtime_cmpstring", "internal/abi.NoEscape", "internal/bytealg.MakeNoZero"], unfollowed := true, recurses := true, apart := false }
def NamesOwnSaid : Prop := namesOwnRow.holds Try.pinned (OpenSpec.ofChange namesOwnSpec)

/-- ITS FALSE NEIGHBOUR: 'it returns false'. Refute it at one input. -/
def namesOwnWrong : ChangeSpec := { name := "namesOwn", fn := fun _ => fun
  | [d1, d2] => { results := [.lit (.bool false)], args := [d1, d2] }
  | _ => none }
def NamesOwnWrongFalsely : Prop := namesOwnRow.holds Try.pinned (OpenSpec.ofChange namesOwnWrong)

/- THE SECOND FORM. 'bulk': how many values and letters a reading holds, each counted each time it is reached (what is shared counts as often as it is met; a slice's spare places count too). A statement '..UptoSaid' is the law's where the arguments, and the package variables that the reading takes, are together of bulk at most 1048576: NARROWER than '..Said'. Prove '..Said' where nothing that the law and all that it calls make is longer than what came in: it says more and counts as full. Else prove '..UptoSaid'. A law counts once. -/
mutual
def uptoBulk {H : Type} : DataW H → Nat
  | .lit (.string bytes) => bytes.length + 1
  | .lit _ => 1
  | .nil => 1
  | .ptr d => uptoBulk d + 1
  | .slice elems spare => uptoBulkAll elems + uptoBulkAll spare + 1
  | .agg parts => uptoBulkAll parts + 1
  | .iface _ d => uptoBulk d + 1
  | .map entries => uptoBulkEntries entries + 1
  | .held _ => 1
def uptoBulkAll {H : Type} : List (DataW H) → Nat
  | [] => 0
  | d :: r => uptoBulk d + uptoBulkAll r
def uptoBulkEntries {H : Type} : List (Lit × DataW H) → Nat
  | [] => 0
  | x :: r => uptoBulkEntry x + uptoBulkEntries r
def uptoBulkEntry {H : Type} : Lit × DataW H → Nat
  | (.string bytes, d) => bytes.length + uptoBulk d + 1
  | (_, d) => uptoBulk d + 1
 end
def uptoSmall : (H : Type) → List (DataW H) → Bool := fun _ ds => decide (uptoBulkAll ds ≤ 1048576)
def OpenSpec.upto (s : _root_.Go.ChangeSpec) : _root_.Go.OpenSpec := { _root_.Go.OpenSpec.ofChange s with cond := some uptoSmall }

/-- 'chicanelaw14.NamesChecks', WHERE WHAT IT READS IS OF BULK AT MOST 1048576: true; the input reads as it did. -/
def namesChecksUptoRow : OpenClaim := { program := "ytlglbpjccpdloaa", sum := "0a9c73e9443a7398d65d56e027ba8bd3f2696686b3cacd43029ab3504678560c", func := "chicane/chicanelaw14.NamesChecks", spec := "namesChecks", inPlace := ["internal/bytealg.abigen_runtime_cmpstring", "internal/abi.NoEscape", "internal/bytealg.MakeNoZero"], unfollowed := true, recurses := true, apart := false, narrowed := true }
def NamesChecksUptoSaid : Prop := namesChecksUptoRow.holds Try.pinned (OpenSpec.upto namesChecksSpec)

/-- 'chicanelaw14.NamesFinds', WHERE WHAT IT READS IS OF BULK AT MOST 1048576: true; the input reads as it did. -/
def namesFindsUptoRow : OpenClaim := { program := "ytlglbpjccpdloaa", sum := "0a9c73e9443a7398d65d56e027ba8bd3f2696686b3cacd43029ab3504678560c", func := "chicane/chicanelaw14.NamesFinds", spec := "namesFinds", inPlace := ["internal/bytealg.abigen_runtime_cmpstring", "internal/abi.NoEscape", "internal/bytealg.MakeNoZero"], unfollowed := true, recurses := true, apart := false, narrowed := true }
def NamesFindsUptoSaid : Prop := namesFindsUptoRow.holds Try.pinned (OpenSpec.upto namesFindsSpec)

/-- 'chicanelaw14.NamesBack', WHERE WHAT IT READS IS OF BULK AT MOST 1048576: true; the input reads as it did. -/
def namesBackUptoRow : OpenClaim := { program := "ytlglbpjccpdloaa", sum := "0a9c73e9443a7398d65d56e027ba8bd3f2696686b3cacd43029ab3504678560c", func := "chicane/chicanelaw14.NamesBack", spec := "namesBack", inPlace := ["internal/bytealg.abigen_runtime_cmpstring", "internal/abi.NoEscape", "internal/bytealg.MakeNoZero"], unfollowed := true, recurses := true, apart := false, narrowed := true }
def NamesBackUptoSaid : Prop := namesBackUptoRow.holds Try.pinned (OpenSpec.upto namesBackSpec)

/-- 'chicanelaw14.NamesOwn', WHERE WHAT IT READS IS OF BULK AT MOST 1048576: true; the input reads as it did. -/
def namesOwnUptoRow : OpenClaim := { program := "ytlglbpjccpdloaa", sum := "0a9c73e9443a7398d65d56e027ba8bd3f2696686b3cacd43029ab3504678560c", func := "chicane/chicanelaw14.NamesOwn", spec := "namesOwn", inPlace := ["internal/bytealg.abigen_runtime_cmpstring", "internal/abi.NoEscape", "internal/bytealg.MakeNoZero"], unfollowed := true, recurses := true, apart := false, narrowed := true }
def NamesOwnUptoSaid : Prop := namesOwnUptoRow.holds Try.pinned (OpenSpec.upto namesOwnSpec)

end Rows
end Go.Proofs.Ytlglbpjccpdloaa
