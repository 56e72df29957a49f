/-
  DERIVED. GIVEN WITH THE SEED: THE CARDS: each row of YtlglbpjccpdloaaGreatDoorRows.lean that lists a variable, with what it lists TIED to the program's text (the seventh form; the later family's looks); each row that meets fmt, with fmt's text TOLD by the authors' own Lean function (tested against real Go, not proved from fmt's source: count such statements apart). THE CARD IS WHAT COUNTS. Prove the row's statement (the work); the ties are given (YtlglbpjccpdloaaGreatDoorTie.lean); close each card by the builder's one call (the guide's Derived/Test/ToyasCard.lean, 'card_holds'). Laid BY PROGRAM, IN A SANDBOX (cutbox-door.mjs). By AI agents, Wed Nov 11 2026. No macro, syntax, notation, axiom, sorry.
-/
import Derived.Test.YtlglbpjccpdloaaGreatDoorRows
import GoSem.ClaimSeven
namespace Go.Proofs.YtlglbpjccpdloaaGreatDoor
namespace Rows

/-- THE TIED CARD OF 'chicanelaw16.OrderRows'. -/
def orderRowsCard : Claim7 := { stood := { row := orderRowsRow, standIns := [], harness := (true, "85f09b71a7ab690d0f24d1da2b5903ee9800bbabff87712d2e3dd9160d8e756f"), looks := true }, kinds := [], alts := [], laidByText := true, laidKinds := [.data, .listed, .data, .pinned], laidTests := true, laidLooks := .later }
def OrderRowsCardSaid : Prop := Claim7.holds Tryz.pinned (.plain (OpenSpec.ofChange orderRowsSpec)) orderRowsCard

/-- THE TIED CARD OF 'chicanelaw16.OrderWrites'. -/
def orderWritesCard : Claim7 := { stood := { row := orderWritesRow, standIns := [], harness := (true, "85f09b71a7ab690d0f24d1da2b5903ee9800bbabff87712d2e3dd9160d8e756f"), looks := true }, kinds := [], alts := [], laidByText := true, laidKinds := [.data, .listed, .data, .pinned], laidTests := true, laidLooks := .later }
def OrderWritesCardSaid : Prop := Claim7.holds Tryz.pinned (.plain (OpenSpec.ofChange orderWritesSpec)) orderWritesCard

/-- THE TIED CARD OF 'chicanelaw16.OrderBack'. -/
def orderBackCard : Claim7 := { stood := { row := orderBackRow, standIns := [], harness := (true, "85f09b71a7ab690d0f24d1da2b5903ee9800bbabff87712d2e3dd9160d8e756f"), looks := true }, kinds := [], alts := [], laidByText := true, laidKinds := [.data, .listed, .data, .pinned], laidTests := true, laidLooks := .later }
def OrderBackCardSaid : Prop := Claim7.holds Tryz.pinned (.plain (OpenSpec.ofChange orderBackSpec)) orderBackCard

/-- THE TIED CARD OF 'chicanelaw16.OrderOnce'. -/
def orderOnceCard : Claim7 := { stood := { row := orderOnceRow, standIns := [], harness := (true, "85f09b71a7ab690d0f24d1da2b5903ee9800bbabff87712d2e3dd9160d8e756f"), looks := true }, kinds := [], alts := [], laidByText := true, laidKinds := [.data, .listed, .data, .pinned], laidTests := true, laidLooks := .later }
def OrderOnceCardSaid : Prop := Claim7.holds Tryz.pinned (.plain (OpenSpec.ofChange orderOnceSpec)) orderOnceCard

/-- THE TIED CARD OF 'chicanelaw16.OrderVerbs'. -/
def orderVerbsCard : Claim7 := { stood := { row := orderVerbsRow, standIns := [], harness := (true, "85f09b71a7ab690d0f24d1da2b5903ee9800bbabff87712d2e3dd9160d8e756f"), looks := true }, kinds := [], alts := [], laidByText := true, laidKinds := [.data, .listed, .data, .pinned], laidTests := true, laidLooks := .later }
def OrderVerbsCardSaid : Prop := Claim7.holds Tryz.pinned (.plain (OpenSpec.ofChange orderVerbsSpec)) orderVerbsCard

/-- THE SECOND FORM's CARD OF 'chicanelaw16.OrderRows'. -/
def orderRowsUptoCard : Claim7 := { stood := { row := orderRowsUptoRow, standIns := [], harness := (true, "85f09b71a7ab690d0f24d1da2b5903ee9800bbabff87712d2e3dd9160d8e756f"), looks := true }, kinds := [], alts := [], laidByText := true, laidKinds := [.data, .listed, .data, .pinned], laidTests := true, laidLooks := .later }
def OrderRowsUptoCardSaid : Prop := Claim7.holds Tryz.pinned (.plain (OpenSpec.upto orderRowsSpec)) orderRowsUptoCard

/-- THE SECOND FORM's CARD OF 'chicanelaw16.OrderWrites'. -/
def orderWritesUptoCard : Claim7 := { stood := { row := orderWritesUptoRow, standIns := [], harness := (true, "85f09b71a7ab690d0f24d1da2b5903ee9800bbabff87712d2e3dd9160d8e756f"), looks := true }, kinds := [], alts := [], laidByText := true, laidKinds := [.data, .listed, .data, .pinned], laidTests := true, laidLooks := .later }
def OrderWritesUptoCardSaid : Prop := Claim7.holds Tryz.pinned (.plain (OpenSpec.upto orderWritesSpec)) orderWritesUptoCard

/-- THE SECOND FORM's CARD OF 'chicanelaw16.OrderBack'. -/
def orderBackUptoCard : Claim7 := { stood := { row := orderBackUptoRow, standIns := [], harness := (true, "85f09b71a7ab690d0f24d1da2b5903ee9800bbabff87712d2e3dd9160d8e756f"), looks := true }, kinds := [], alts := [], laidByText := true, laidKinds := [.data, .listed, .data, .pinned], laidTests := true, laidLooks := .later }
def OrderBackUptoCardSaid : Prop := Claim7.holds Tryz.pinned (.plain (OpenSpec.upto orderBackSpec)) orderBackUptoCard

/-- THE SECOND FORM's CARD OF 'chicanelaw16.OrderOnce'. -/
def orderOnceUptoCard : Claim7 := { stood := { row := orderOnceUptoRow, standIns := [], harness := (true, "85f09b71a7ab690d0f24d1da2b5903ee9800bbabff87712d2e3dd9160d8e756f"), looks := true }, kinds := [], alts := [], laidByText := true, laidKinds := [.data, .listed, .data, .pinned], laidTests := true, laidLooks := .later }
def OrderOnceUptoCardSaid : Prop := Claim7.holds Tryz.pinned (.plain (OpenSpec.upto orderOnceSpec)) orderOnceUptoCard

/-- THE SECOND FORM's CARD OF 'chicanelaw16.OrderVerbs'. -/
def orderVerbsUptoCard : Claim7 := { stood := { row := orderVerbsUptoRow, standIns := [], harness := (true, "85f09b71a7ab690d0f24d1da2b5903ee9800bbabff87712d2e3dd9160d8e756f"), looks := true }, kinds := [], alts := [], laidByText := true, laidKinds := [.data, .listed, .data, .pinned], laidTests := true, laidLooks := .later }
def OrderVerbsUptoCardSaid : Prop := Claim7.holds Tryz.pinned (.plain (OpenSpec.upto orderVerbsSpec)) orderVerbsUptoCard
end Rows
end Go.Proofs.YtlglbpjccpdloaaGreatDoor
