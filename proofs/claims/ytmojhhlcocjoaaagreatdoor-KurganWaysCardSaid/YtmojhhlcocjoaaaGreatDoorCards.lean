/-
  DERIVED. GIVEN WITH THE SEED: THE CARDS: each row of YtmojhhlcocjoaaaGreatDoorRows.lean that lists a variable, with what it lists TIED to the program's text (the seventh form; the later family's looks); each row that meets fmt, with fmt's text TOLD by the authors' own Lean function (tested against real Go, not proved from fmt's source: count such statements apart). THE CARD IS WHAT COUNTS. Prove the row's statement (the work); the ties are given (YtmojhhlcocjoaaaGreatDoorTie.lean); close each card by the builder's one call (the guide's Derived/Test/ToyasCard.lean, 'card_holds'). Laid BY PROGRAM, IN A SANDBOX (cutbox-door.mjs). By AI agents, Wed Nov 11 2026. No macro, syntax, notation, axiom, sorry.
-/
import Derived.Test.YtmojhhlcocjoaaaGreatDoorRows
import GoSem.ClaimSeven
namespace Go.Proofs.YtmojhhlcocjoaaaGreatDoor
namespace Rows

/-- THE TIED CARD OF 'kurgantop.KurganWays'. -/
def kurganWaysCard : Claim7 := { stood := { row := kurganWaysRow, standIns := [], harness := (true, "f841f89e65f1ec5d5b0f4fa108d30c6ba3ab39a7bc010262aa611b241370978c"), looks := false }, kinds := [], alts := [], laidByText := true, laidKinds := [.data], laidTests := true, laidLooks := .later }
def KurganWaysCardSaid : Prop := Claim7.holds Tryz.pinned (.plain (OpenSpec.ofChange kurganWaysSpec)) kurganWaysCard

/-- THE TIED CARD OF 'kurganlaw34.ShowLines'. -/
def showLinesCard : Claim7 := { stood := { row := showLinesRow, standIns := [], harness := (true, "f841f89e65f1ec5d5b0f4fa108d30c6ba3ab39a7bc010262aa611b241370978c"), looks := false }, kinds := [], alts := [], laidByText := true, laidKinds := [.data, .data, .data], laidTests := true, laidLooks := .later }
def ShowLinesCardSaid : Prop := Claim7.holds Tryz.pinned (.plain (OpenSpec.ofChange showLinesSpec)) showLinesCard

/-- THE TIED CARD OF 'kurganlaw15.ExactSearch'. -/
def exactSearchCard : Claim7 := { stood := { row := exactSearchRow, standIns := [], harness := (true, "f841f89e65f1ec5d5b0f4fa108d30c6ba3ab39a7bc010262aa611b241370978c"), looks := false }, kinds := [], alts := [], laidByText := true, laidKinds := [.data], laidTests := true, laidLooks := .later }
def ExactSearchCardSaid : Prop := Claim7.holds Tryz.pinned (.plain (OpenSpec.ofChange exactSearchSpec)) exactSearchCard

/-- THE TIED CARD OF 'kurganlaw31.CheckBent'. -/
def checkBentCard : Claim7 := { stood := { row := checkBentRow, standIns := [], harness := (true, "f841f89e65f1ec5d5b0f4fa108d30c6ba3ab39a7bc010262aa611b241370978c"), looks := false }, kinds := [], alts := [], laidByText := true, laidKinds := [.data], laidTests := true, laidLooks := .later }
def CheckBentCardSaid : Prop := Claim7.holds Tryz.pinned (.plain (OpenSpec.ofChange checkBentSpec)) checkBentCard

/-- THE TIED CARD OF 'kurganlaw34.ShowTrees'. -/
def showTreesCard : Claim7 := { stood := { row := showTreesRow, standIns := [], harness := (true, "f841f89e65f1ec5d5b0f4fa108d30c6ba3ab39a7bc010262aa611b241370978c"), looks := false }, kinds := [], alts := [], laidByText := true, laidKinds := [.data, .data, .data], laidTests := true, laidLooks := .later }
def ShowTreesCardSaid : Prop := Claim7.holds Tryz.pinned (.plain (OpenSpec.ofChange showTreesSpec)) showTreesCard

/-- THE SECOND FORM's CARD OF 'kurgantop.KurganWays'. -/
def kurganWaysUptoCard : Claim7 := { stood := { row := kurganWaysUptoRow, standIns := [], harness := (true, "f841f89e65f1ec5d5b0f4fa108d30c6ba3ab39a7bc010262aa611b241370978c"), looks := false }, kinds := [], alts := [], laidByText := true, laidKinds := [.data], laidTests := true, laidLooks := .later }
def KurganWaysUptoCardSaid : Prop := Claim7.holds Tryz.pinned (.plain (OpenSpec.upto kurganWaysSpec)) kurganWaysUptoCard

/-- THE SECOND FORM's CARD OF 'kurganlaw34.ShowLines'. -/
def showLinesUptoCard : Claim7 := { stood := { row := showLinesUptoRow, standIns := [], harness := (true, "f841f89e65f1ec5d5b0f4fa108d30c6ba3ab39a7bc010262aa611b241370978c"), looks := false }, kinds := [], alts := [], laidByText := true, laidKinds := [.data, .data, .data], laidTests := true, laidLooks := .later }
def ShowLinesUptoCardSaid : Prop := Claim7.holds Tryz.pinned (.plain (OpenSpec.upto showLinesSpec)) showLinesUptoCard

/-- THE SECOND FORM's CARD OF 'kurganlaw15.ExactSearch'. -/
def exactSearchUptoCard : Claim7 := { stood := { row := exactSearchUptoRow, standIns := [], harness := (true, "f841f89e65f1ec5d5b0f4fa108d30c6ba3ab39a7bc010262aa611b241370978c"), looks := false }, kinds := [], alts := [], laidByText := true, laidKinds := [.data], laidTests := true, laidLooks := .later }
def ExactSearchUptoCardSaid : Prop := Claim7.holds Tryz.pinned (.plain (OpenSpec.upto exactSearchSpec)) exactSearchUptoCard

/-- THE SECOND FORM's CARD OF 'kurganlaw31.CheckBent'. -/
def checkBentUptoCard : Claim7 := { stood := { row := checkBentUptoRow, standIns := [], harness := (true, "f841f89e65f1ec5d5b0f4fa108d30c6ba3ab39a7bc010262aa611b241370978c"), looks := false }, kinds := [], alts := [], laidByText := true, laidKinds := [.data], laidTests := true, laidLooks := .later }
def CheckBentUptoCardSaid : Prop := Claim7.holds Tryz.pinned (.plain (OpenSpec.upto checkBentSpec)) checkBentUptoCard

/-- THE SECOND FORM's CARD OF 'kurganlaw34.ShowTrees'. -/
def showTreesUptoCard : Claim7 := { stood := { row := showTreesUptoRow, standIns := [], harness := (true, "f841f89e65f1ec5d5b0f4fa108d30c6ba3ab39a7bc010262aa611b241370978c"), looks := false }, kinds := [], alts := [], laidByText := true, laidKinds := [.data, .data, .data], laidTests := true, laidLooks := .later }
def ShowTreesUptoCardSaid : Prop := Claim7.holds Tryz.pinned (.plain (OpenSpec.upto showTreesSpec)) showTreesUptoCard
end Rows
end Go.Proofs.YtmojhhlcocjoaaaGreatDoor
