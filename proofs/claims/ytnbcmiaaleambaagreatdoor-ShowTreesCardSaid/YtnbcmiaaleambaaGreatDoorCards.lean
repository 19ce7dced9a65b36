/-
  DERIVED. GIVEN WITH THE SEED: THE CARDS: each row of YtnbcmiaaleambaaGreatDoorRows.lean that lists a variable, with what it lists TIED to the program's text (the seventh form; the later family's looks); each row that meets fmt, with fmt's text TOLD by the authors' own Lean function (tested against real Go, not proved from fmt's source: count such statements apart). THE CARD IS WHAT COUNTS. Prove the row's statement (the work); the ties are given (YtnbcmiaaleambaaGreatDoorTie.lean); close each card by the builder's one call (the guide's Derived/Test/ToyasCard.lean, 'card_holds'). Laid BY PROGRAM, IN A SANDBOX (cutbox-door.mjs). By AI agents, Wed Nov 11 2026. No macro, syntax, notation, axiom, sorry.
-/
import Derived.Test.YtnbcmiaaleambaaGreatDoorRows
import GoSem.ClaimSeven
namespace Go.Proofs.YtnbcmiaaleambaaGreatDoor
namespace Rows

/-- THE TIED CARD OF 'kurganlaw34.ShowTrees'. -/
def showTreesCard : Claim7 := { stood := { row := showTreesRow, standIns := [], harness := (true, "d479a0f91f0b3e43ba57be3daff256ff5c82638988e88f7738f9a140423c5923"), looks := false }, kinds := [], alts := [], laidByText := true, laidKinds := [.data, .data, .data], laidTests := true, laidLooks := .later }
def ShowTreesCardSaid : Prop := Claim7.holds Tryz.pinned (.plain (OpenSpec.ofChange showTreesSpec)) showTreesCard

/-- THE SECOND FORM's CARD OF 'kurganlaw34.ShowTrees'. -/
def showTreesUptoCard : Claim7 := { stood := { row := showTreesUptoRow, standIns := [], harness := (true, "d479a0f91f0b3e43ba57be3daff256ff5c82638988e88f7738f9a140423c5923"), looks := false }, kinds := [], alts := [], laidByText := true, laidKinds := [.data, .data, .data], laidTests := true, laidLooks := .later }
def ShowTreesUptoCardSaid : Prop := Claim7.holds Tryz.pinned (.plain (OpenSpec.upto showTreesSpec)) showTreesUptoCard
end Rows
end Go.Proofs.YtnbcmiaaleambaaGreatDoor
