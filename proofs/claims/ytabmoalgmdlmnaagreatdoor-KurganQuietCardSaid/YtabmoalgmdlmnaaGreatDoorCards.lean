/-
  DERIVED. GIVEN WITH THE SEED: THE CARDS: each row of YtabmoalgmdlmnaaGreatDoorRows.lean that lists a variable, with what it lists TIED to the program's text (the seventh form; the later family's looks); each row that meets fmt, with fmt's text TOLD by the authors' own Lean function (tested against real Go, not proved from fmt's source: count such statements apart). THE CARD IS WHAT COUNTS. Prove the row's statement (the work); the ties are given (YtabmoalgmdlmnaaGreatDoorTie.lean); close each card by the builder's one call (the guide's Derived/Test/ToyasCard.lean, 'card_holds'). Laid BY PROGRAM, IN A SANDBOX (cutbox-door.mjs). By AI agents, Wed Nov 11 2026. No macro, syntax, notation, axiom, sorry.
-/
import Derived.Test.YtabmoalgmdlmnaaGreatDoorRows
import GoSem.ClaimSeven
namespace Go.Proofs.YtabmoalgmdlmnaaGreatDoor
namespace Rows

/-- THE TIED CARD OF 'kurgantop.KurganQuiet'. -/
def kurganQuietCard : Claim7 := { stood := { row := kurganQuietRow, standIns := [], harness := (true, "96861a798c438a2f497a7137e91a11312551d13bce25aab4cfc918cf5d18c724"), looks := false }, kinds := [], alts := [], laidByText := true, laidKinds := [.data, .data, .data, .data, .pinned], laidTests := true, laidLooks := .later }
def KurganQuietCardSaid : Prop := Claim7.holds Tryz.pinned (.plain (OpenSpec.ofChange kurganQuietSpec)) kurganQuietCard

/-- THE SECOND FORM's CARD OF 'kurgantop.KurganQuiet'. -/
def kurganQuietUptoCard : Claim7 := { stood := { row := kurganQuietUptoRow, standIns := [], harness := (true, "96861a798c438a2f497a7137e91a11312551d13bce25aab4cfc918cf5d18c724"), looks := false }, kinds := [], alts := [], laidByText := true, laidKinds := [.data, .data, .data, .data, .pinned], laidTests := true, laidLooks := .later }
def KurganQuietUptoCardSaid : Prop := Claim7.holds Tryz.pinned (.plain (OpenSpec.upto kurganQuietSpec)) kurganQuietUptoCard
end Rows
end Go.Proofs.YtabmoalgmdlmnaaGreatDoor
