/-
  DERIVED. GIVEN WITH THE SEED: THE CARDS: each row of YtocfmioihaefoaaGreatDoorRows.lean that lists a variable, with what it lists TIED to the program's text (the seventh form; the later family's looks); each row that meets fmt, with fmt's text TOLD by the authors' own Lean function (tested against real Go, not proved from fmt's source: count such statements apart). THE CARD IS WHAT COUNTS. Prove the row's statement (the work); the ties are given (YtocfmioihaefoaaGreatDoorTie.lean); close each card by the builder's one call (the guide's Derived/Test/ToyasCard.lean, 'card_holds'). Laid BY PROGRAM, IN A SANDBOX (cutbox-door.mjs). By AI agents, Wed Nov 11 2026. No macro, syntax, notation, axiom, sorry.
-/
import Derived.Test.YtocfmioihaefoaaGreatDoorRows
import GoSem.ClaimSeven
namespace Go.Proofs.YtocfmioihaefoaaGreatDoor
namespace Rows

/-- THE TIED CARD OF 'kurganlaw32.ShellWrites'. -/
def shellWritesCard : Claim7 := { stood := { row := shellWritesRow, standIns := [], harness := (true, "bd1d271e42d8e5f693b179953133067265487a63bfea799fbc4074d6b92818d6"), looks := false }, kinds := [], alts := [], laidByText := true, laidKinds := [.data, .data, .data, .data, .pinned], laidTests := true, laidLooks := .later }
def ShellWritesCardSaid : Prop := Claim7.holds Tryz.pinned (.plain (OpenSpec.ofChange shellWritesSpec)) shellWritesCard

/-- THE SECOND FORM's CARD OF 'kurganlaw32.ShellWrites'. -/
def shellWritesUptoCard : Claim7 := { stood := { row := shellWritesUptoRow, standIns := [], harness := (true, "bd1d271e42d8e5f693b179953133067265487a63bfea799fbc4074d6b92818d6"), looks := false }, kinds := [], alts := [], laidByText := true, laidKinds := [.data, .data, .data, .data, .pinned], laidTests := true, laidLooks := .later }
def ShellWritesUptoCardSaid : Prop := Claim7.holds Tryz.pinned (.plain (OpenSpec.upto shellWritesSpec)) shellWritesUptoCard
end Rows
end Go.Proofs.YtocfmioihaefoaaGreatDoor
