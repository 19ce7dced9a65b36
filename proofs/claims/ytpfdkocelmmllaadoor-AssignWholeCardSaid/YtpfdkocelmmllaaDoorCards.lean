/-
  DERIVED. GIVEN WITH THE SEED: THE CARDS: each row of YtpfdkocelmmllaaDoorRows.lean that lists a variable, with what it lists TIED to the program's text (the seventh form; the later family's looks); each row that meets fmt, with fmt's text TOLD by the authors' own Lean function (tested against real Go, not proved from fmt's source: count such statements apart). THE CARD IS WHAT COUNTS. Prove the row's statement (the work); the ties are given (YtpfdkocelmmllaaDoorTie.lean); close each card by the builder's one call (the guide's Derived/Test/ToyasCard.lean, 'card_holds'). Laid BY PROGRAM, IN A SANDBOX (cutbox-door.mjs). By AI agents, Wed Nov 11 2026. No macro, syntax, notation, axiom, sorry.
-/
import Derived.Test.YtpfdkocelmmllaaDoorRows
import GoSem.ClaimSeven
namespace Go.Proofs.YtpfdkocelmmllaaDoor
namespace Rows

/-- THE TIED CARD OF 'kurganlaw12.AssignBounds'. -/
def assignBoundsCard : Claim7 := { stood := { row := assignBoundsRow, standIns := [], harness := (true, "f24a2018956590b2a538b93474382e470a4845938311625acff7f9818364da1f"), looks := false }, kinds := [], alts := [], laidByText := true, laidKinds := [.data], laidTests := true, laidLooks := .later }
def AssignBoundsCardSaid : Prop := Claim7.holds Tryd.pinned (.plain (OpenSpec.ofChange assignBoundsSpec)) assignBoundsCard

/-- THE TIED CARD OF 'kurganlaw12.AssignNews'. -/
def assignNewsCard : Claim7 := { stood := { row := assignNewsRow, standIns := [], harness := (true, "f24a2018956590b2a538b93474382e470a4845938311625acff7f9818364da1f"), looks := false }, kinds := [], alts := [], laidByText := true, laidKinds := [.data], laidTests := true, laidLooks := .later }
def AssignNewsCardSaid : Prop := Claim7.holds Tryd.pinned (.plain (OpenSpec.ofChange assignNewsSpec)) assignNewsCard

/-- THE TIED CARD OF 'kurganlaw12.AssignKids'. -/
def assignKidsCard : Claim7 := { stood := { row := assignKidsRow, standIns := [], harness := (true, "f24a2018956590b2a538b93474382e470a4845938311625acff7f9818364da1f"), looks := false }, kinds := [], alts := [], laidByText := true, laidKinds := [.data], laidTests := true, laidLooks := .later }
def AssignKidsCardSaid : Prop := Claim7.holds Tryd.pinned (.plain (OpenSpec.ofChange assignKidsSpec)) assignKidsCard

/-- THE TIED CARD OF 'kurganlaw12.AssignBelow'. -/
def assignBelowCard : Claim7 := { stood := { row := assignBelowRow, standIns := [], harness := (true, "f24a2018956590b2a538b93474382e470a4845938311625acff7f9818364da1f"), looks := false }, kinds := [], alts := [], laidByText := true, laidKinds := [.data], laidTests := true, laidLooks := .later }
def AssignBelowCardSaid : Prop := Claim7.holds Tryd.pinned (.plain (OpenSpec.ofChange assignBelowSpec)) assignBelowCard

/-- THE TIED CARD OF 'kurganlaw12.AssignWhole'. -/
def assignWholeCard : Claim7 := { stood := { row := assignWholeRow, standIns := [], harness := (true, "f24a2018956590b2a538b93474382e470a4845938311625acff7f9818364da1f"), looks := false }, kinds := [], alts := [], laidByText := true, laidKinds := [.data], laidTests := true, laidLooks := .later }
def AssignWholeCardSaid : Prop := Claim7.holds Tryd.pinned (.plain (OpenSpec.ofChange assignWholeSpec)) assignWholeCard

/-- THE SECOND FORM's CARD OF 'kurganlaw12.AssignBounds'. -/
def assignBoundsUptoCard : Claim7 := { stood := { row := assignBoundsUptoRow, standIns := [], harness := (true, "f24a2018956590b2a538b93474382e470a4845938311625acff7f9818364da1f"), looks := false }, kinds := [], alts := [], laidByText := true, laidKinds := [.data], laidTests := true, laidLooks := .later }
def AssignBoundsUptoCardSaid : Prop := Claim7.holds Tryd.pinned (.plain (OpenSpec.upto assignBoundsSpec)) assignBoundsUptoCard

/-- THE SECOND FORM's CARD OF 'kurganlaw12.AssignNews'. -/
def assignNewsUptoCard : Claim7 := { stood := { row := assignNewsUptoRow, standIns := [], harness := (true, "f24a2018956590b2a538b93474382e470a4845938311625acff7f9818364da1f"), looks := false }, kinds := [], alts := [], laidByText := true, laidKinds := [.data], laidTests := true, laidLooks := .later }
def AssignNewsUptoCardSaid : Prop := Claim7.holds Tryd.pinned (.plain (OpenSpec.upto assignNewsSpec)) assignNewsUptoCard

/-- THE SECOND FORM's CARD OF 'kurganlaw12.AssignKids'. -/
def assignKidsUptoCard : Claim7 := { stood := { row := assignKidsUptoRow, standIns := [], harness := (true, "f24a2018956590b2a538b93474382e470a4845938311625acff7f9818364da1f"), looks := false }, kinds := [], alts := [], laidByText := true, laidKinds := [.data], laidTests := true, laidLooks := .later }
def AssignKidsUptoCardSaid : Prop := Claim7.holds Tryd.pinned (.plain (OpenSpec.upto assignKidsSpec)) assignKidsUptoCard

/-- THE SECOND FORM's CARD OF 'kurganlaw12.AssignBelow'. -/
def assignBelowUptoCard : Claim7 := { stood := { row := assignBelowUptoRow, standIns := [], harness := (true, "f24a2018956590b2a538b93474382e470a4845938311625acff7f9818364da1f"), looks := false }, kinds := [], alts := [], laidByText := true, laidKinds := [.data], laidTests := true, laidLooks := .later }
def AssignBelowUptoCardSaid : Prop := Claim7.holds Tryd.pinned (.plain (OpenSpec.upto assignBelowSpec)) assignBelowUptoCard

/-- THE SECOND FORM's CARD OF 'kurganlaw12.AssignWhole'. -/
def assignWholeUptoCard : Claim7 := { stood := { row := assignWholeUptoRow, standIns := [], harness := (true, "f24a2018956590b2a538b93474382e470a4845938311625acff7f9818364da1f"), looks := false }, kinds := [], alts := [], laidByText := true, laidKinds := [.data], laidTests := true, laidLooks := .later }
def AssignWholeUptoCardSaid : Prop := Claim7.holds Tryd.pinned (.plain (OpenSpec.upto assignWholeSpec)) assignWholeUptoCard
end Rows
end Go.Proofs.YtpfdkocelmmllaaDoor
