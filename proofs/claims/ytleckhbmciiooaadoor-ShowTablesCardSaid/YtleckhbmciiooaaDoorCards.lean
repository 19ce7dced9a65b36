/-
  DERIVED. GIVEN WITH THE SEED: THE CARDS: each row of YtleckhbmciiooaaDoorRows.lean that lists a variable, with what it lists TIED to the program's text (the seventh form; the later family's looks); each row that meets fmt, with fmt's text TOLD by the authors' own Lean function (tested against real Go, not proved from fmt's source: count such statements apart). THE CARD IS WHAT COUNTS. Prove the row's statement (the work); the ties are given (YtleckhbmciiooaaDoorTie.lean); close each card by the builder's one call (the guide's Derived/Test/ToyasCard.lean, 'card_holds'). Laid BY PROGRAM, IN A SANDBOX (cutbox-door.mjs). By AI agents, Wed Nov 11 2026. No macro, syntax, notation, axiom, sorry.
-/
import Derived.Test.YtleckhbmciiooaaDoorRows
import GoSem.ClaimSeven
namespace Go.Proofs.YtleckhbmciiooaaDoor
namespace Rows

/-- THE TIED CARD OF 'kurgantop.KurganScales'. -/
def kurganScalesCard : Claim7 := { stood := { row := kurganScalesRow, standIns := [], harness := (true, "3abab0e8ec0c1b9e26104ce842e3f716cb3d44fb2f95744c22d7748a86f8c70f"), looks := false }, kinds := [], alts := [], laidByText := true, laidKinds := [.data], laidTests := true, laidLooks := .later }
def KurganScalesCardSaid : Prop := Claim7.holds Tryd.pinned (.plain (OpenSpec.ofChange kurganScalesSpec)) kurganScalesCard

/-- THE TIED CARD OF 'kurganlaw34.ShowAnswers'. -/
def showAnswersCard : Claim7 := { stood := { row := showAnswersRow, standIns := [], harness := (true, "3abab0e8ec0c1b9e26104ce842e3f716cb3d44fb2f95744c22d7748a86f8c70f"), looks := false }, kinds := [], alts := [], laidByText := true, laidKinds := [.data, .data, .data], laidTests := true, laidLooks := .later }
def ShowAnswersCardSaid : Prop := Claim7.holds Tryd.pinned (.plain (OpenSpec.ofChange showAnswersSpec)) showAnswersCard

/-- THE TIED CARD OF 'kurganlaw34.ShowTables'. -/
def showTablesCard : Claim7 := { stood := { row := showTablesRow, standIns := [], harness := (true, "3abab0e8ec0c1b9e26104ce842e3f716cb3d44fb2f95744c22d7748a86f8c70f"), looks := false }, kinds := [], alts := [], laidByText := true, laidKinds := [.data, .data, .data], laidTests := true, laidLooks := .later }
def ShowTablesCardSaid : Prop := Claim7.holds Tryd.pinned (.plain (OpenSpec.ofChange showTablesSpec)) showTablesCard

/-- THE TIED CARD OF 'kurganlaw33.TraceWrites'. -/
def traceWritesCard : Claim7 := { stood := { row := traceWritesRow, standIns := [], harness := (true, "3abab0e8ec0c1b9e26104ce842e3f716cb3d44fb2f95744c22d7748a86f8c70f"), looks := false }, kinds := [], alts := [], laidByText := true, laidKinds := [.data, .data, .data, .data, .pinned], laidTests := true, laidLooks := .later }
def TraceWritesCardSaid : Prop := Claim7.holds Tryd.pinned (.plain (OpenSpec.ofChange traceWritesSpec)) traceWritesCard

/-- THE TIED CARD OF 'kurganlaw15.ExactTakes'. -/
def exactTakesCard : Claim7 := { stood := { row := exactTakesRow, standIns := [], harness := (true, "3abab0e8ec0c1b9e26104ce842e3f716cb3d44fb2f95744c22d7748a86f8c70f"), looks := false }, kinds := [], alts := [], laidByText := true, laidKinds := [.data], laidTests := true, laidLooks := .later }
def ExactTakesCardSaid : Prop := Claim7.holds Tryd.pinned (.plain (OpenSpec.ofChange exactTakesSpec)) exactTakesCard

/-- THE TIED CARD OF 'kurganlaw15.ExactBest'. -/
def exactBestCard : Claim7 := { stood := { row := exactBestRow, standIns := [], harness := (true, "3abab0e8ec0c1b9e26104ce842e3f716cb3d44fb2f95744c22d7748a86f8c70f"), looks := false }, kinds := [], alts := [], laidByText := true, laidKinds := [.data], laidTests := true, laidLooks := .later }
def ExactBestCardSaid : Prop := Claim7.holds Tryd.pinned (.plain (OpenSpec.ofChange exactBestSpec)) exactBestCard

/-- THE SECOND FORM's CARD OF 'kurgantop.KurganScales'. -/
def kurganScalesUptoCard : Claim7 := { stood := { row := kurganScalesUptoRow, standIns := [], harness := (true, "3abab0e8ec0c1b9e26104ce842e3f716cb3d44fb2f95744c22d7748a86f8c70f"), looks := false }, kinds := [], alts := [], laidByText := true, laidKinds := [.data], laidTests := true, laidLooks := .later }
def KurganScalesUptoCardSaid : Prop := Claim7.holds Tryd.pinned (.plain (OpenSpec.upto kurganScalesSpec)) kurganScalesUptoCard

/-- THE SECOND FORM's CARD OF 'kurganlaw34.ShowAnswers'. -/
def showAnswersUptoCard : Claim7 := { stood := { row := showAnswersUptoRow, standIns := [], harness := (true, "3abab0e8ec0c1b9e26104ce842e3f716cb3d44fb2f95744c22d7748a86f8c70f"), looks := false }, kinds := [], alts := [], laidByText := true, laidKinds := [.data, .data, .data], laidTests := true, laidLooks := .later }
def ShowAnswersUptoCardSaid : Prop := Claim7.holds Tryd.pinned (.plain (OpenSpec.upto showAnswersSpec)) showAnswersUptoCard

/-- THE SECOND FORM's CARD OF 'kurganlaw34.ShowTables'. -/
def showTablesUptoCard : Claim7 := { stood := { row := showTablesUptoRow, standIns := [], harness := (true, "3abab0e8ec0c1b9e26104ce842e3f716cb3d44fb2f95744c22d7748a86f8c70f"), looks := false }, kinds := [], alts := [], laidByText := true, laidKinds := [.data, .data, .data], laidTests := true, laidLooks := .later }
def ShowTablesUptoCardSaid : Prop := Claim7.holds Tryd.pinned (.plain (OpenSpec.upto showTablesSpec)) showTablesUptoCard

/-- THE SECOND FORM's CARD OF 'kurganlaw33.TraceWrites'. -/
def traceWritesUptoCard : Claim7 := { stood := { row := traceWritesUptoRow, standIns := [], harness := (true, "3abab0e8ec0c1b9e26104ce842e3f716cb3d44fb2f95744c22d7748a86f8c70f"), looks := false }, kinds := [], alts := [], laidByText := true, laidKinds := [.data, .data, .data, .data, .pinned], laidTests := true, laidLooks := .later }
def TraceWritesUptoCardSaid : Prop := Claim7.holds Tryd.pinned (.plain (OpenSpec.upto traceWritesSpec)) traceWritesUptoCard

/-- THE SECOND FORM's CARD OF 'kurganlaw15.ExactTakes'. -/
def exactTakesUptoCard : Claim7 := { stood := { row := exactTakesUptoRow, standIns := [], harness := (true, "3abab0e8ec0c1b9e26104ce842e3f716cb3d44fb2f95744c22d7748a86f8c70f"), looks := false }, kinds := [], alts := [], laidByText := true, laidKinds := [.data], laidTests := true, laidLooks := .later }
def ExactTakesUptoCardSaid : Prop := Claim7.holds Tryd.pinned (.plain (OpenSpec.upto exactTakesSpec)) exactTakesUptoCard

/-- THE SECOND FORM's CARD OF 'kurganlaw15.ExactBest'. -/
def exactBestUptoCard : Claim7 := { stood := { row := exactBestUptoRow, standIns := [], harness := (true, "3abab0e8ec0c1b9e26104ce842e3f716cb3d44fb2f95744c22d7748a86f8c70f"), looks := false }, kinds := [], alts := [], laidByText := true, laidKinds := [.data], laidTests := true, laidLooks := .later }
def ExactBestUptoCardSaid : Prop := Claim7.holds Tryd.pinned (.plain (OpenSpec.upto exactBestSpec)) exactBestUptoCard
end Rows
end Go.Proofs.YtleckhbmciiooaaDoor
