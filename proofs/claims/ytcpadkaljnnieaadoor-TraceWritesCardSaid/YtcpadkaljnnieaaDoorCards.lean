/-
  DERIVED. GIVEN WITH THE SEED: THE CARDS: each row of YtcpadkaljnnieaaDoorRows.lean that lists a variable, with what it lists TIED to the program's text (the seventh form; the later family's looks); each row that meets fmt, with fmt's text TOLD by the authors' own Lean function (tested against real Go, not proved from fmt's source: count such statements apart). THE CARD IS WHAT COUNTS. Prove the row's statement (the work); the ties are given (YtcpadkaljnnieaaDoorTie.lean); close each card by the builder's one call (the guide's Derived/Test/ToyasCard.lean, 'card_holds'). Laid BY PROGRAM, IN A SANDBOX (cutbox-door.mjs). By AI agents, Wed Nov 11 2026. No macro, syntax, notation, axiom, sorry.
-/
import Derived.Test.YtcpadkaljnnieaaDoorRows
import GoSem.ClaimSeven
namespace Go.Proofs.YtcpadkaljnnieaaDoor
namespace Rows

/-- THE TIED CARD OF 'kurganlaw33.TraceWrites'. -/
def traceWritesCard : Claim7 := { stood := { row := traceWritesRow, standIns := [], harness := (true, "603526ef7f7f796f1eede86c3a680dc113911230b095ff9d1638182e5d99ee72"), looks := false }, kinds := [], alts := [], laidByText := true, laidKinds := [.data, .data, .data, .data, .pinned], laidTests := true, laidLooks := .later }
def TraceWritesCardSaid : Prop := Claim7.holds Tryd.pinned (.plain (OpenSpec.ofChange traceWritesSpec)) traceWritesCard

/-- THE TIED CARD OF 'kurganlaw33.TraceCounts'. -/
def traceCountsCard : Claim7 := { stood := { row := traceCountsRow, standIns := [], harness := (true, "603526ef7f7f796f1eede86c3a680dc113911230b095ff9d1638182e5d99ee72"), looks := false }, kinds := [], alts := [], laidByText := true, laidKinds := [.data, .data, .data, .data, .pinned], laidTests := true, laidLooks := .later }
def TraceCountsCardSaid : Prop := Claim7.holds Tryd.pinned (.plain (OpenSpec.ofChange traceCountsSpec)) traceCountsCard

/-- THE SECOND FORM's CARD OF 'kurganlaw33.TraceWrites'. -/
def traceWritesUptoCard : Claim7 := { stood := { row := traceWritesUptoRow, standIns := [], harness := (true, "603526ef7f7f796f1eede86c3a680dc113911230b095ff9d1638182e5d99ee72"), looks := false }, kinds := [], alts := [], laidByText := true, laidKinds := [.data, .data, .data, .data, .pinned], laidTests := true, laidLooks := .later }
def TraceWritesUptoCardSaid : Prop := Claim7.holds Tryd.pinned (.plain (OpenSpec.upto traceWritesSpec)) traceWritesUptoCard

/-- THE SECOND FORM's CARD OF 'kurganlaw33.TraceCounts'. -/
def traceCountsUptoCard : Claim7 := { stood := { row := traceCountsUptoRow, standIns := [], harness := (true, "603526ef7f7f796f1eede86c3a680dc113911230b095ff9d1638182e5d99ee72"), looks := false }, kinds := [], alts := [], laidByText := true, laidKinds := [.data, .data, .data, .data, .pinned], laidTests := true, laidLooks := .later }
def TraceCountsUptoCardSaid : Prop := Claim7.holds Tryd.pinned (.plain (OpenSpec.upto traceCountsSpec)) traceCountsUptoCard
end Rows
end Go.Proofs.YtcpadkaljnnieaaDoor
