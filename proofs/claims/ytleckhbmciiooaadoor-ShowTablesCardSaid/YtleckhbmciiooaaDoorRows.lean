/-
  NARROWER THAN 'FOR EVERY INPUT', by the rows' own cells (each row's printed sentence says how): KurganScales: laid · ShowAnswers: laid · ShowTables: laid · TraceWrites: laid · ExactTakes: laid · ExactBest: laid.
  DERIVED. THE GIVEN ROWS OF THIS SEAT. 6 by the template 'for every input the law returns true; each argument reads behind the call as it read before'; 0 by the template 'total and deterministic' (their statements: YtleckhbmciiooaaDoorTotals.lean).
  GIVEN WITH THE SEED: the statements are not yours to turn. If you find one false, say at which input.
  Laid BY PROGRAM, IN A SANDBOX (cutbox-rows.mjs): the forced cells as the released guide's own fill.sh prints them over the translation 61c07268a72f3d81… (all of the seat's roots in one cut). By AI agents, Wed Nov 11 2026. No macro, syntax, notation, axiom, sorry.
-/
import Derived.Test.YtleckhbmciiooaaDoorChecked
import GoSem.PinnedTables
import GoSem.Claim
import GoSem.ClaimJoined
import GoSem.ClaimMapViews
import Derived.JoinedTies
import Derived.KernelRfl
namespace Go.Proofs.YtleckhbmciiooaaDoor
/- THE CELL 'sum', in the pinned program and in every row, IS THE sha256 OF THE DUMP (.gsa) THAT YtleckhbmciiooaaDoorProg.lean LOADS. Nothing in Lean hashes anything: it is a label: what it is worth is what the hold of that sum in a sandbox is worth. -/
noncomputable def Tryd.pinned : Pinned := { name := "ytleckhbmciiooaadoor", sum := "61c07268a72f3d811e5bd32770fdfa5b3e418b9cff458b43389741f36b66034d", checked := Tryd.checked }
namespace Rows
def none {H : Type} : Left H := { results := [], args := [] }

/- WHAT THE LISTED PACKAGE-LEVEL VARIABLES READ AS WHEN THE CALL BEGINS. Each datum BY PROGRAM (the guide's laid-datum.mjs) off the statement by which the dump's own 'gosem.cut.vars' lays the variable. In a bare row this is a premise. The card (YtleckhbmciiooaaDoorCards.lean) ties it to the program's text. -/
def laid_math_bits_deBruijn64tab {H : Type} : DataW H := .agg [.lit (.int .u8 0), .lit (.int .u8 1), .lit (.int .u8 56), .lit (.int .u8 2), .lit (.int .u8 57), .lit (.int .u8 49), .lit (.int .u8 28), .lit (.int .u8 3), .lit (.int .u8 61), .lit (.int .u8 58), .lit (.int .u8 42), .lit (.int .u8 50), .lit (.int .u8 38), .lit (.int .u8 29), .lit (.int .u8 17), .lit (.int .u8 4), .lit (.int .u8 62), .lit (.int .u8 47), .lit (.int .u8 59), .lit (.int .u8 36), .lit (.int .u8 45), .lit (.int .u8 43), .lit (.int .u8 51), .lit (.int .u8 22), .lit (.int .u8 53), .lit (.int .u8 39), .lit (.int .u8 33), .lit (.int .u8 30), .lit (.int .u8 24), .lit (.int .u8 18), .lit (.int .u8 12), .lit (.int .u8 5), .lit (.int .u8 63), .lit (.int .u8 55), .lit (.int .u8 48), .lit (.int .u8 27), .lit (.int .u8 60), .lit (.int .u8 41), .lit (.int .u8 37), .lit (.int .u8 16), .lit (.int .u8 46), .lit (.int .u8 35), .lit (.int .u8 44), .lit (.int .u8 21), .lit (.int .u8 52), .lit (.int .u8 32), .lit (.int .u8 23), .lit (.int .u8 11), .lit (.int .u8 54), .lit (.int .u8 26), .lit (.int .u8 40), .lit (.int .u8 15), .lit (.int .u8 34), .lit (.int .u8 20), .lit (.int .u8 31), .lit (.int .u8 10), .lit (.int .u8 25), .lit (.int .u8 14), .lit (.int .u8 19), .lit (.int .u8 9), .lit (.int .u8 13), .lit (.int .u8 8), .lit (.int .u8 7), .lit (.int .u8 6)]
def laid_math_bits_deBruijn32tab {H : Type} : DataW H := .agg [.lit (.int .u8 0), .lit (.int .u8 1), .lit (.int .u8 28), .lit (.int .u8 2), .lit (.int .u8 29), .lit (.int .u8 14), .lit (.int .u8 24), .lit (.int .u8 3), .lit (.int .u8 30), .lit (.int .u8 22), .lit (.int .u8 20), .lit (.int .u8 15), .lit (.int .u8 25), .lit (.int .u8 17), .lit (.int .u8 4), .lit (.int .u8 8), .lit (.int .u8 31), .lit (.int .u8 27), .lit (.int .u8 13), .lit (.int .u8 23), .lit (.int .u8 21), .lit (.int .u8 19), .lit (.int .u8 16), .lit (.int .u8 7), .lit (.int .u8 26), .lit (.int .u8 12), .lit (.int .u8 18), .lit (.int .u8 6), .lit (.int .u8 11), .lit (.int .u8 5), .lit (.int .u8 10), .lit (.int .u8 9)]
def laid_internal_strconv_uint64pow10 {H : Type} : DataW H := .agg [.lit (.int .u64 1), .lit (.int .u64 10), .lit (.int .u64 100), .lit (.int .u64 1000), .lit (.int .u64 10000), .lit (.int .u64 100000), .lit (.int .u64 1000000), .lit (.int .u64 10000000), .lit (.int .u64 100000000), .lit (.int .u64 1000000000), .lit (.int .u64 10000000000), .lit (.int .u64 100000000000), .lit (.int .u64 1000000000000), .lit (.int .u64 10000000000000), .lit (.int .u64 100000000000000), .lit (.int .u64 1000000000000000), .lit (.int .u64 10000000000000000), .lit (.int .u64 100000000000000000), .lit (.int .u64 1000000000000000000), .lit (.int .u64 10000000000000000000)]
def laid_unicode_utf8_acceptRanges {H : Type} : DataW H := .agg [.agg [.lit (.int .u8 128), .lit (.int .u8 191)], .agg [.lit (.int .u8 160), .lit (.int .u8 191)], .agg [.lit (.int .u8 128), .lit (.int .u8 159)], .agg [.lit (.int .u8 144), .lit (.int .u8 191)], .agg [.lit (.int .u8 128), .lit (.int .u8 143)], .agg [.lit (.int .u8 0), .lit (.int .u8 0)], .agg [.lit (.int .u8 0), .lit (.int .u8 0)], .agg [.lit (.int .u8 0), .lit (.int .u8 0)], .agg [.lit (.int .u8 0), .lit (.int .u8 0)], .agg [.lit (.int .u8 0), .lit (.int .u8 0)], .agg [.lit (.int .u8 0), .lit (.int .u8 0)], .agg [.lit (.int .u8 0), .lit (.int .u8 0)], .agg [.lit (.int .u8 0), .lit (.int .u8 0)], .agg [.lit (.int .u8 0), .lit (.int .u8 0)], .agg [.lit (.int .u8 0), .lit (.int .u8 0)], .agg [.lit (.int .u8 0), .lit (.int .u8 0)]]
/-- One of Go's own tables, pinned by name: the form's constant. -/
def laid_unicode_utf8_first : DataW Unit := Go.Pinned.utf8First

/-- 'kurgantop.KurganScales': WHATEVER THE INPUT: true; the input reads as it did. -/
def kurganScalesSpec : ChangeSpec := { name := "kurganScales", fn := fun _ => fun
  | [d1, d2] => { results := [.lit (.bool true)], args := [d1, d2] }
  | _ => none }
def kurganScalesRow : OpenClaim := { program := "ytleckhbmciiooaadoor", sum := "61c07268a72f3d811e5bd32770fdfa5b3e418b9cff458b43389741f36b66034d", func := "kurgan/kurgantop.KurganScales", spec := "kurganScales", unfollowed := true, recurses := true, named := ["math/bits.deBruijn64tab"], apart := false, laid := [("math/bits.deBruijn64tab", laid_math_bits_deBruijn64tab)] }
def KurganScalesSaid : Prop := kurganScalesRow.holds Tryd.pinned (OpenSpec.ofChange kurganScalesSpec)

/-- ITS FALSE NEIGHBOUR: 'it returns false'. Refute it at one input. -/
def kurganScalesWrong : ChangeSpec := { name := "kurganScales", fn := fun _ => fun
  | [d1, d2] => { results := [.lit (.bool false)], args := [d1, d2] }
  | _ => none }
def KurganScalesWrongFalsely : Prop := kurganScalesRow.holds Tryd.pinned (OpenSpec.ofChange kurganScalesWrong)

/-- 'kurganlaw34.ShowAnswers': WHATEVER THE INPUT: true; the input reads as it did. -/
def showAnswersSpec : ChangeSpec := { name := "showAnswers", fn := fun _ => fun
  | [d1, d2] => { results := [.lit (.bool true)], args := [d1, d2] }
  | _ => none }
def showAnswersRow : OpenClaim := { program := "ytleckhbmciiooaadoor", sum := "61c07268a72f3d811e5bd32770fdfa5b3e418b9cff458b43389741f36b66034d", func := "kurgan/kurganlaw34.ShowAnswers", spec := "showAnswers", inPlace := ["internal/abi.NoEscape", "internal/bytealg.MakeNoZero"], unfollowed := true, recurses := true, named := ["internal/strconv.uint64pow10", "math/bits.deBruijn32tab", "math/bits.deBruijn64tab"], apart := false, laid := [("math/bits.deBruijn32tab", laid_math_bits_deBruijn32tab), ("math/bits.deBruijn64tab", laid_math_bits_deBruijn64tab), ("internal/strconv.uint64pow10", laid_internal_strconv_uint64pow10)] }
def ShowAnswersSaid : Prop := showAnswersRow.holds Tryd.pinned (OpenSpec.ofChange showAnswersSpec)

/-- ITS FALSE NEIGHBOUR: 'it returns false'. Refute it at one input. -/
def showAnswersWrong : ChangeSpec := { name := "showAnswers", fn := fun _ => fun
  | [d1, d2] => { results := [.lit (.bool false)], args := [d1, d2] }
  | _ => none }
def ShowAnswersWrongFalsely : Prop := showAnswersRow.holds Tryd.pinned (OpenSpec.ofChange showAnswersWrong)

/-- 'kurganlaw34.ShowTables': WHATEVER THE INPUT: true; the input reads as it did. -/
def showTablesSpec : ChangeSpec := { name := "showTables", fn := fun _ => fun
  | [d] => { results := [.lit (.bool true)], args := [d] }
  | _ => none }
def showTablesRow : OpenClaim := { program := "ytleckhbmciiooaadoor", sum := "61c07268a72f3d811e5bd32770fdfa5b3e418b9cff458b43389741f36b66034d", func := "kurgan/kurganlaw34.ShowTables", spec := "showTables", inPlace := ["internal/abi.NoEscape", "internal/bytealg.MakeNoZero"], unfollowed := true, recurses := true, named := ["internal/strconv.uint64pow10", "math/bits.deBruijn32tab", "math/bits.deBruijn64tab"], apart := false, laid := [("math/bits.deBruijn32tab", laid_math_bits_deBruijn32tab), ("math/bits.deBruijn64tab", laid_math_bits_deBruijn64tab), ("internal/strconv.uint64pow10", laid_internal_strconv_uint64pow10)] }
def ShowTablesSaid : Prop := showTablesRow.holds Tryd.pinned (OpenSpec.ofChange showTablesSpec)

/-- ITS FALSE NEIGHBOUR: 'it returns false'. Refute it at one input. -/
def showTablesWrong : ChangeSpec := { name := "showTables", fn := fun _ => fun
  | [d] => { results := [.lit (.bool false)], args := [d] }
  | _ => none }
def ShowTablesWrongFalsely : Prop := showTablesRow.holds Tryd.pinned (OpenSpec.ofChange showTablesWrong)

/-- 'kurganlaw33.TraceWrites': WHATEVER THE INPUT: true; the input reads as it did. -/
def traceWritesSpec : ChangeSpec := { name := "traceWrites", fn := fun _ => fun
  | [d] => { results := [.lit (.bool true)], args := [d] }
  | _ => none }
def traceWritesRow : OpenClaim := { program := "ytleckhbmciiooaadoor", sum := "61c07268a72f3d811e5bd32770fdfa5b3e418b9cff458b43389741f36b66034d", func := "kurgan/kurganlaw33.TraceWrites", spec := "traceWrites", inPlace := ["internal/abi.NoEscape", "internal/bytealg.MakeNoZero", "internal/bytealg.IndexByteString", "internal/bytealg.IndexString", "internal/bytealg.CountString"], unfollowed := true, recurses := true, named := ["internal/strconv.uint64pow10", "math/bits.deBruijn32tab", "math/bits.deBruijn64tab", "internal/bytealg.MaxLen", "unicode/utf8.first", "unicode/utf8.acceptRanges"], apart := false, laid := [("math/bits.deBruijn32tab", laid_math_bits_deBruijn32tab), ("math/bits.deBruijn64tab", laid_math_bits_deBruijn64tab), ("internal/strconv.uint64pow10", laid_internal_strconv_uint64pow10), ("unicode/utf8.acceptRanges", laid_unicode_utf8_acceptRanges), ("unicode/utf8.first", laid_unicode_utf8_first)] }
def TraceWritesSaid : Prop := traceWritesRow.holds Tryd.pinned (OpenSpec.ofChange traceWritesSpec)

/-- ITS FALSE NEIGHBOUR: 'it returns false'. Refute it at one input. -/
def traceWritesWrong : ChangeSpec := { name := "traceWrites", fn := fun _ => fun
  | [d] => { results := [.lit (.bool false)], args := [d] }
  | _ => none }
def TraceWritesWrongFalsely : Prop := traceWritesRow.holds Tryd.pinned (OpenSpec.ofChange traceWritesWrong)

/-- 'kurganlaw15.ExactTakes': WHATEVER THE INPUT: true; the input reads as it did. -/
def exactTakesSpec : ChangeSpec := { name := "exactTakes", fn := fun _ => fun
  | [d] => { results := [.lit (.bool true)], args := [d] }
  | _ => none }
def exactTakesRow : OpenClaim := { program := "ytleckhbmciiooaadoor", sum := "61c07268a72f3d811e5bd32770fdfa5b3e418b9cff458b43389741f36b66034d", func := "kurgan/kurganlaw15.ExactTakes", spec := "exactTakes", unfollowed := true, recurses := true, named := ["math/bits.deBruijn64tab"], apart := false, laid := [("math/bits.deBruijn64tab", laid_math_bits_deBruijn64tab)] }
def ExactTakesSaid : Prop := exactTakesRow.holds Tryd.pinned (OpenSpec.ofChange exactTakesSpec)

/-- ITS FALSE NEIGHBOUR: 'it returns false'. Refute it at one input. -/
def exactTakesWrong : ChangeSpec := { name := "exactTakes", fn := fun _ => fun
  | [d] => { results := [.lit (.bool false)], args := [d] }
  | _ => none }
def ExactTakesWrongFalsely : Prop := exactTakesRow.holds Tryd.pinned (OpenSpec.ofChange exactTakesWrong)

/-- 'kurganlaw15.ExactBest': WHATEVER THE INPUT: true; the input reads as it did. -/
def exactBestSpec : ChangeSpec := { name := "exactBest", fn := fun _ => fun
  | [d] => { results := [.lit (.bool true)], args := [d] }
  | _ => none }
def exactBestRow : OpenClaim := { program := "ytleckhbmciiooaadoor", sum := "61c07268a72f3d811e5bd32770fdfa5b3e418b9cff458b43389741f36b66034d", func := "kurgan/kurganlaw15.ExactBest", spec := "exactBest", unfollowed := true, recurses := true, named := ["math/bits.deBruijn64tab"], apart := false, laid := [("math/bits.deBruijn64tab", laid_math_bits_deBruijn64tab)] }
def ExactBestSaid : Prop := exactBestRow.holds Tryd.pinned (OpenSpec.ofChange exactBestSpec)

/-- ITS FALSE NEIGHBOUR: 'it returns false'. Refute it at one input. -/
def exactBestWrong : ChangeSpec := { name := "exactBest", fn := fun _ => fun
  | [d] => { results := [.lit (.bool false)], args := [d] }
  | _ => none }
def ExactBestWrongFalsely : Prop := exactBestRow.holds Tryd.pinned (OpenSpec.ofChange exactBestWrong)

/- THE SECOND FORM. 'bulk': how many values and letters a reading holds, each counted each time it is reached (what is shared counts as often as it is met; a slice's spare places count too). A statement '..UptoSaid' is the law's where the arguments, and the package variables that the reading takes, are together of bulk at most 1048576: NARROWER than '..Said'. Prove '..Said' where nothing that the law and all that it calls make is longer than what came in: it says more and counts as full. Else prove '..UptoSaid'. A law counts once. -/
mutual
def uptoBulk {H : Type} : DataW H → Nat
  | .lit (.string bytes) => bytes.length + 1
  | .lit _ => 1
  | .nil => 1
  | .ptr d => uptoBulk d + 1
  | .slice elems spare => uptoBulkAll elems + uptoBulkAll spare + 1
  | .agg parts => uptoBulkAll parts + 1
  | .iface _ d => uptoBulk d + 1
  | .map entries => uptoBulkEntries entries + 1
  | .held _ => 1
def uptoBulkAll {H : Type} : List (DataW H) → Nat
  | [] => 0
  | d :: r => uptoBulk d + uptoBulkAll r
def uptoBulkEntries {H : Type} : List (Lit × DataW H) → Nat
  | [] => 0
  | x :: r => uptoBulkEntry x + uptoBulkEntries r
def uptoBulkEntry {H : Type} : Lit × DataW H → Nat
  | (.string bytes, d) => bytes.length + uptoBulk d + 1
  | (_, d) => uptoBulk d + 1
 end
def uptoSmall : (H : Type) → List (DataW H) → Bool := fun _ ds => decide (uptoBulkAll ds ≤ 1048576)
def OpenSpec.upto (s : _root_.Go.ChangeSpec) : _root_.Go.OpenSpec := { _root_.Go.OpenSpec.ofChange s with cond := some uptoSmall }

/-- 'kurgantop.KurganScales', WHERE WHAT IT READS IS OF BULK AT MOST 1048576: true; the input reads as it did. -/
def kurganScalesUptoRow : OpenClaim := { program := "ytleckhbmciiooaadoor", sum := "61c07268a72f3d811e5bd32770fdfa5b3e418b9cff458b43389741f36b66034d", func := "kurgan/kurgantop.KurganScales", spec := "kurganScales", unfollowed := true, recurses := true, named := ["math/bits.deBruijn64tab"], apart := false, laid := [("math/bits.deBruijn64tab", laid_math_bits_deBruijn64tab)], narrowed := true }
def KurganScalesUptoSaid : Prop := kurganScalesUptoRow.holds Tryd.pinned (OpenSpec.upto kurganScalesSpec)

/-- 'kurganlaw34.ShowAnswers', WHERE WHAT IT READS IS OF BULK AT MOST 1048576: true; the input reads as it did. -/
def showAnswersUptoRow : OpenClaim := { program := "ytleckhbmciiooaadoor", sum := "61c07268a72f3d811e5bd32770fdfa5b3e418b9cff458b43389741f36b66034d", func := "kurgan/kurganlaw34.ShowAnswers", spec := "showAnswers", inPlace := ["internal/abi.NoEscape", "internal/bytealg.MakeNoZero"], unfollowed := true, recurses := true, named := ["internal/strconv.uint64pow10", "math/bits.deBruijn32tab", "math/bits.deBruijn64tab"], apart := false, laid := [("math/bits.deBruijn32tab", laid_math_bits_deBruijn32tab), ("math/bits.deBruijn64tab", laid_math_bits_deBruijn64tab), ("internal/strconv.uint64pow10", laid_internal_strconv_uint64pow10)], narrowed := true }
def ShowAnswersUptoSaid : Prop := showAnswersUptoRow.holds Tryd.pinned (OpenSpec.upto showAnswersSpec)

/-- 'kurganlaw34.ShowTables', WHERE WHAT IT READS IS OF BULK AT MOST 1048576: true; the input reads as it did. -/
def showTablesUptoRow : OpenClaim := { program := "ytleckhbmciiooaadoor", sum := "61c07268a72f3d811e5bd32770fdfa5b3e418b9cff458b43389741f36b66034d", func := "kurgan/kurganlaw34.ShowTables", spec := "showTables", inPlace := ["internal/abi.NoEscape", "internal/bytealg.MakeNoZero"], unfollowed := true, recurses := true, named := ["internal/strconv.uint64pow10", "math/bits.deBruijn32tab", "math/bits.deBruijn64tab"], apart := false, laid := [("math/bits.deBruijn32tab", laid_math_bits_deBruijn32tab), ("math/bits.deBruijn64tab", laid_math_bits_deBruijn64tab), ("internal/strconv.uint64pow10", laid_internal_strconv_uint64pow10)], narrowed := true }
def ShowTablesUptoSaid : Prop := showTablesUptoRow.holds Tryd.pinned (OpenSpec.upto showTablesSpec)

/-- 'kurganlaw33.TraceWrites', WHERE WHAT IT READS IS OF BULK AT MOST 1048576: true; the input reads as it did. -/
def traceWritesUptoRow : OpenClaim := { program := "ytleckhbmciiooaadoor", sum := "61c07268a72f3d811e5bd32770fdfa5b3e418b9cff458b43389741f36b66034d", func := "kurgan/kurganlaw33.TraceWrites", spec := "traceWrites", inPlace := ["internal/abi.NoEscape", "internal/bytealg.MakeNoZero", "internal/bytealg.IndexByteString", "internal/bytealg.IndexString", "internal/bytealg.CountString"], unfollowed := true, recurses := true, named := ["internal/strconv.uint64pow10", "math/bits.deBruijn32tab", "math/bits.deBruijn64tab", "internal/bytealg.MaxLen", "unicode/utf8.first", "unicode/utf8.acceptRanges"], apart := false, laid := [("math/bits.deBruijn32tab", laid_math_bits_deBruijn32tab), ("math/bits.deBruijn64tab", laid_math_bits_deBruijn64tab), ("internal/strconv.uint64pow10", laid_internal_strconv_uint64pow10), ("unicode/utf8.acceptRanges", laid_unicode_utf8_acceptRanges), ("unicode/utf8.first", laid_unicode_utf8_first)], narrowed := true }
def TraceWritesUptoSaid : Prop := traceWritesUptoRow.holds Tryd.pinned (OpenSpec.upto traceWritesSpec)

/-- 'kurganlaw15.ExactTakes', WHERE WHAT IT READS IS OF BULK AT MOST 1048576: true; the input reads as it did. -/
def exactTakesUptoRow : OpenClaim := { program := "ytleckhbmciiooaadoor", sum := "61c07268a72f3d811e5bd32770fdfa5b3e418b9cff458b43389741f36b66034d", func := "kurgan/kurganlaw15.ExactTakes", spec := "exactTakes", unfollowed := true, recurses := true, named := ["math/bits.deBruijn64tab"], apart := false, laid := [("math/bits.deBruijn64tab", laid_math_bits_deBruijn64tab)], narrowed := true }
def ExactTakesUptoSaid : Prop := exactTakesUptoRow.holds Tryd.pinned (OpenSpec.upto exactTakesSpec)

/-- 'kurganlaw15.ExactBest', WHERE WHAT IT READS IS OF BULK AT MOST 1048576: true; the input reads as it did. -/
def exactBestUptoRow : OpenClaim := { program := "ytleckhbmciiooaadoor", sum := "61c07268a72f3d811e5bd32770fdfa5b3e418b9cff458b43389741f36b66034d", func := "kurgan/kurganlaw15.ExactBest", spec := "exactBest", unfollowed := true, recurses := true, named := ["math/bits.deBruijn64tab"], apart := false, laid := [("math/bits.deBruijn64tab", laid_math_bits_deBruijn64tab)], narrowed := true }
def ExactBestUptoSaid : Prop := exactBestUptoRow.holds Tryd.pinned (OpenSpec.upto exactBestSpec)

end Rows
end Go.Proofs.YtleckhbmciiooaaDoor
