/-
  NARROWER THAN 'FOR EVERY INPUT', by the rows' own cells (each row's printed sentence says how): KurganWays: laid · ShowLines: laid · ExactSearch: laid · CheckBent: laid · ShowTrees: laid.
  DERIVED. THE GIVEN ROWS OF THIS SEAT. 5 by the template 'for every input the law returns true; each argument reads behind the call as it read before'; 0 by the template 'total and deterministic' (their statements: YtmojhhlcocjoaaaGreatDoorTotals.lean).
  GIVEN WITH THE SEED: the statements are not yours to turn. If you find one false, say at which input.
  Laid BY PROGRAM, IN A SANDBOX (cutbox-rows.mjs): the forced cells as the released guide's own fill.sh prints them over the translation 037ea41c08a04b24… (all of the seat's roots in one cut). By AI agents, Wed Nov 11 2026. No macro, syntax, notation, axiom, sorry.
-/
import Derived.Test.YtmojhhlcocjoaaaGreatDoorChecked
import GoSem.Claim
import GoSem.ClaimJoined
import GoSem.ClaimMapViews
import Derived.JoinedTies
import Derived.KernelRfl
namespace Go.Proofs.YtmojhhlcocjoaaaGreatDoor
/- THE CELL 'sum', in the pinned program and in every row, IS THE sha256 OF THE DUMP (.gsa) THAT YtmojhhlcocjoaaaGreatDoorProg.lean LOADS. Nothing in Lean hashes anything: it is a label: what it is worth is what the hold of that sum in a sandbox is worth. -/
noncomputable def Tryz.pinned : Pinned := { name := "ytmojhhlcocjoaaagreatdoor", sum := "037ea41c08a04b24a7678a1659e2d731837dfcdfeed7d06f9c21d8fd03a3619c", checked := Tryz.checked }
namespace Rows
def none {H : Type} : Left H := { results := [], args := [] }

/- WHAT THE LISTED PACKAGE-LEVEL VARIABLES READ AS WHEN THE CALL BEGINS. Each datum BY PROGRAM (the guide's laid-datum.mjs) off the statement by which the dump's own 'gosem.cut.vars' lays the variable. In a bare row this is a premise. The card (YtmojhhlcocjoaaaGreatDoorCards.lean) ties it to the program's text. -/
def laid_math_bits_deBruijn64tab {H : Type} : DataW H := .agg [.lit (.int .u8 0), .lit (.int .u8 1), .lit (.int .u8 56), .lit (.int .u8 2), .lit (.int .u8 57), .lit (.int .u8 49), .lit (.int .u8 28), .lit (.int .u8 3), .lit (.int .u8 61), .lit (.int .u8 58), .lit (.int .u8 42), .lit (.int .u8 50), .lit (.int .u8 38), .lit (.int .u8 29), .lit (.int .u8 17), .lit (.int .u8 4), .lit (.int .u8 62), .lit (.int .u8 47), .lit (.int .u8 59), .lit (.int .u8 36), .lit (.int .u8 45), .lit (.int .u8 43), .lit (.int .u8 51), .lit (.int .u8 22), .lit (.int .u8 53), .lit (.int .u8 39), .lit (.int .u8 33), .lit (.int .u8 30), .lit (.int .u8 24), .lit (.int .u8 18), .lit (.int .u8 12), .lit (.int .u8 5), .lit (.int .u8 63), .lit (.int .u8 55), .lit (.int .u8 48), .lit (.int .u8 27), .lit (.int .u8 60), .lit (.int .u8 41), .lit (.int .u8 37), .lit (.int .u8 16), .lit (.int .u8 46), .lit (.int .u8 35), .lit (.int .u8 44), .lit (.int .u8 21), .lit (.int .u8 52), .lit (.int .u8 32), .lit (.int .u8 23), .lit (.int .u8 11), .lit (.int .u8 54), .lit (.int .u8 26), .lit (.int .u8 40), .lit (.int .u8 15), .lit (.int .u8 34), .lit (.int .u8 20), .lit (.int .u8 31), .lit (.int .u8 10), .lit (.int .u8 25), .lit (.int .u8 14), .lit (.int .u8 19), .lit (.int .u8 9), .lit (.int .u8 13), .lit (.int .u8 8), .lit (.int .u8 7), .lit (.int .u8 6)]
def laid_math_bits_deBruijn32tab {H : Type} : DataW H := .agg [.lit (.int .u8 0), .lit (.int .u8 1), .lit (.int .u8 28), .lit (.int .u8 2), .lit (.int .u8 29), .lit (.int .u8 14), .lit (.int .u8 24), .lit (.int .u8 3), .lit (.int .u8 30), .lit (.int .u8 22), .lit (.int .u8 20), .lit (.int .u8 15), .lit (.int .u8 25), .lit (.int .u8 17), .lit (.int .u8 4), .lit (.int .u8 8), .lit (.int .u8 31), .lit (.int .u8 27), .lit (.int .u8 13), .lit (.int .u8 23), .lit (.int .u8 21), .lit (.int .u8 19), .lit (.int .u8 16), .lit (.int .u8 7), .lit (.int .u8 26), .lit (.int .u8 12), .lit (.int .u8 18), .lit (.int .u8 6), .lit (.int .u8 11), .lit (.int .u8 5), .lit (.int .u8 10), .lit (.int .u8 9)]
def laid_internal_strconv_uint64pow10 {H : Type} : DataW H := .agg [.lit (.int .u64 1), .lit (.int .u64 10), .lit (.int .u64 100), .lit (.int .u64 1000), .lit (.int .u64 10000), .lit (.int .u64 100000), .lit (.int .u64 1000000), .lit (.int .u64 10000000), .lit (.int .u64 100000000), .lit (.int .u64 1000000000), .lit (.int .u64 10000000000), .lit (.int .u64 100000000000), .lit (.int .u64 1000000000000), .lit (.int .u64 10000000000000), .lit (.int .u64 100000000000000), .lit (.int .u64 1000000000000000), .lit (.int .u64 10000000000000000), .lit (.int .u64 100000000000000000), .lit (.int .u64 1000000000000000000), .lit (.int .u64 10000000000000000000)]

/-- 'kurgantop.KurganWays': WHATEVER THE INPUT: true; the input reads as it did. -/
def kurganWaysSpec : ChangeSpec := { name := "kurganWays", fn := fun _ => fun
  | [d] => { results := [.lit (.bool true)], args := [d] }
  | _ => none }
def kurganWaysRow : OpenClaim := { program := "ytmojhhlcocjoaaagreatdoor", sum := "037ea41c08a04b24a7678a1659e2d731837dfcdfeed7d06f9c21d8fd03a3619c", func := "kurgan/kurgantop.KurganWays", spec := "kurganWays", unfollowed := true, recurses := true, named := ["math/bits.deBruijn64tab"], apart := false, laid := [("math/bits.deBruijn64tab", laid_math_bits_deBruijn64tab)] }
def KurganWaysSaid : Prop := kurganWaysRow.holds Tryz.pinned (OpenSpec.ofChange kurganWaysSpec)

/-- ITS FALSE NEIGHBOUR: 'it returns false'. Refute it at one input. -/
def kurganWaysWrong : ChangeSpec := { name := "kurganWays", fn := fun _ => fun
  | [d] => { results := [.lit (.bool false)], args := [d] }
  | _ => none }
def KurganWaysWrongFalsely : Prop := kurganWaysRow.holds Tryz.pinned (OpenSpec.ofChange kurganWaysWrong)

/-- 'kurganlaw34.ShowLines': WHATEVER THE INPUT: true; the input reads as it did. -/
def showLinesSpec : ChangeSpec := { name := "showLines", fn := fun _ => fun
  | [d1, d2] => { results := [.lit (.bool true)], args := [d1, d2] }
  | _ => none }
def showLinesRow : OpenClaim := { program := "ytmojhhlcocjoaaagreatdoor", sum := "037ea41c08a04b24a7678a1659e2d731837dfcdfeed7d06f9c21d8fd03a3619c", func := "kurgan/kurganlaw34.ShowLines", spec := "showLines", inPlace := ["internal/abi.NoEscape", "internal/bytealg.MakeNoZero"], unfollowed := true, recurses := true, named := ["internal/strconv.uint64pow10", "math/bits.deBruijn32tab", "math/bits.deBruijn64tab"], apart := false, laid := [("math/bits.deBruijn32tab", laid_math_bits_deBruijn32tab), ("math/bits.deBruijn64tab", laid_math_bits_deBruijn64tab), ("internal/strconv.uint64pow10", laid_internal_strconv_uint64pow10)] }
def ShowLinesSaid : Prop := showLinesRow.holds Tryz.pinned (OpenSpec.ofChange showLinesSpec)

/-- ITS FALSE NEIGHBOUR: 'it returns false'. Refute it at one input. -/
def showLinesWrong : ChangeSpec := { name := "showLines", fn := fun _ => fun
  | [d1, d2] => { results := [.lit (.bool false)], args := [d1, d2] }
  | _ => none }
def ShowLinesWrongFalsely : Prop := showLinesRow.holds Tryz.pinned (OpenSpec.ofChange showLinesWrong)

/-- 'kurganlaw15.ExactSearch': WHATEVER THE INPUT: true; the input reads as it did. -/
def exactSearchSpec : ChangeSpec := { name := "exactSearch", fn := fun _ => fun
  | [d] => { results := [.lit (.bool true)], args := [d] }
  | _ => none }
def exactSearchRow : OpenClaim := { program := "ytmojhhlcocjoaaagreatdoor", sum := "037ea41c08a04b24a7678a1659e2d731837dfcdfeed7d06f9c21d8fd03a3619c", func := "kurgan/kurganlaw15.ExactSearch", spec := "exactSearch", unfollowed := true, recurses := true, named := ["math/bits.deBruijn64tab"], apart := false, laid := [("math/bits.deBruijn64tab", laid_math_bits_deBruijn64tab)] }
def ExactSearchSaid : Prop := exactSearchRow.holds Tryz.pinned (OpenSpec.ofChange exactSearchSpec)

/-- ITS FALSE NEIGHBOUR: 'it returns false'. Refute it at one input. -/
def exactSearchWrong : ChangeSpec := { name := "exactSearch", fn := fun _ => fun
  | [d] => { results := [.lit (.bool false)], args := [d] }
  | _ => none }
def ExactSearchWrongFalsely : Prop := exactSearchRow.holds Tryz.pinned (OpenSpec.ofChange exactSearchWrong)

/-- 'kurganlaw31.CheckBent': WHATEVER THE INPUT: true; the input reads as it did. -/
def checkBentSpec : ChangeSpec := { name := "checkBent", fn := fun _ => fun
  | [d1, d2, d3] => { results := [.lit (.bool true)], args := [d1, d2, d3] }
  | _ => none }
def checkBentRow : OpenClaim := { program := "ytmojhhlcocjoaaagreatdoor", sum := "037ea41c08a04b24a7678a1659e2d731837dfcdfeed7d06f9c21d8fd03a3619c", func := "kurgan/kurganlaw31.CheckBent", spec := "checkBent", unfollowed := true, recurses := true, named := ["math/bits.deBruijn64tab"], apart := false, laid := [("math/bits.deBruijn64tab", laid_math_bits_deBruijn64tab)] }
def CheckBentSaid : Prop := checkBentRow.holds Tryz.pinned (OpenSpec.ofChange checkBentSpec)

/-- ITS FALSE NEIGHBOUR: 'it returns false'. Refute it at one input. -/
def checkBentWrong : ChangeSpec := { name := "checkBent", fn := fun _ => fun
  | [d1, d2, d3] => { results := [.lit (.bool false)], args := [d1, d2, d3] }
  | _ => none }
def CheckBentWrongFalsely : Prop := checkBentRow.holds Tryz.pinned (OpenSpec.ofChange checkBentWrong)

/-- 'kurganlaw34.ShowTrees': WHATEVER THE INPUT: true; the input reads as it did. -/
def showTreesSpec : ChangeSpec := { name := "showTrees", fn := fun _ => fun
  | [d1, d2, d3] => { results := [.lit (.bool true)], args := [d1, d2, d3] }
  | _ => none }
def showTreesRow : OpenClaim := { program := "ytmojhhlcocjoaaagreatdoor", sum := "037ea41c08a04b24a7678a1659e2d731837dfcdfeed7d06f9c21d8fd03a3619c", func := "kurgan/kurganlaw34.ShowTrees", spec := "showTrees", inPlace := ["internal/abi.NoEscape", "internal/bytealg.MakeNoZero"], unfollowed := true, recurses := true, named := ["internal/strconv.uint64pow10", "math/bits.deBruijn32tab", "math/bits.deBruijn64tab"], apart := false, laid := [("math/bits.deBruijn32tab", laid_math_bits_deBruijn32tab), ("math/bits.deBruijn64tab", laid_math_bits_deBruijn64tab), ("internal/strconv.uint64pow10", laid_internal_strconv_uint64pow10)] }
def ShowTreesSaid : Prop := showTreesRow.holds Tryz.pinned (OpenSpec.ofChange showTreesSpec)

/-- ITS FALSE NEIGHBOUR: 'it returns false'. Refute it at one input. -/
def showTreesWrong : ChangeSpec := { name := "showTrees", fn := fun _ => fun
  | [d1, d2, d3] => { results := [.lit (.bool false)], args := [d1, d2, d3] }
  | _ => none }
def ShowTreesWrongFalsely : Prop := showTreesRow.holds Tryz.pinned (OpenSpec.ofChange showTreesWrong)

/- THE SECOND FORM. 'bulk': how many values and letters a reading holds, each counted each time it is reached (what is shared counts as often as it is met; a slice's spare places count too). A statement '..UptoSaid' is the law's where the arguments, and the package variables that the reading takes, are together of bulk at most 1048576: NARROWER than '..Said'. Prove '..Said' where nothing that the law and all that it calls make is longer than what came in: it says more and counts as full. Else prove '..UptoSaid'. A law counts once. -/
mutual
def uptoBulk {H : Type} : DataW H → Nat
  | .lit (.string bytes) => bytes.length + 1
  | .lit _ => 1
  | .nil => 1
  | .ptr d => uptoBulk d + 1
  | .slice elems spare => uptoBulkAll elems + uptoBulkAll spare + 1
  | .agg parts => uptoBulkAll parts + 1
  | .iface _ d => uptoBulk d + 1
  | .map entries => uptoBulkEntries entries + 1
  | .held _ => 1
def uptoBulkAll {H : Type} : List (DataW H) → Nat
  | [] => 0
  | d :: r => uptoBulk d + uptoBulkAll r
def uptoBulkEntries {H : Type} : List (Lit × DataW H) → Nat
  | [] => 0
  | x :: r => uptoBulkEntry x + uptoBulkEntries r
def uptoBulkEntry {H : Type} : Lit × DataW H → Nat
  | (.string bytes, d) => bytes.length + uptoBulk d + 1
  | (_, d) => uptoBulk d + 1
 end
def uptoSmall : (H : Type) → List (DataW H) → Bool := fun _ ds => decide (uptoBulkAll ds ≤ 1048576)
def OpenSpec.upto (s : _root_.Go.ChangeSpec) : _root_.Go.OpenSpec := { _root_.Go.OpenSpec.ofChange s with cond := some uptoSmall }

/-- 'kurgantop.KurganWays', WHERE WHAT IT READS IS OF BULK AT MOST 1048576: true; the input reads as it did. -/
def kurganWaysUptoRow : OpenClaim := { program := "ytmojhhlcocjoaaagreatdoor", sum := "037ea41c08a04b24a7678a1659e2d731837dfcdfeed7d06f9c21d8fd03a3619c", func := "kurgan/kurgantop.KurganWays", spec := "kurganWays", unfollowed := true, recurses := true, named := ["math/bits.deBruijn64tab"], apart := false, laid := [("math/bits.deBruijn64tab", laid_math_bits_deBruijn64tab)], narrowed := true }
def KurganWaysUptoSaid : Prop := kurganWaysUptoRow.holds Tryz.pinned (OpenSpec.upto kurganWaysSpec)

/-- 'kurganlaw34.ShowLines', WHERE WHAT IT READS IS OF BULK AT MOST 1048576: true; the input reads as it did. -/
def showLinesUptoRow : OpenClaim := { program := "ytmojhhlcocjoaaagreatdoor", sum := "037ea41c08a04b24a7678a1659e2d731837dfcdfeed7d06f9c21d8fd03a3619c", func := "kurgan/kurganlaw34.ShowLines", spec := "showLines", inPlace := ["internal/abi.NoEscape", "internal/bytealg.MakeNoZero"], unfollowed := true, recurses := true, named := ["internal/strconv.uint64pow10", "math/bits.deBruijn32tab", "math/bits.deBruijn64tab"], apart := false, laid := [("math/bits.deBruijn32tab", laid_math_bits_deBruijn32tab), ("math/bits.deBruijn64tab", laid_math_bits_deBruijn64tab), ("internal/strconv.uint64pow10", laid_internal_strconv_uint64pow10)], narrowed := true }
def ShowLinesUptoSaid : Prop := showLinesUptoRow.holds Tryz.pinned (OpenSpec.upto showLinesSpec)

/-- 'kurganlaw15.ExactSearch', WHERE WHAT IT READS IS OF BULK AT MOST 1048576: true; the input reads as it did. -/
def exactSearchUptoRow : OpenClaim := { program := "ytmojhhlcocjoaaagreatdoor", sum := "037ea41c08a04b24a7678a1659e2d731837dfcdfeed7d06f9c21d8fd03a3619c", func := "kurgan/kurganlaw15.ExactSearch", spec := "exactSearch", unfollowed := true, recurses := true, named := ["math/bits.deBruijn64tab"], apart := false, laid := [("math/bits.deBruijn64tab", laid_math_bits_deBruijn64tab)], narrowed := true }
def ExactSearchUptoSaid : Prop := exactSearchUptoRow.holds Tryz.pinned (OpenSpec.upto exactSearchSpec)

/-- 'kurganlaw31.CheckBent', WHERE WHAT IT READS IS OF BULK AT MOST 1048576: true; the input reads as it did. -/
def checkBentUptoRow : OpenClaim := { program := "ytmojhhlcocjoaaagreatdoor", sum := "037ea41c08a04b24a7678a1659e2d731837dfcdfeed7d06f9c21d8fd03a3619c", func := "kurgan/kurganlaw31.CheckBent", spec := "checkBent", unfollowed := true, recurses := true, named := ["math/bits.deBruijn64tab"], apart := false, laid := [("math/bits.deBruijn64tab", laid_math_bits_deBruijn64tab)], narrowed := true }
def CheckBentUptoSaid : Prop := checkBentUptoRow.holds Tryz.pinned (OpenSpec.upto checkBentSpec)

/-- 'kurganlaw34.ShowTrees', WHERE WHAT IT READS IS OF BULK AT MOST 1048576: true; the input reads as it did. -/
def showTreesUptoRow : OpenClaim := { program := "ytmojhhlcocjoaaagreatdoor", sum := "037ea41c08a04b24a7678a1659e2d731837dfcdfeed7d06f9c21d8fd03a3619c", func := "kurgan/kurganlaw34.ShowTrees", spec := "showTrees", inPlace := ["internal/abi.NoEscape", "internal/bytealg.MakeNoZero"], unfollowed := true, recurses := true, named := ["internal/strconv.uint64pow10", "math/bits.deBruijn32tab", "math/bits.deBruijn64tab"], apart := false, laid := [("math/bits.deBruijn32tab", laid_math_bits_deBruijn32tab), ("math/bits.deBruijn64tab", laid_math_bits_deBruijn64tab), ("internal/strconv.uint64pow10", laid_internal_strconv_uint64pow10)], narrowed := true }
def ShowTreesUptoSaid : Prop := showTreesUptoRow.holds Tryz.pinned (OpenSpec.upto showTreesSpec)

end Rows
end Go.Proofs.YtmojhhlcocjoaaaGreatDoor
