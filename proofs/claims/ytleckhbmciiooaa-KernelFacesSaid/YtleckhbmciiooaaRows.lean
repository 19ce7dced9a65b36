/-
  No cell of these rows narrows 'for every input' (looked for: loops, veiled, ifaces, maps, wideKeys, modest, calm, conditions, laid).
  DERIVED. THE GIVEN ROWS OF THIS SEAT. 6 by the template 'for every input the law returns true; each argument reads behind the call as it read before'; 0 by the template 'total and deterministic' (their statements: YtleckhbmciiooaaTotals.lean).
  GIVEN WITH THE SEED: the statements are not yours to turn. If you find one false, say at which input.
  Laid BY PROGRAM, IN A SANDBOX (cutbox-rows.mjs): the forced cells as the released guide's own fill.sh prints them over the translation b21c9919389e5a4f… (all of the seat's roots in one cut). By AI agents, Wed Nov 11 2026. No macro, syntax, notation, axiom, sorry.
-/
import Derived.Test.YtleckhbmciiooaaChecked
import GoSem.Claim
import GoSem.ClaimJoined
import GoSem.ClaimMapViews
import Derived.JoinedTies
import Derived.KernelRfl
namespace Go.Proofs.Ytleckhbmciiooaa
/- THE CELL 'sum', in the pinned program and in every row, IS THE sha256 OF THE DUMP (.gsa) THAT YtleckhbmciiooaaProg.lean LOADS. Nothing in Lean hashes anything: it is a label: what it is worth is what the hold of that sum in a sandbox is worth. -/
noncomputable def Try.pinned : Pinned := { name := "ytleckhbmciiooaa", sum := "b21c9919389e5a4f0c06bf6a5b14eb65cb58397c060690f275caa3296b352210", checked := Try.checked }
namespace Rows
def none {H : Type} : Left H := { results := [], args := [] }

/-- 'kurganlaw15.ExactPrices': WHATEVER THE INPUT: true; the input reads as it did. -/
def exactPricesSpec : ChangeSpec := { name := "exactPrices", fn := fun _ => fun
  | [d1, d2] => { results := [.lit (.bool true)], args := [d1, d2] }
  | _ => none }
def exactPricesRow : OpenClaim := { program := "ytleckhbmciiooaa", sum := "b21c9919389e5a4f0c06bf6a5b14eb65cb58397c060690f275caa3296b352210", func := "kurgan/kurganlaw15.ExactPrices", spec := "exactPrices", unfollowed := true, recurses := true, apart := false }
def ExactPricesSaid : Prop := exactPricesRow.holds Try.pinned (OpenSpec.ofChange exactPricesSpec)

/-- ITS FALSE NEIGHBOUR: 'it returns false'. Refute it at one input. -/
def exactPricesWrong : ChangeSpec := { name := "exactPrices", fn := fun _ => fun
  | [d1, d2] => { results := [.lit (.bool false)], args := [d1, d2] }
  | _ => none }
def ExactPricesWrongFalsely : Prop := exactPricesRow.holds Try.pinned (OpenSpec.ofChange exactPricesWrong)

/-- 'kurganlaw11.KnapNews': WHATEVER THE INPUT: true; the input reads as it did. -/
def knapNewsSpec : ChangeSpec := { name := "knapNews", fn := fun _ => fun
  | [d] => { results := [.lit (.bool true)], args := [d] }
  | _ => none }
def knapNewsRow : OpenClaim := { program := "ytleckhbmciiooaa", sum := "b21c9919389e5a4f0c06bf6a5b14eb65cb58397c060690f275caa3296b352210", func := "kurgan/kurganlaw11.KnapNews", spec := "knapNews", unfollowed := true, recurses := true, named := ["math/bits.divideError", "math/bits.overflowError"], apart := false }
def KnapNewsSaid : Prop := knapNewsRow.holds Try.pinned (OpenSpec.ofChange knapNewsSpec)

/-- ITS FALSE NEIGHBOUR: 'it returns false'. Refute it at one input. -/
def knapNewsWrong : ChangeSpec := { name := "knapNews", fn := fun _ => fun
  | [d] => { results := [.lit (.bool false)], args := [d] }
  | _ => none }
def KnapNewsWrongFalsely : Prop := knapNewsRow.holds Try.pinned (OpenSpec.ofChange knapNewsWrong)

/-- 'kurganlaw11.KnapBelow': WHATEVER THE INPUT: true; the input reads as it did. -/
def knapBelowSpec : ChangeSpec := { name := "knapBelow", fn := fun _ => fun
  | [d1, d2] => { results := [.lit (.bool true)], args := [d1, d2] }
  | _ => none }
def knapBelowRow : OpenClaim := { program := "ytleckhbmciiooaa", sum := "b21c9919389e5a4f0c06bf6a5b14eb65cb58397c060690f275caa3296b352210", func := "kurgan/kurganlaw11.KnapBelow", spec := "knapBelow", unfollowed := true, recurses := true, named := ["math/bits.divideError", "math/bits.overflowError"], apart := false }
def KnapBelowSaid : Prop := knapBelowRow.holds Try.pinned (OpenSpec.ofChange knapBelowSpec)

/-- ITS FALSE NEIGHBOUR: 'it returns false'. Refute it at one input. -/
def knapBelowWrong : ChangeSpec := { name := "knapBelow", fn := fun _ => fun
  | [d1, d2] => { results := [.lit (.bool false)], args := [d1, d2] }
  | _ => none }
def KnapBelowWrongFalsely : Prop := knapBelowRow.holds Try.pinned (OpenSpec.ofChange knapBelowWrong)

/-- 'kurganlaw11.KnapWhole': WHATEVER THE INPUT: true; the input reads as it did. -/
def knapWholeSpec : ChangeSpec := { name := "knapWhole", fn := fun _ => fun
  | [d] => { results := [.lit (.bool true)], args := [d] }
  | _ => none }
def knapWholeRow : OpenClaim := { program := "ytleckhbmciiooaa", sum := "b21c9919389e5a4f0c06bf6a5b14eb65cb58397c060690f275caa3296b352210", func := "kurgan/kurganlaw11.KnapWhole", spec := "knapWhole", unfollowed := true, recurses := true, named := ["math/bits.divideError", "math/bits.overflowError"], apart := false }
def KnapWholeSaid : Prop := knapWholeRow.holds Try.pinned (OpenSpec.ofChange knapWholeSpec)

/-- ITS FALSE NEIGHBOUR: 'it returns false'. Refute it at one input. -/
def knapWholeWrong : ChangeSpec := { name := "knapWhole", fn := fun _ => fun
  | [d] => { results := [.lit (.bool false)], args := [d] }
  | _ => none }
def KnapWholeWrongFalsely : Prop := knapWholeRow.holds Try.pinned (OpenSpec.ofChange knapWholeWrong)

/-- 'kurgantop.KurganQueues': WHATEVER THE INPUT: true; the input reads as it did. -/
def kurganQueuesSpec : ChangeSpec := { name := "kurganQueues", fn := fun _ => fun
  | [d1, d2] => { results := [.lit (.bool true)], args := [d1, d2] }
  | _ => none }
def kurganQueuesRow : OpenClaim := { program := "ytleckhbmciiooaa", sum := "b21c9919389e5a4f0c06bf6a5b14eb65cb58397c060690f275caa3296b352210", func := "kurgan/kurgantop.KurganQueues", spec := "kurganQueues", apart := false }
def KurganQueuesSaid : Prop := kurganQueuesRow.holds Try.pinned (OpenSpec.ofChange kurganQueuesSpec)

/-- ITS FALSE NEIGHBOUR: 'it returns false'. Refute it at one input. -/
def kurganQueuesWrong : ChangeSpec := { name := "kurganQueues", fn := fun _ => fun
  | [d1, d2] => { results := [.lit (.bool false)], args := [d1, d2] }
  | _ => none }
def KurganQueuesWrongFalsely : Prop := kurganQueuesRow.holds Try.pinned (OpenSpec.ofChange kurganQueuesWrong)

/-- 'kurganlaw14.KernelFaces': WHATEVER THE INPUT: true; the input reads as it did. -/
def kernelFacesSpec : ChangeSpec := { name := "kernelFaces", fn := fun _ => fun
  | [d] => { results := [.lit (.bool true)], args := [d] }
  | _ => none }
def kernelFacesRow : OpenClaim := { program := "ytleckhbmciiooaa", sum := "b21c9919389e5a4f0c06bf6a5b14eb65cb58397c060690f275caa3296b352210", func := "kurgan/kurganlaw14.KernelFaces", spec := "kernelFaces", unfollowed := true, recurses := true, apart := false }
def KernelFacesSaid : Prop := kernelFacesRow.holds Try.pinned (OpenSpec.ofChange kernelFacesSpec)

/-- ITS FALSE NEIGHBOUR: 'it returns false'. Refute it at one input. -/
def kernelFacesWrong : ChangeSpec := { name := "kernelFaces", fn := fun _ => fun
  | [d] => { results := [.lit (.bool false)], args := [d] }
  | _ => none }
def KernelFacesWrongFalsely : Prop := kernelFacesRow.holds Try.pinned (OpenSpec.ofChange kernelFacesWrong)

/- THE SECOND FORM. 'bulk': how many values and letters a reading holds, each counted each time it is reached (what is shared counts as often as it is met; a slice's spare places count too). A statement '..UptoSaid' is the law's where the arguments, and the package variables that the reading takes, are together of bulk at most 1048576: NARROWER than '..Said'. Prove '..Said' where nothing that the law and all that it calls make is longer than what came in: it says more and counts as full. Else prove '..UptoSaid'. A law counts once. -/
mutual
def uptoBulk {H : Type} : DataW H → Nat
  | .lit (.string bytes) => bytes.length + 1
  | .lit _ => 1
  | .nil => 1
  | .ptr d => uptoBulk d + 1
  | .slice elems spare => uptoBulkAll elems + uptoBulkAll spare + 1
  | .agg parts => uptoBulkAll parts + 1
  | .iface _ d => uptoBulk d + 1
  | .map entries => uptoBulkEntries entries + 1
  | .held _ => 1
def uptoBulkAll {H : Type} : List (DataW H) → Nat
  | [] => 0
  | d :: r => uptoBulk d + uptoBulkAll r
def uptoBulkEntries {H : Type} : List (Lit × DataW H) → Nat
  | [] => 0
  | x :: r => uptoBulkEntry x + uptoBulkEntries r
def uptoBulkEntry {H : Type} : Lit × DataW H → Nat
  | (.string bytes, d) => bytes.length + uptoBulk d + 1
  | (_, d) => uptoBulk d + 1
 end
def uptoSmall : (H : Type) → List (DataW H) → Bool := fun _ ds => decide (uptoBulkAll ds ≤ 1048576)
def OpenSpec.upto (s : _root_.Go.ChangeSpec) : _root_.Go.OpenSpec := { _root_.Go.OpenSpec.ofChange s with cond := some uptoSmall }

/-- 'kurganlaw15.ExactPrices', WHERE WHAT IT READS IS OF BULK AT MOST 1048576: true; the input reads as it did. -/
def exactPricesUptoRow : OpenClaim := { program := "ytleckhbmciiooaa", sum := "b21c9919389e5a4f0c06bf6a5b14eb65cb58397c060690f275caa3296b352210", func := "kurgan/kurganlaw15.ExactPrices", spec := "exactPrices", unfollowed := true, recurses := true, apart := false, narrowed := true }
def ExactPricesUptoSaid : Prop := exactPricesUptoRow.holds Try.pinned (OpenSpec.upto exactPricesSpec)

/-- 'kurganlaw11.KnapNews', WHERE WHAT IT READS IS OF BULK AT MOST 1048576: true; the input reads as it did. -/
def knapNewsUptoRow : OpenClaim := { program := "ytleckhbmciiooaa", sum := "b21c9919389e5a4f0c06bf6a5b14eb65cb58397c060690f275caa3296b352210", func := "kurgan/kurganlaw11.KnapNews", spec := "knapNews", unfollowed := true, recurses := true, named := ["math/bits.divideError", "math/bits.overflowError"], apart := false, narrowed := true }
def KnapNewsUptoSaid : Prop := knapNewsUptoRow.holds Try.pinned (OpenSpec.upto knapNewsSpec)

/-- 'kurganlaw11.KnapBelow', WHERE WHAT IT READS IS OF BULK AT MOST 1048576: true; the input reads as it did. -/
def knapBelowUptoRow : OpenClaim := { program := "ytleckhbmciiooaa", sum := "b21c9919389e5a4f0c06bf6a5b14eb65cb58397c060690f275caa3296b352210", func := "kurgan/kurganlaw11.KnapBelow", spec := "knapBelow", unfollowed := true, recurses := true, named := ["math/bits.divideError", "math/bits.overflowError"], apart := false, narrowed := true }
def KnapBelowUptoSaid : Prop := knapBelowUptoRow.holds Try.pinned (OpenSpec.upto knapBelowSpec)

/-- 'kurganlaw11.KnapWhole', WHERE WHAT IT READS IS OF BULK AT MOST 1048576: true; the input reads as it did. -/
def knapWholeUptoRow : OpenClaim := { program := "ytleckhbmciiooaa", sum := "b21c9919389e5a4f0c06bf6a5b14eb65cb58397c060690f275caa3296b352210", func := "kurgan/kurganlaw11.KnapWhole", spec := "knapWhole", unfollowed := true, recurses := true, named := ["math/bits.divideError", "math/bits.overflowError"], apart := false, narrowed := true }
def KnapWholeUptoSaid : Prop := knapWholeUptoRow.holds Try.pinned (OpenSpec.upto knapWholeSpec)

/-- 'kurgantop.KurganQueues', WHERE WHAT IT READS IS OF BULK AT MOST 1048576: true; the input reads as it did. -/
def kurganQueuesUptoRow : OpenClaim := { program := "ytleckhbmciiooaa", sum := "b21c9919389e5a4f0c06bf6a5b14eb65cb58397c060690f275caa3296b352210", func := "kurgan/kurgantop.KurganQueues", spec := "kurganQueues", apart := false, narrowed := true }
def KurganQueuesUptoSaid : Prop := kurganQueuesUptoRow.holds Try.pinned (OpenSpec.upto kurganQueuesSpec)

/-- 'kurganlaw14.KernelFaces', WHERE WHAT IT READS IS OF BULK AT MOST 1048576: true; the input reads as it did. -/
def kernelFacesUptoRow : OpenClaim := { program := "ytleckhbmciiooaa", sum := "b21c9919389e5a4f0c06bf6a5b14eb65cb58397c060690f275caa3296b352210", func := "kurgan/kurganlaw14.KernelFaces", spec := "kernelFaces", unfollowed := true, recurses := true, apart := false, narrowed := true }
def KernelFacesUptoSaid : Prop := kernelFacesUptoRow.holds Try.pinned (OpenSpec.upto kernelFacesSpec)

end Rows
end Go.Proofs.Ytleckhbmciiooaa
