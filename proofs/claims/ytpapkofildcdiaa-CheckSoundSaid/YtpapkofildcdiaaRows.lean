/-
  No cell of these rows narrows 'for every input' (looked for: loops, veiled, ifaces, maps, wideKeys, modest, calm, conditions, laid).
  DERIVED. THE GIVEN ROWS OF THIS SEAT. 3 by the template 'for every input the law returns true; each argument reads behind the call as it read before'; 0 by the template 'total and deterministic' (their statements: YtpapkofildcdiaaTotals.lean).
  GIVEN WITH THE SEED: the statements are not yours to turn. If you find one false, say at which input.
  Laid BY PROGRAM, IN A SANDBOX (cutbox-rows.mjs): the forced cells as the released guide's own fill.sh prints them over the translation 5685bc56cacee9f8… (all of the seat's roots in one cut). By AI agents, Wed Nov 11 2026. No macro, syntax, notation, axiom, sorry.
-/
import Derived.Test.YtpapkofildcdiaaChecked
import GoSem.Claim
import GoSem.ClaimJoined
import GoSem.ClaimMapViews
import Derived.JoinedTies
import Derived.KernelRfl
namespace Go.Proofs.Ytpapkofildcdiaa
/- THE CELL 'sum', in the pinned program and in every row, IS THE sha256 OF THE DUMP (.gsa) THAT YtpapkofildcdiaaProg.lean LOADS. Nothing in Lean hashes anything: it is a label: what it is worth is what the hold of that sum in a sandbox is worth. -/
noncomputable def Try.pinned : Pinned := { name := "ytpapkofildcdiaa", sum := "5685bc56cacee9f8c20c7ac0933bab4cdf64189574ad601e948c41663a75c1b6", checked := Try.checked }
namespace Rows
def none {H : Type} : Left H := { results := [], args := [] }

/-- 'kurganlaw31.CheckTells': WHATEVER THE INPUT: true; the input reads as it did. -/
def checkTellsSpec : ChangeSpec := { name := "checkTells", fn := fun _ => fun
  | [d1, d2] => { results := [.lit (.bool true)], args := [d1, d2] }
  | _ => none }
def checkTellsRow : OpenClaim := { program := "ytpapkofildcdiaa", sum := "5685bc56cacee9f8c20c7ac0933bab4cdf64189574ad601e948c41663a75c1b6", func := "kurgan/kurganlaw31.CheckTells", spec := "checkTells", unfollowed := true, recurses := true, apart := false }
def CheckTellsSaid : Prop := checkTellsRow.holds Try.pinned (OpenSpec.ofChange checkTellsSpec)

/-- ITS FALSE NEIGHBOUR: 'it returns false'. Refute it at one input. -/
def checkTellsWrong : ChangeSpec := { name := "checkTells", fn := fun _ => fun
  | [d1, d2] => { results := [.lit (.bool false)], args := [d1, d2] }
  | _ => none }
def CheckTellsWrongFalsely : Prop := checkTellsRow.holds Try.pinned (OpenSpec.ofChange checkTellsWrong)

/-- 'kurganlaw31.CheckSound': WHATEVER THE INPUT: true; the input reads as it did. -/
def checkSoundSpec : ChangeSpec := { name := "checkSound", fn := fun _ => fun
  | [d1, d2] => { results := [.lit (.bool true)], args := [d1, d2] }
  | _ => none }
def checkSoundRow : OpenClaim := { program := "ytpapkofildcdiaa", sum := "5685bc56cacee9f8c20c7ac0933bab4cdf64189574ad601e948c41663a75c1b6", func := "kurgan/kurganlaw31.CheckSound", spec := "checkSound", unfollowed := true, recurses := true, apart := false }
def CheckSoundSaid : Prop := checkSoundRow.holds Try.pinned (OpenSpec.ofChange checkSoundSpec)

/-- ITS FALSE NEIGHBOUR: 'it returns false'. Refute it at one input. -/
def checkSoundWrong : ChangeSpec := { name := "checkSound", fn := fun _ => fun
  | [d1, d2] => { results := [.lit (.bool false)], args := [d1, d2] }
  | _ => none }
def CheckSoundWrongFalsely : Prop := checkSoundRow.holds Try.pinned (OpenSpec.ofChange checkSoundWrong)

/-- 'kurganlaw31.CheckWords': WHATEVER THE INPUT: true; the input reads as it did. -/
def checkWordsSpec : ChangeSpec := { name := "checkWords", fn := fun _ => fun
  | [d1, d2] => { results := [.lit (.bool true)], args := [d1, d2] }
  | _ => none }
def checkWordsRow : OpenClaim := { program := "ytpapkofildcdiaa", sum := "5685bc56cacee9f8c20c7ac0933bab4cdf64189574ad601e948c41663a75c1b6", func := "kurgan/kurganlaw31.CheckWords", spec := "checkWords", unfollowed := true, recurses := true, apart := false }
def CheckWordsSaid : Prop := checkWordsRow.holds Try.pinned (OpenSpec.ofChange checkWordsSpec)

/-- ITS FALSE NEIGHBOUR: 'it returns false'. Refute it at one input. -/
def checkWordsWrong : ChangeSpec := { name := "checkWords", fn := fun _ => fun
  | [d1, d2] => { results := [.lit (.bool false)], args := [d1, d2] }
  | _ => none }
def CheckWordsWrongFalsely : Prop := checkWordsRow.holds Try.pinned (OpenSpec.ofChange checkWordsWrong)

/- THE SECOND FORM. 'bulk': how many values and letters a reading holds, each counted each time it is reached (what is shared counts as often as it is met; a slice's spare places count too). A statement '..UptoSaid' is the law's where the arguments, and the package variables that the reading takes, are together of bulk at most 1048576: NARROWER than '..Said'. Prove '..Said' where nothing that the law and all that it calls make is longer than what came in: it says more and counts as full. Else prove '..UptoSaid'. A law counts once. -/
mutual
def uptoBulk {H : Type} : DataW H → Nat
  | .lit (.string bytes) => bytes.length + 1
  | .lit _ => 1
  | .nil => 1
  | .ptr d => uptoBulk d + 1
  | .slice elems spare => uptoBulkAll elems + uptoBulkAll spare + 1
  | .agg parts => uptoBulkAll parts + 1
  | .iface _ d => uptoBulk d + 1
  | .map entries => uptoBulkEntries entries + 1
  | .held _ => 1
def uptoBulkAll {H : Type} : List (DataW H) → Nat
  | [] => 0
  | d :: r => uptoBulk d + uptoBulkAll r
def uptoBulkEntries {H : Type} : List (Lit × DataW H) → Nat
  | [] => 0
  | x :: r => uptoBulkEntry x + uptoBulkEntries r
def uptoBulkEntry {H : Type} : Lit × DataW H → Nat
  | (.string bytes, d) => bytes.length + uptoBulk d + 1
  | (_, d) => uptoBulk d + 1
 end
def uptoSmall : (H : Type) → List (DataW H) → Bool := fun _ ds => decide (uptoBulkAll ds ≤ 1048576)
def OpenSpec.upto (s : _root_.Go.ChangeSpec) : _root_.Go.OpenSpec := { _root_.Go.OpenSpec.ofChange s with cond := some uptoSmall }

/-- 'kurganlaw31.CheckTells', WHERE WHAT IT READS IS OF BULK AT MOST 1048576: true; the input reads as it did. -/
def checkTellsUptoRow : OpenClaim := { program := "ytpapkofildcdiaa", sum := "5685bc56cacee9f8c20c7ac0933bab4cdf64189574ad601e948c41663a75c1b6", func := "kurgan/kurganlaw31.CheckTells", spec := "checkTells", unfollowed := true, recurses := true, apart := false, narrowed := true }
def CheckTellsUptoSaid : Prop := checkTellsUptoRow.holds Try.pinned (OpenSpec.upto checkTellsSpec)

/-- 'kurganlaw31.CheckSound', WHERE WHAT IT READS IS OF BULK AT MOST 1048576: true; the input reads as it did. -/
def checkSoundUptoRow : OpenClaim := { program := "ytpapkofildcdiaa", sum := "5685bc56cacee9f8c20c7ac0933bab4cdf64189574ad601e948c41663a75c1b6", func := "kurgan/kurganlaw31.CheckSound", spec := "checkSound", unfollowed := true, recurses := true, apart := false, narrowed := true }
def CheckSoundUptoSaid : Prop := checkSoundUptoRow.holds Try.pinned (OpenSpec.upto checkSoundSpec)

/-- 'kurganlaw31.CheckWords', WHERE WHAT IT READS IS OF BULK AT MOST 1048576: true; the input reads as it did. -/
def checkWordsUptoRow : OpenClaim := { program := "ytpapkofildcdiaa", sum := "5685bc56cacee9f8c20c7ac0933bab4cdf64189574ad601e948c41663a75c1b6", func := "kurgan/kurganlaw31.CheckWords", spec := "checkWords", unfollowed := true, recurses := true, apart := false, narrowed := true }
def CheckWordsUptoSaid : Prop := checkWordsUptoRow.holds Try.pinned (OpenSpec.upto checkWordsSpec)

end Rows
end Go.Proofs.Ytpapkofildcdiaa
