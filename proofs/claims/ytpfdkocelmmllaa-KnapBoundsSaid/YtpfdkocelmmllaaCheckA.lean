/-
  The document's number, alone.
-/
import Derived.Test.YtpfdkocelmmllaaCopyB
namespace Go.Proofs.Ytpfdkocelmmllaa
open Go.RowKit Go.ChangeShapes Go.WideShapes Go.ChangeAt Go.Deep

/-- one number by itself: its error, or none -/
def numP (n : Int) : Int := if n < 0 then 1 else if 2147483647 < n then 5 else 0
theorem number_any (n : Int) (w : World) : Calls Try.prog 54 #[.int .i64 n] w fun e w' => e = .returned (.int .i64 (numP n)) ∧ Ext w w' := by
  unfold numP
  by_cases h1 : n < 0
  · rw [if_pos h1]
    go_enter Try.func54, Try.ntmps54
    go_wp2_with (fail)
    exact bodyPost_ret (v := .int .i64 1) (by simp [results, Try.results54, go_sem]) rfl ⟨rfl, by (repeat (first | assumption | exact Ext.rf _ | apply Ext.drew | apply Ext.drewN | apply Ext.alloc))⟩
  · rw [if_neg h1]
    by_cases h2 : 2147483647 < n
    · rw [if_pos h2]
      go_enter Try.func54, Try.ntmps54
      go_wp2_with (fail)
      exact bodyPost_ret (v := .int .i64 5) (by simp [results, Try.results54, go_sem]) rfl ⟨rfl, by (repeat (first | assumption | exact Ext.rf _ | apply Ext.drew | apply Ext.drewN | apply Ext.alloc))⟩
    · rw [if_neg h2]
      go_enter Try.func54, Try.ntmps54
      go_wp2_with (fail)
      exact bodyPost_ret (v := .int .i64 0) (by simp [results, Try.results54, go_sem]) rfl ⟨rfl, by (repeat (first | assumption | exact Ext.rf _ | apply Ext.drew | apply Ext.drewN | apply Ext.alloc))⟩
end Go.Proofs.Ytpfdkocelmmllaa
