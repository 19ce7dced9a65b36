/-
  The program's number and size, alone.
-/
import Derived.Test.YtpfdkocelmmllaaCheckA
namespace Go.Proofs.Ytpfdkocelmmllaa
open Go.RowKit Go.ChangeShapes Go.WideShapes Go.ChangeAt Go.Deep

theorem pnumber_any (n : Int) (w : World) : Calls Try.prog 126 #[.int .i64 n] w fun e w' => e = .returned (.int .i64 (numP n)) ∧ Ext w w' := by
  unfold numP
  by_cases h1 : n < 0
  · rw [if_pos h1]
    go_enter Try.func126, Try.ntmps126
    go_wp2_with (fail)
    exact bodyPost_ret (v := .int .i64 1) (by simp [results, Try.results126, go_sem]) rfl ⟨rfl, by (repeat (first | assumption | exact Ext.rf _ | apply Ext.drew | apply Ext.drewN | apply Ext.alloc))⟩
  · rw [if_neg h1]
    by_cases h2 : 2147483647 < n
    · rw [if_pos h2]
      go_enter Try.func126, Try.ntmps126
      go_wp2_with (fail)
      exact bodyPost_ret (v := .int .i64 5) (by simp [results, Try.results126, go_sem]) rfl ⟨rfl, by (repeat (first | assumption | exact Ext.rf _ | apply Ext.drew | apply Ext.drewN | apply Ext.alloc))⟩
    · rw [if_neg h2]
      go_enter Try.func126, Try.ntmps126
      go_wp2_with (fail)
      exact bodyPost_ret (v := .int .i64 0) (by simp [results, Try.results126, go_sem]) rfl ⟨rfl, by (repeat (first | assumption | exact Ext.rf _ | apply Ext.drew | apply Ext.drewN | apply Ext.alloc))⟩
/-- the count of items or rows: its error, or none -/
def sizeP (k n : Int) : Int := if k = 1 then (if n < 1 then 1 else if 64 < n then 5 else 0) else if k = 2 then (if n < 1 then 1 else if 24 < n then 5 else 0) else if k = 3 then (if n < 1 then 1 else if 24 < n then 5 else 0) else 14
set_option maxRecDepth 100000 in
theorem size_any (k n cap : Int) (a b c : Value) (w : World) : Calls Try.prog 87 #[.agg #[.int .i64 k, .int .i64 n, .int .i64 cap, a, b, c]] w fun e w' => e = .returned (.int .i64 (sizeP k n)) ∧ Ext w w' := by
  unfold sizeP
  by_cases k1 : k = 1
  · subst k1
    rw [if_pos rfl]
    by_cases h1 : n < 1
    · rw [if_pos h1]
      go_enter Try.func87, Try.ntmps87
      go_wp2_with (fail)
      exact bodyPost_ret (v := .int .i64 1) (by simp [results, Try.results87, go_sem]) rfl ⟨rfl, by (repeat (first | assumption | exact Ext.rf _ | apply Ext.drew | apply Ext.drewN | apply Ext.alloc))⟩
    · rw [if_neg h1]
      by_cases h2 : 64 < n
      · rw [if_pos h2]
        go_enter Try.func87, Try.ntmps87
        go_wp2_with (fail)
        exact bodyPost_ret (v := .int .i64 5) (by simp [results, Try.results87, go_sem]) rfl ⟨rfl, by (repeat (first | assumption | exact Ext.rf _ | apply Ext.drew | apply Ext.drewN | apply Ext.alloc))⟩
      · rw [if_neg h2]
        go_enter Try.func87, Try.ntmps87
        go_wp2_with (fail)
        exact bodyPost_ret (v := .int .i64 0) (by simp [results, Try.results87, go_sem]) rfl ⟨rfl, by (repeat (first | assumption | exact Ext.rf _ | apply Ext.drew | apply Ext.drewN | apply Ext.alloc))⟩
  · rw [if_neg k1]
    by_cases k2 : k = 2
    · subst k2
      rw [if_pos rfl]
      by_cases h1 : n < 1
      · rw [if_pos h1]
        go_enter Try.func87, Try.ntmps87
        go_wp2_with (fail)
        exact bodyPost_ret (v := .int .i64 1) (by simp [results, Try.results87, go_sem]) rfl ⟨rfl, by (repeat (first | assumption | exact Ext.rf _ | apply Ext.drew | apply Ext.drewN | apply Ext.alloc))⟩
      · rw [if_neg h1]
        by_cases h2 : 24 < n
        · rw [if_pos h2]
          go_enter Try.func87, Try.ntmps87
          go_wp2_with (fail)
          exact bodyPost_ret (v := .int .i64 5) (by simp [results, Try.results87, go_sem]) rfl ⟨rfl, by (repeat (first | assumption | exact Ext.rf _ | apply Ext.drew | apply Ext.drewN | apply Ext.alloc))⟩
        · rw [if_neg h2]
          go_enter Try.func87, Try.ntmps87
          go_wp2_with (fail)
          exact bodyPost_ret (v := .int .i64 0) (by simp [results, Try.results87, go_sem]) rfl ⟨rfl, by (repeat (first | assumption | exact Ext.rf _ | apply Ext.drew | apply Ext.drewN | apply Ext.alloc))⟩
    · rw [if_neg k2]
      by_cases k3 : k = 3
      · subst k3
        rw [if_pos rfl]
        by_cases h1 : n < 1
        · rw [if_pos h1]
          go_enter Try.func87, Try.ntmps87
          go_wp2_with (fail)
          exact bodyPost_ret (v := .int .i64 1) (by simp [results, Try.results87, go_sem]) rfl ⟨rfl, by (repeat (first | assumption | exact Ext.rf _ | apply Ext.drew | apply Ext.drewN | apply Ext.alloc))⟩
        · rw [if_neg h1]
          by_cases h2 : 24 < n
          · rw [if_pos h2]
            go_enter Try.func87, Try.ntmps87
            go_wp2_with (fail)
            exact bodyPost_ret (v := .int .i64 5) (by simp [results, Try.results87, go_sem]) rfl ⟨rfl, by (repeat (first | assumption | exact Ext.rf _ | apply Ext.drew | apply Ext.drewN | apply Ext.alloc))⟩
          · rw [if_neg h2]
            go_enter Try.func87, Try.ntmps87
            go_wp2_with (fail)
            exact bodyPost_ret (v := .int .i64 0) (by simp [results, Try.results87, go_sem]) rfl ⟨rfl, by (repeat (first | assumption | exact Ext.rf _ | apply Ext.drew | apply Ext.drewN | apply Ext.alloc))⟩
      · rw [if_neg k3]
        go_enter Try.func87, Try.ntmps87
        go_wp2_with (fail)
        exact bodyPost_ret (v := .int .i64 14) (by simp [results, Try.results87, go_sem]) rfl ⟨rfl, by (repeat (first | assumption | exact Ext.rf _ | apply Ext.drew | apply Ext.drewN | apply Ext.alloc))⟩
end Go.Proofs.Ytpfdkocelmmllaa
