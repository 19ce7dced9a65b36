/-
  The program's sizes, products and Cross of small numbers.
-/
import Derived.Test.YtpfdkocelmmllaaArithA
namespace Go.Proofs.Ytpfdkocelmmllaa
open Go.RowKit Go.ChangeShapes Go.WideShapes Go.ChangeAt Go.Deep

theorem size64_any (a : Int) (w : World) (ha : 0 ≤ a) (ha' : a ≤ 2147483647) :
    Calls Try.prog 148 #[.int .i64 a] w fun e w' => e = .returned (.int .u64 a) ∧ Ext w w' := by
  have wm : IntKind.u64.wrap a = a := wraps_u64 _ ha (by omega)
  go_enter Try.func148, Try.ntmps148
  go_wp2
  go_ret
  exact ⟨rfl, Ext.rf _⟩
/-- a sum of which one part is nought -/
def sgnP (a b : Int) : Int := if a = 0 ∨ b = 0 then 0 else 1
set_option maxRecDepth 100000 in
set_option maxHeartbeats 1000000 in
theorem product_any (a b : Int) (w : World) (ha : 0 ≤ a) (ha' : a ≤ 2147483647) (hb : 0 ≤ b) (hb' : b ≤ 2147483647) :
    Calls Try.prog 128 #[.int .i64 a, .int .i64 b] w fun e w' => e = .returned (.tuple #[.int .i64 (sgnP a b), .agg #[.int .u64 0, .int .u64 (a * b)]]) ∧ Ext w w' := by
  have na : decide (a < 0) = false := by simpa using ha
  have nb : decide (b < 0) = false := by simpa using hb
  have B0 : Hid (Blk (w.alloc (.cells #[.int .u64 0, .int .u64 0] 139)) w.heap.size 139 #[.int .u64 0, .int .u64 0]) := .new rfl
  go_enter Try.func128, Try.ntmps128
  go_wp2_with (fail)
  refine (size64_any a _ ha ha').mono ?_
  rintro e w1 ⟨rfl, x1⟩
  go_wp2_with (fail)
  refine (size64_any b _ hb hb').mono ?_
  rintro e w2 ⟨rfl, x2⟩
  go_wp2_with (fail)
  refine (mul64_any a b _ ha ha' hb hb').mono ?_
  rintro e w3 ⟨rfl, x3⟩
  have X3 : Ext w w3 := Ext.tr (Ext.tr (Ext.tr ((Ext.rf w).alloc _) x1) x2) x3
  have B3 := Lib.hid (((B0.out.ext x1).ext x2).ext x3)
  have X4 := Lib.hid ((X3.setNew (p := ⟨w.heap.size, 0, none⟩) (Nat.le_refl _) (.int .u64 0)).setNew (p := ⟨w.heap.size, 1, none⟩) (Nat.le_refl _) (.int .u64 (a * b)))
  have c0 : w3.cell? ⟨w.heap.size, 0, none⟩ = some (.int .u64 0) := B3.out.cell 0
  have c1 : w3.cell? ⟨w.heap.size, 1, none⟩ = some (.int .u64 0) := B3.out.cell 1
  have f0 := B3.out.free 0
  have f1 := B3.out.free 1
  clear X3
  by_cases a0 : a = 0
  · subst a0
    have e1 : Hid (sgnP 0 b = 0) := rfl
    have e2 : Hid ((0 : Int) * b = 0) := Int.zero_mul b
    have X5 : Hid (Ext w ((w3.setCell ⟨w.heap.size, 0, none⟩ (.int .u64 0)).setCell ⟨w.heap.size, 1, none⟩ (.int .u64 0))) := by
      have h := X4.out
      rw [e2.out] at h
      exact h
    clear X4
    go_wp2
    exact bodyPost_ret (v := .tuple #[.int .i64 0, .agg #[.int .u64 0, .int .u64 0]]) (by simp [results, Try.results128, go_sem, *]) rfl ⟨by rw [e1.out, e2.out], X5.out⟩
  · have a0' : (a == 0) = false := by simpa using a0
    by_cases b0 : b = 0
    · subst b0
      have e1 : Hid (sgnP a 0 = 0) := by
        have h : sgnP a 0 = 0 := by simp [sgnP]
        exact h
      have e2 : Hid (a * (0 : Int) = 0) := Int.mul_zero a
      have X5 : Hid (Ext w ((w3.setCell ⟨w.heap.size, 0, none⟩ (.int .u64 0)).setCell ⟨w.heap.size, 1, none⟩ (.int .u64 0))) := by
        have h := X4.out
        rw [e2.out] at h
        exact h
      clear X4 a0
      go_wp2
      exact bodyPost_ret (v := .tuple #[.int .i64 0, .agg #[.int .u64 0, .int .u64 0]]) (by simp [results, Try.results128, go_sem, *]) rfl ⟨by rw [e1.out, e2.out], X5.out⟩
    · have b0' : (b == 0) = false := by simpa using b0
      have e1 : Hid (sgnP a b = 1) := by
        have h : sgnP a b = 1 := by simp [sgnP, a0, b0]
        exact h
      clear a0 b0
      go_wp2
      exact bodyPost_ret (v := .tuple #[.int .i64 1, .agg #[.int .u64 0, .int .u64 (a * b)]]) (by simp [results, Try.results128, go_sem, *]) rfl ⟨by rw [e1.out], X4.out⟩
/-- which of two sizes is less -/
def ordP (x y : Int) : Int := if x = y then 0 else if x < y then -1 else 1
theorem order_any (x y : Int) (w : World) : Calls Try.prog 129 #[.agg #[.int .u64 0, .int .u64 x], .agg #[.int .u64 0, .int .u64 y]] w fun e w' => e = .returned (.int .i64 (ordP x y)) ∧ Ext w w' := by
  unfold ordP
  by_cases h : x = y
  · subst h
    rw [if_pos rfl]
    go_enter Try.func129, Try.ntmps129
    go_wp2
    go_ret
    exact ⟨rfl, by (repeat (first | assumption | exact Ext.rf _ | apply Ext.drew | apply Ext.drewN | apply Ext.alloc))⟩
  · rw [if_neg h]
    by_cases h1 : x < y
    · rw [if_pos h1]
      have h' : (x == y) = false := by simpa using h
      clear h
      go_enter Try.func129, Try.ntmps129
      go_wp2
      go_ret
      exact ⟨rfl, by (repeat (first | assumption | exact Ext.rf _ | apply Ext.drew | apply Ext.drewN | apply Ext.alloc))⟩
    · rw [if_neg h1]
      have h' : (x == y) = false := by simpa using h
      clear h
      go_enter Try.func129, Try.ntmps129
      go_wp2
      go_ret
      exact ⟨rfl, by (repeat (first | assumption | exact Ext.rf _ | apply Ext.drew | apply Ext.drewN | apply Ext.alloc))⟩
end Go.Proofs.Ytpfdkocelmmllaa
