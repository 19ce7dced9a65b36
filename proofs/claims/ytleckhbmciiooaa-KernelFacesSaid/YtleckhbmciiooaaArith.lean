/-
  bits.Mul64 of small numbers; the program's sizes, products and Cross of small numbers.
  The program's sizes, products and Cross of small numbers.
  The program's Cross of small numbers.
-/
import Derived.Test.YtleckhbmciiooaaK
import Derived.Lib.VarintBits
namespace Go.Proofs.Ytleckhbmciiooaa
open Go.RowKit Go.ChangeShapes Go.WideShapes Go.ChangeAt Go.Deep

theorem u64_and32 (x : Int) (h₀ : 0 ≤ x) (h₁ : x < 18446744073709551616) : bits .and .u64 x 4294967295 = x % 4294967296 := bits_mask .u64 64 (by decide) wraps_u64 32 (by decide) x h₀ h₁
theorem mul_bd {a b : Int} (ha : 0 ≤ a) (ha' : a ≤ 2147483647) (hb : 0 ≤ b) (hb' : b ≤ 2147483647) : 0 ≤ a * b ∧ a * b ≤ 4611686014132420609 := by
  refine ⟨Int.mul_nonneg ha hb, ?_⟩
  have h1 : a * b ≤ 2147483647 * b := Int.mul_le_mul_of_nonneg_right ha' hb
  omega
set_option maxRecDepth 100000 in
theorem mul64_any (a b : Int) (w : World) (ha : 0 ≤ a) (ha' : a ≤ 2147483647) (hb : 0 ≤ b) (hb' : b ≤ 2147483647) :
    Calls Try.prog 146 #[.int .u64 a, .int .u64 b] w fun e w' => e = .returned (.tuple #[.int .u64 0, .int .u64 (a * b)]) ∧ Ext w w' := by
  have ea : Hid (bits BinOp.and IntKind.u64 a 4294967295 = a) := by
    have h := u64_and32 a ha (by omega)
    rw [Int.emod_eq_of_lt ha (by omega)] at h
    exact h
  have eb : Hid (bits BinOp.and IntKind.u64 b 4294967295 = b) := by
    have h := u64_and32 b hb (by omega)
    rw [Int.emod_eq_of_lt hb (by omega)] at h
    exact h
  have da : Hid (a / 4294967296 = 0) := by
    have h : a / 4294967296 = 0 := by omega
    exact h
  have db : Hid (b / 4294967296 = 0) := by
    have h : b / 4294967296 = 0 := by omega
    exact h
  have hm := mul_bd ha ha' hb hb'
  have wm : Hid (IntKind.u64.wrap (a * b) = a * b) := wraps_u64 _ hm.1 (by omega)
  have dm : Hid (∃ q : Int, 0 ≤ q ∧ q < 4294967296 ∧ a * b / 4294967296 = q) := by
    have h : ∃ q : Int, 0 ≤ q ∧ q < 4294967296 ∧ a * b / 4294967296 = q := ⟨_, by omega, by omega, rfl⟩
    exact h
  have w0 : Hid (IntKind.u64.wrap 0 = 0) := by
    have h : IntKind.u64.wrap 0 = 0 := by decide
    exact h
  clear hm
  go_enter Try.func146, Try.ntmps146
  go_wp2
  refine bodyPost_ret (v := .tuple #[.int .u64 0, .int .u64 (a * b)]) ?_ rfl ⟨rfl, Ext.rf _⟩
  obtain ⟨q, hq0, hq1, hq⟩ := dm.out
  have w1 := ea.out
  have w2 := eb.out
  have w3 := da.out
  have w4 := db.out
  have w5 := wm.out
  have w6 := w0.out
  have wq := wraps_u64 q hq0 (by omega)
  have dq : q / 4294967296 = 0 := by omega
  have aq : bits BinOp.and IntKind.u64 q 4294967295 = q := by
    have h := u64_and32 q hq0 (by omega)
    rw [Int.emod_eq_of_lt hq0 hq1] at h
    exact h
  simp only [w1, w2, w3, w4, w5, w6, hq, Int.zero_mul, Int.mul_zero, Int.add_zero, Int.zero_add, wq, dq, aq]
  simp [results, Try.results146, go_sem]
end Go.Proofs.Ytleckhbmciiooaa
namespace Go.Proofs.Ytleckhbmciiooaa
open Go.RowKit Go.ChangeShapes Go.WideShapes Go.ChangeAt Go.Deep

theorem size64_any (a : Int) (w : World) (ha : 0 ≤ a) (ha' : a ≤ 2147483647) :
    Calls Try.prog 161 #[.int .i64 a] w fun e w' => e = .returned (.int .u64 a) ∧ Ext w w' := by
  have wm : IntKind.u64.wrap a = a := wraps_u64 _ ha (by omega)
  go_enter Try.func161, Try.ntmps161
  go_wp2
  go_ret
  exact ⟨rfl, Ext.rf _⟩
/-- a sum of which one part is nought -/
def sgnP (a b : Int) : Int := if a = 0 ∨ b = 0 then 0 else 1
set_option maxRecDepth 100000 in
set_option maxHeartbeats 1000000 in
theorem product_any (a b : Int) (w : World) (ha : 0 ≤ a) (ha' : a ≤ 2147483647) (hb : 0 ≤ b) (hb' : b ≤ 2147483647) :
    Calls Try.prog 144 #[.int .i64 a, .int .i64 b] w fun e w' => e = .returned (.tuple #[.int .i64 (sgnP a b), .agg #[.int .u64 0, .int .u64 (a * b)]]) ∧ Ext w w' := by
  have na : decide (a < 0) = false := by simpa using ha
  have nb : decide (b < 0) = false := by simpa using hb
  have B0 : Hid (Blk (w.alloc (.cells #[.int .u64 0, .int .u64 0] 166)) w.heap.size 166 #[.int .u64 0, .int .u64 0]) := .new rfl
  go_enter Try.func144, Try.ntmps144
  go_wp2_with (fail)
  refine (size64_any a _ ha ha').mono ?_
  rintro e w1 ⟨rfl, x1⟩
  go_wp2_with (fail)
  refine (size64_any b _ hb hb').mono ?_
  rintro e w2 ⟨rfl, x2⟩
  go_wp2_with (fail)
  refine (mul64_any a b _ ha ha' hb hb').mono ?_
  rintro e w3 ⟨rfl, x3⟩
  have X3 : Ext w w3 := Ext.tr (Ext.tr (Ext.tr ((Ext.rf w).alloc _) x1) x2) x3
  have B3 := Lib.hid (((B0.out.ext x1).ext x2).ext x3)
  have X4 := Lib.hid ((X3.setNew (p := ⟨w.heap.size, 0, none⟩) (Nat.le_refl _) (.int .u64 0)).setNew (p := ⟨w.heap.size, 1, none⟩) (Nat.le_refl _) (.int .u64 (a * b)))
  have c0 : w3.cell? ⟨w.heap.size, 0, none⟩ = some (.int .u64 0) := B3.out.cell 0
  have c1 : w3.cell? ⟨w.heap.size, 1, none⟩ = some (.int .u64 0) := B3.out.cell 1
  have f0 := B3.out.free 0
  have f1 := B3.out.free 1
  clear X3
  by_cases a0 : a = 0
  · subst a0
    have e1 : Hid (sgnP 0 b = 0) := rfl
    have e2 : Hid ((0 : Int) * b = 0) := Int.zero_mul b
    have X5 : Hid (Ext w ((w3.setCell ⟨w.heap.size, 0, none⟩ (.int .u64 0)).setCell ⟨w.heap.size, 1, none⟩ (.int .u64 0))) := by
      have h := X4.out
      rw [e2.out] at h
      exact h
    clear X4
    go_wp2
    exact bodyPost_ret (v := .tuple #[.int .i64 0, .agg #[.int .u64 0, .int .u64 0]]) (by simp [results, Try.results144, go_sem, *]) rfl ⟨by rw [e1.out, e2.out], X5.out⟩
  · have a0' : (a == 0) = false := by simpa using a0
    by_cases b0 : b = 0
    · subst b0
      have e1 : Hid (sgnP a 0 = 0) := by
        have h : sgnP a 0 = 0 := by simp [sgnP]
        exact h
      have e2 : Hid (a * (0 : Int) = 0) := Int.mul_zero a
      have X5 : Hid (Ext w ((w3.setCell ⟨w.heap.size, 0, none⟩ (.int .u64 0)).setCell ⟨w.heap.size, 1, none⟩ (.int .u64 0))) := by
        have h := X4.out
        rw [e2.out] at h
        exact h
      clear X4 a0
      go_wp2
      exact bodyPost_ret (v := .tuple #[.int .i64 0, .agg #[.int .u64 0, .int .u64 0]]) (by simp [results, Try.results144, go_sem, *]) rfl ⟨by rw [e1.out, e2.out], X5.out⟩
    · have b0' : (b == 0) = false := by simpa using b0
      have e1 : Hid (sgnP a b = 1) := by
        have h : sgnP a b = 1 := by simp [sgnP, a0, b0]
        exact h
      clear a0 b0
      go_wp2
      exact bodyPost_ret (v := .tuple #[.int .i64 1, .agg #[.int .u64 0, .int .u64 (a * b)]]) (by simp [results, Try.results144, go_sem, *]) rfl ⟨by rw [e1.out], X4.out⟩
/-- which of two sizes is less -/
def ordP (x y : Int) : Int := if x = y then 0 else if x < y then -1 else 1
theorem order_any (x y : Int) (w : World) : Calls Try.prog 145 #[.agg #[.int .u64 0, .int .u64 x], .agg #[.int .u64 0, .int .u64 y]] w fun e w' => e = .returned (.int .i64 (ordP x y)) ∧ Ext w w' := by
  unfold ordP
  by_cases h : x = y
  · subst h
    rw [if_pos rfl]
    go_enter Try.func145, Try.ntmps145
    go_wp2
    go_ret
    exact ⟨rfl, by (repeat (first | assumption | exact Ext.rf _ | apply Ext.drew | apply Ext.drewN | apply Ext.alloc))⟩
  · rw [if_neg h]
    by_cases h1 : x < y
    · rw [if_pos h1]
      have h' : (x == y) = false := by simpa using h
      clear h
      go_enter Try.func145, Try.ntmps145
      go_wp2
      go_ret
      exact ⟨rfl, by (repeat (first | assumption | exact Ext.rf _ | apply Ext.drew | apply Ext.drewN | apply Ext.alloc))⟩
    · rw [if_neg h1]
      have h' : (x == y) = false := by simpa using h
      clear h
      go_enter Try.func145, Try.ntmps145
      go_wp2
      go_ret
      exact ⟨rfl, by (repeat (first | assumption | exact Ext.rf _ | apply Ext.drew | apply Ext.drewN | apply Ext.alloc))⟩
end Go.Proofs.Ytleckhbmciiooaa
namespace Go.Proofs.Ytleckhbmciiooaa
open Go.RowKit Go.ChangeShapes Go.WideShapes Go.ChangeAt Go.Deep

theorem sgnP_cases (a b : Int) : sgnP a b = 0 ∨ sgnP a b = 1 := by unfold sgnP; split <;> simp
def crossP (a b c d : Int) : Int := if sgnP a b < sgnP c d then -1 else if sgnP c d < sgnP a b then 1 else sgnP a b * ordP (a * b) (c * d)
set_option maxRecDepth 100000 in
set_option maxHeartbeats 1000000 in
theorem cross_any (a b c d : Int) (w : World) (ha : 0 ≤ a ∧ a ≤ 2147483647) (hb : 0 ≤ b ∧ b ≤ 2147483647) (hc : 0 ≤ c ∧ c ≤ 2147483647) (hd : 0 ≤ d ∧ d ≤ 2147483647) :
    Calls Try.prog 108 #[.int .i64 a, .int .i64 b, .int .i64 c, .int .i64 d] w fun e w' => e = .returned (.int .i64 (crossP a b c d)) ∧ Ext w w' := by
  have s1 := sgnP_cases a b
  have s2 := sgnP_cases c d
  have HC : Hid (crossP a b c d = if sgnP a b < sgnP c d then -1 else if sgnP c d < sgnP a b then 1 else sgnP a b * ordP (a * b) (c * d)) := rfl
  have HO : -1 ≤ ordP (a * b) (c * d) ∧ ordP (a * b) (c * d) ≤ 1 := by unfold ordP; split <;> (try split) <;> omega
  have P1 := product_any a b
  have P2 := product_any c d
  have M1 := mul_bd ha.1 ha.2 hb.1 hb.2
  have M2 := mul_bd hc.1 hc.2 hd.1 hd.2
  generalize crossP a b c d = res at *
  generalize sgnP a b = s at *
  generalize sgnP c d = t at *
  generalize a * b = p at *
  generalize c * d = q at *
  replace P1 := Lib.hid P1
  replace P2 := Lib.hid P2
  have O1 := Lib.hid (order_any p q)
  generalize ordP p q = r at *
  go_enter Try.func108, Try.ntmps108
  go_wp2_with (fail)
  refine (P1.out _ ha.1 ha.2 hb.1 hb.2).mono ?_
  rintro e w1 ⟨rfl, x1⟩
  go_wp2_with (fail)
  refine (P2.out _ hc.1 hc.2 hd.1 hd.2).mono ?_
  rintro e w2 ⟨rfl, x2⟩
  have B1 : Blk (w1.alloc (.cells #[.int .u64 0, .int .u64 p] 166)) w1.heap.size 166 #[.int .u64 0, .int .u64 p] := .new rfl
  have B2 := Lib.hid (B1.ext x2)
  have c0 : w2.cell? ⟨w1.heap.size, 0, none⟩ = some (.int .u64 0) := B2.out.cell 0
  have c1 : w2.cell? ⟨w1.heap.size, 1, none⟩ = some (.int .u64 p) := B2.out.cell 1
  have lt1 : w1.heap.size < w2.heap.size := B2.out.lt
  have X2 : Ext w w2 := Ext.tr (Ext.tr x1 ((Ext.rf _).alloc _)) x2
  clear B1
  rcases s1 with rfl | rfl
  · rcases s2 with rfl | rfl
    · go_wp2_with (fail)
      refine (O1.out _).mono ?_
      rintro e w3 ⟨rfl, x3⟩
      go_wp2
      go_ret
      exact ⟨ret_i (by rw [HC.out]; simp), Ext.tr (a := w) (by (repeat (first | assumption | exact Ext.rf _ | apply Ext.drew | apply Ext.drewN | apply Ext.alloc))) x3⟩
    · go_wp2_with (fail)
      go_ret
      exact ⟨ret_i (by rw [HC.out]; simp), by (repeat (first | assumption | exact Ext.rf _ | apply Ext.drew | apply Ext.drewN | apply Ext.alloc))⟩
  · rcases s2 with rfl | rfl
    · go_wp2_with (fail)
      go_ret
      exact ⟨ret_i (by rw [HC.out]; simp), by (repeat (first | assumption | exact Ext.rf _ | apply Ext.drew | apply Ext.drewN | apply Ext.alloc))⟩
    · go_wp2_with (fail)
      refine (O1.out _).mono ?_
      rintro e w3 ⟨rfl, x3⟩
      go_wp2
      go_ret
      exact ⟨ret_i (by rw [HC.out]; simp), Ext.tr (a := w) (by (repeat (first | assumption | exact Ext.rf _ | apply Ext.drew | apply Ext.drewN | apply Ext.alloc))) x3⟩
theorem crossP_pos {a b c d : Int} (ha : 0 ≤ a) (hb : 0 ≤ b) (hc : 0 ≤ c) (hd : 0 ≤ d) : 0 < crossP a b c d ↔ c * d < a * b := by
  have hp := Int.mul_nonneg ha hb
  have hq := Int.mul_nonneg hc hd
  have z1 : sgnP a b = 0 ↔ a * b = 0 := by unfold sgnP; rw [Int.mul_eq_zero]; split <;> simp_all
  have z2 : sgnP c d = 0 ↔ c * d = 0 := by unfold sgnP; rw [Int.mul_eq_zero]; split <;> simp_all
  have s1 := sgnP_cases a b
  have s2 := sgnP_cases c d
  unfold crossP
  generalize sgnP a b = s at *
  generalize sgnP c d = t at *
  generalize a * b = p at *
  generalize c * d = q at *
  rcases s1 with rfl | rfl <;> rcases s2 with rfl | rfl <;> simp at * <;> (try unfold ordP) <;> (try (split <;> (try split))) <;> omega
end Go.Proofs.Ytleckhbmciiooaa
