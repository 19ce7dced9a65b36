/-
  The program's Cross of small numbers.
-/
import Derived.Test.YtpfdkocelmmllaaArithB
namespace Go.Proofs.Ytpfdkocelmmllaa
open Go.RowKit Go.ChangeShapes Go.WideShapes Go.ChangeAt Go.Deep

theorem sgnP_cases (a b : Int) : sgnP a b = 0 ∨ sgnP a b = 1 := by unfold sgnP; split <;> simp
def crossP (a b c d : Int) : Int := if sgnP a b < sgnP c d then -1 else if sgnP c d < sgnP a b then 1 else sgnP a b * ordP (a * b) (c * d)
set_option maxRecDepth 100000 in
set_option maxHeartbeats 1000000 in
theorem cross_any (a b c d : Int) (w : World) (ha : 0 ≤ a ∧ a ≤ 2147483647) (hb : 0 ≤ b ∧ b ≤ 2147483647) (hc : 0 ≤ c ∧ c ≤ 2147483647) (hd : 0 ≤ d ∧ d ≤ 2147483647) :
    Calls Try.prog 96 #[.int .i64 a, .int .i64 b, .int .i64 c, .int .i64 d] w fun e w' => e = .returned (.int .i64 (crossP a b c d)) ∧ Ext w w' := by
  have s1 := sgnP_cases a b
  have s2 := sgnP_cases c d
  have HC : Hid (crossP a b c d = if sgnP a b < sgnP c d then -1 else if sgnP c d < sgnP a b then 1 else sgnP a b * ordP (a * b) (c * d)) := rfl
  have HO : -1 ≤ ordP (a * b) (c * d) ∧ ordP (a * b) (c * d) ≤ 1 := by unfold ordP; split <;> (try split) <;> omega
  have P1 := product_any a b
  have P2 := product_any c d
  have M1 := mul_bd ha.1 ha.2 hb.1 hb.2
  have M2 := mul_bd hc.1 hc.2 hd.1 hd.2
  generalize crossP a b c d = res at *
  generalize sgnP a b = s at *
  generalize sgnP c d = t at *
  generalize a * b = p at *
  generalize c * d = q at *
  replace P1 := Lib.hid P1
  replace P2 := Lib.hid P2
  have O1 := Lib.hid (order_any p q)
  generalize ordP p q = r at *
  go_enter Try.func96, Try.ntmps96
  go_wp2_with (fail)
  refine (P1.out _ ha.1 ha.2 hb.1 hb.2).mono ?_
  rintro e w1 ⟨rfl, x1⟩
  go_wp2_with (fail)
  refine (P2.out _ hc.1 hc.2 hd.1 hd.2).mono ?_
  rintro e w2 ⟨rfl, x2⟩
  have B1 : Blk (w1.alloc (.cells #[.int .u64 0, .int .u64 p] 139)) w1.heap.size 139 #[.int .u64 0, .int .u64 p] := .new rfl
  have B2 := Lib.hid (B1.ext x2)
  have c0 : w2.cell? ⟨w1.heap.size, 0, none⟩ = some (.int .u64 0) := B2.out.cell 0
  have c1 : w2.cell? ⟨w1.heap.size, 1, none⟩ = some (.int .u64 p) := B2.out.cell 1
  have lt1 : w1.heap.size < w2.heap.size := B2.out.lt
  have X2 : Ext w w2 := Ext.tr (Ext.tr x1 ((Ext.rf _).alloc _)) x2
  clear B1
  rcases s1 with rfl | rfl
  · rcases s2 with rfl | rfl
    · go_wp2_with (fail)
      refine (O1.out _).mono ?_
      rintro e w3 ⟨rfl, x3⟩
      go_wp2
      go_ret
      exact ⟨ret_i (by rw [HC.out]; simp), Ext.tr (a := w) (by (repeat (first | assumption | exact Ext.rf _ | apply Ext.drew | apply Ext.drewN | apply Ext.alloc))) x3⟩
    · go_wp2_with (fail)
      go_ret
      exact ⟨ret_i (by rw [HC.out]; simp), by (repeat (first | assumption | exact Ext.rf _ | apply Ext.drew | apply Ext.drewN | apply Ext.alloc))⟩
  · rcases s2 with rfl | rfl
    · go_wp2_with (fail)
      go_ret
      exact ⟨ret_i (by rw [HC.out]; simp), by (repeat (first | assumption | exact Ext.rf _ | apply Ext.drew | apply Ext.drewN | apply Ext.alloc))⟩
    · go_wp2_with (fail)
      refine (O1.out _).mono ?_
      rintro e w3 ⟨rfl, x3⟩
      go_wp2
      go_ret
      exact ⟨ret_i (by rw [HC.out]; simp), Ext.tr (a := w) (by (repeat (first | assumption | exact Ext.rf _ | apply Ext.drew | apply Ext.drewN | apply Ext.alloc))) x3⟩
theorem crossP_pos {a b c d : Int} (ha : 0 ≤ a) (hb : 0 ≤ b) (hc : 0 ≤ c) (hd : 0 ≤ d) : 0 < crossP a b c d ↔ c * d < a * b := by
  have hp := Int.mul_nonneg ha hb
  have hq := Int.mul_nonneg hc hd
  have z1 : sgnP a b = 0 ↔ a * b = 0 := by unfold sgnP; rw [Int.mul_eq_zero]; split <;> simp_all
  have z2 : sgnP c d = 0 ↔ c * d = 0 := by unfold sgnP; rw [Int.mul_eq_zero]; split <;> simp_all
  have s1 := sgnP_cases a b
  have s2 := sgnP_cases c d
  unfold crossP
  generalize sgnP a b = s at *
  generalize sgnP c d = t at *
  generalize a * b = p at *
  generalize c * d = q at *
  rcases s1 with rfl | rfl <;> rcases s2 with rfl | rfl <;> simp at * <;> (try unfold ordP) <;> (try (split <;> (try split))) <;> omega
end Go.Proofs.Ytpfdkocelmmllaa
