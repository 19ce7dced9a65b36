/-
  bits.Mul64 of small numbers; the program's sizes, products and Cross of small numbers.
-/
import Derived.Test.YtpfdkocelmmllaaK
import Derived.Lib.VarintBits
namespace Go.Proofs.Ytpfdkocelmmllaa
open Go.RowKit Go.ChangeShapes Go.WideShapes Go.ChangeAt Go.Deep

theorem u64_and32 (x : Int) (h₀ : 0 ≤ x) (h₁ : x < 18446744073709551616) : bits .and .u64 x 4294967295 = x % 4294967296 := bits_mask .u64 64 (by decide) wraps_u64 32 (by decide) x h₀ h₁
theorem mul_bd {a b : Int} (ha : 0 ≤ a) (ha' : a ≤ 2147483647) (hb : 0 ≤ b) (hb' : b ≤ 2147483647) : 0 ≤ a * b ∧ a * b ≤ 4611686014132420609 := by
  refine ⟨Int.mul_nonneg ha hb, ?_⟩
  have h1 : a * b ≤ 2147483647 * b := Int.mul_le_mul_of_nonneg_right ha' hb
  omega
set_option maxRecDepth 100000 in
theorem mul64_any (a b : Int) (w : World) (ha : 0 ≤ a) (ha' : a ≤ 2147483647) (hb : 0 ≤ b) (hb' : b ≤ 2147483647) :
    Calls Try.prog 130 #[.int .u64 a, .int .u64 b] w fun e w' => e = .returned (.tuple #[.int .u64 0, .int .u64 (a * b)]) ∧ Ext w w' := by
  have ea : Hid (bits BinOp.and IntKind.u64 a 4294967295 = a) := by
    have h := u64_and32 a ha (by omega)
    rw [Int.emod_eq_of_lt ha (by omega)] at h
    exact h
  have eb : Hid (bits BinOp.and IntKind.u64 b 4294967295 = b) := by
    have h := u64_and32 b hb (by omega)
    rw [Int.emod_eq_of_lt hb (by omega)] at h
    exact h
  have da : Hid (a / 4294967296 = 0) := by
    have h : a / 4294967296 = 0 := by omega
    exact h
  have db : Hid (b / 4294967296 = 0) := by
    have h : b / 4294967296 = 0 := by omega
    exact h
  have hm := mul_bd ha ha' hb hb'
  have wm : Hid (IntKind.u64.wrap (a * b) = a * b) := wraps_u64 _ hm.1 (by omega)
  have dm : Hid (∃ q : Int, 0 ≤ q ∧ q < 4294967296 ∧ a * b / 4294967296 = q) := by
    have h : ∃ q : Int, 0 ≤ q ∧ q < 4294967296 ∧ a * b / 4294967296 = q := ⟨_, by omega, by omega, rfl⟩
    exact h
  have w0 : Hid (IntKind.u64.wrap 0 = 0) := by
    have h : IntKind.u64.wrap 0 = 0 := by decide
    exact h
  clear hm
  go_enter Try.func130, Try.ntmps130
  go_wp2
  refine bodyPost_ret (v := .tuple #[.int .u64 0, .int .u64 (a * b)]) ?_ rfl ⟨rfl, Ext.rf _⟩
  obtain ⟨q, hq0, hq1, hq⟩ := dm.out
  have w1 := ea.out
  have w2 := eb.out
  have w3 := da.out
  have w4 := db.out
  have w5 := wm.out
  have w6 := w0.out
  have wq := wraps_u64 q hq0 (by omega)
  have dq : q / 4294967296 = 0 := by omega
  have aq : bits BinOp.and IntKind.u64 q 4294967295 = q := by
    have h := u64_and32 q hq0 (by omega)
    rw [Int.emod_eq_of_lt hq0 hq1] at h
    exact h
  simp only [w1, w2, w3, w4, w5, w6, hq, Int.zero_mul, Int.mul_zero, Int.add_zero, Int.zero_add, wq, dq, aq]
  simp [results, Try.results130, go_sem]
end Go.Proofs.Ytpfdkocelmmllaa
