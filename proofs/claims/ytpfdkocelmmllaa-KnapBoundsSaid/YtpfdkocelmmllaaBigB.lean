/-
  The document's great numbers: products of small numbers.
-/
import Derived.Test.YtpfdkocelmmllaaBigA
namespace Go.Proofs.Ytpfdkocelmmllaa
open Go.RowKit Go.ChangeShapes Go.WideShapes Go.ChangeAt Go.Deep

theorem i64_and31 (x : Int) (h₀ : 0 ≤ x) (h₁ : x ≤ 9223372036854775807) : bits .and .i64 x 2147483647 = x % 2147483648 :=
  bits_mask .i64 63 (by decide) (fun n h0 h1 => IntWalk.i64_in n (by omega)) 31 (by decide) x h₀ (by omega)
/-- what a product's parts are -/
def lowP (p : Int) : Int := p % 2147483648
def highP (p : Int) : Int := p / 2147483648
theorem parts_bd {p : Int} (h : 0 ≤ p ∧ p ≤ 4611686014132420609) : 0 ≤ lowP p ∧ lowP p ≤ 2147483647 ∧ 0 ≤ highP p ∧ highP p ≤ 2147483647 := by
  unfold lowP highP; omega
theorem bigC_same (x y : Int) (i : Nat) (h : i < 9) : (bigC x y).setIfInBounds i (.int .i64 (if i = 0 then x else if i = 1 then y else 0)) = bigC x y := by
  match i, h with
  | 0, _ => rfl
  | 1, _ => rfl
  | 2, _ => rfl
  | 3, _ => rfl
  | 4, _ => rfl
  | 5, _ => rfl
  | 6, _ => rfl
  | 7, _ => rfl
  | 8, _ => rfl
/-- where the multiplying stands -/
def MulAt (p : Int) (i k : Nat) (x y ov : Int) : Prop := (i = 0 ∧ k = 0 ∧ x = 0 ∧ y = 0 ∧ ov = 0) ∨ (i = 0 ∧ k = 1 ∧ x = lowP p ∧ y = 0 ∧ ov = highP p) ∨ ((1 ≤ i ∨ 2 ≤ k) ∧ x = lowP p ∧ y = highP p ∧ ov = 0)
/-- one step of it -/
theorem mul_step {a b p : Int} (hp : p = a * b) (bp : 0 ≤ p ∧ p ≤ 4611686014132420609) {i k : Nat} {x y ov : Int} (hi : i < 4) (hk : k < 4) (h : MulAt p i k x y ov) :
    ∃ c m s sl sh x' y' : Int, c = (if i + k = 0 then x else if i + k = 1 then y else 0) ∧ m = (if i = 0 then a else if i = 1 then 0 else 0) * (if k = 0 then b else if k = 1 then 0 else 0) ∧ s = c + m + ov ∧ sl = s % 2147483648 ∧ sh = s / 2147483648 ∧
      (0 ≤ c ∧ c ≤ 2147483647) ∧ (0 ≤ m ∧ m ≤ 4611686014132420609) ∧ (0 ≤ ov ∧ ov ≤ 2147483647) ∧ (bigC x y).setIfInBounds (i + k) (.int .i64 sl) = bigC x' y' ∧ MulAt p i (k + 1) x' y' sh := by
  have hb := parts_bd bp
  rcases h with ⟨rfl, rfl, rfl, rfl, rfl⟩ | ⟨rfl, rfl, rfl, rfl, rfl⟩ | ⟨h, rfl, rfl, rfl⟩
  · refine ⟨0, p, p, lowP p, highP p, lowP p, 0, rfl, by simpa using hp, by omega, rfl, rfl, by omega, bp, by omega, rfl, .inr (.inl ⟨rfl, rfl, rfl, rfl, rfl⟩)⟩
  · refine ⟨0, 0, highP p, highP p, 0, lowP p, highP p, rfl, by simp, by omega, by omega, by omega, by omega, by omega, by omega, rfl, .inr (.inr ⟨by omega, rfl, rfl, rfl⟩)⟩
  · refine ⟨(if i + k = 0 then lowP p else if i + k = 1 then highP p else 0), 0, _, (if i + k = 0 then lowP p else if i + k = 1 then highP p else 0), 0, lowP p, highP p, rfl, ?_, rfl, ?_, ?_, ?_, by omega, by omega, bigC_same _ _ _ (by omega), .inr (.inr ⟨by omega, rfl, rfl, rfl⟩)⟩
    · rcases h with h | h
      · rw [if_neg (show ¬ i = 0 by omega)]
        split <;> simp
      · rw [if_neg (show ¬ k = 0 by omega)]
        split <;> (split <;> simp)
    · split
      · omega
      · split <;> omega
    · split
      · omega
      · split <;> omega
    · split
      · omega
      · split <;> omega
end Go.Proofs.Ytpfdkocelmmllaa
