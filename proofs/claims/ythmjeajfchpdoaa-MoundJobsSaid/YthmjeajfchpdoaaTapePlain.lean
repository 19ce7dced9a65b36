/-
  tape, plain: modulo, the picks of Favor, as functions of numbers and lists.
-/
import Derived.Test.YthmjeajfchpdoaaOwn
namespace Go.Proofs.Ythmjeajfchpdoaa
open Go.RowKit

/-- x as an unsigned number, modulo n -/
def modu (x n : Int) : Int := (IntKind.u64.wrap x).tmod n
theorem u64_nonneg (x : Int) : 0 ≤ IntKind.u64.wrap x := by
  simp only [IntKind.wrap, IntKind.signed, IntKind.bits, Bool.false_and]
  exact Int.emod_nonneg _ (by decide)
theorem modu_bd {x n : Int} (hn : 1 ≤ n) : 0 ≤ modu x n ∧ modu x n < n := by
  unfold modu
  rw [Int.tmod_eq_emod_of_nonneg (u64_nonneg x)]
  exact ⟨Int.emod_nonneg _ (by omega), Int.emod_lt_of_pos _ (by omega)⟩
theorem u64_id {x : Int} (h0 : 0 ≤ x) (h1 : x ≤ 9223372036854775807) : IntKind.u64.wrap x = x := by
  simp only [IntKind.wrap, IntKind.signed, IntKind.bits, Bool.false_and]
  exact Int.emod_eq_of_lt h0 (by omega)
theorem modu_small {x n : Int} (h0 : 0 ≤ x) (h1 : x ≤ 9223372036854775807) : modu x n = x.tmod n := by
  unfold modu
  rw [u64_id h0 h1]

theorem modu_nat {x n : Int} (h0 : 0 ≤ x) (h1 : x ≤ 9223372036854775807) : modu x n = x % n := by
  rw [modu_small h0 h1, Int.tmod_eq_emod_of_nonneg h0]
theorem modu_zero (n : Int) : modu 0 n = 0 := by rw [modu_nat (by decide) (by decide)]; simp
/-- what is picked at place k -/
def favAt (n who every : Int) (k : Nat) : Int := if ((k : Int) + 1) % every = 0 then ((k : Int) / every) % n else who
def favL (n who every : Int) (count : Nat) : List Int := (List.range count).map (favAt n who every)
theorem favL_len (n who every : Int) (count : Nat) : (favL n who every count).length = count := by simp [favL]
theorem favL_snoc (n who every : Int) (k : Nat) : favL n who every (k + 1) = favL n who every k ++ [favAt n who every k] := by simp [favL, List.range_succ]
/-- so far, and noughts behind -/
def favUp (n who every : Int) (count k : Nat) : List Int := favL n who every k ++ List.replicate (count - k) 0
theorem favUp_len {n who every : Int} {count k : Nat} (hk : k ≤ count) : (favUp n who every count k).length = count := by simp [favUp, favL_len]; omega
theorem favUp_set (n who every : Int) {count k : Nat} (hk : k < count) (x : Int) (hx : x = favAt n who every k) : (favUp n who every count k).set k x = favUp n who every count (k + 1) := by
  subst hx
  have e : count - k = (count - (k + 1)) + 1 := by omega
  rw [favUp, favUp, favL_snoc, e, List.replicate_succ, List.set_append_right _ _ (by simp [favL_len])]
  simp [favL_len]
theorem favUp_full (n who every : Int) (count : Nat) : favUp n who every count count = favL n who every count := by simp [favUp]
theorem div_step {k e : Int} (hk : 0 ≤ k) (he : 1 ≤ e) : (k + 1) / e = if (k + 1) % e = 0 then k / e + 1 else k / e := by
  have h1 := Int.emod_add_mul_ediv (k + 1) e
  have h2 := Int.emod_add_mul_ediv k e
  have a1 := Int.emod_nonneg (k + 1) (show e ≠ 0 by omega)
  have a2 := Int.emod_nonneg k (show e ≠ 0 by omega)
  have b1 := Int.emod_lt_of_pos (k + 1) (show 0 < e by omega)
  have b2 := Int.emod_lt_of_pos k (show 0 < e by omega)
  generalize (k + 1) % e = r1 at *
  generalize k % e = r2 at *
  generalize hq1 : (k + 1) / e = q1 at *
  generalize hq2 : k / e = q2 at *
  have hle : q2 ≤ q1 := by rw [← hq1, ← hq2]; exact Int.ediv_le_ediv (by omega) (by omega)
  have hlt : q1 ≤ q2 + 1 := by
    by_cases h : q2 + 1 < q1
    · have : e * (q2 + 2) ≤ e * q1 := Int.mul_le_mul_of_nonneg_left (by omega) (by omega)
      rw [Int.mul_add] at this
      omega
    · omega
  rcases Int.lt_or_eq_of_le hle with h | h
  · have hq : q1 = q2 + 1 := by omega
    subst hq
    rw [Int.mul_add] at h1
    rw [if_pos (by omega)]
  · subst h
    rw [if_neg (by omega)]
theorem favAt_no {n who every : Int} {k : Nat} (h : ¬ ((k : Int) + 1) % every = 0) : favAt n who every k = who := by simp [favAt, h]
theorem favAt_yes {n who every : Int} {k : Nat} (h : ((k : Int) + 1) % every = 0) : favAt n who every k = ((k : Int) / every) % n := by simp [favAt, h]
theorem favAt_bd {n who every : Int} (hn : 1 ≤ n) (hw : 0 ≤ who ∧ who < n) (k : Nat) : 0 ≤ favAt n who every k ∧ favAt n who every k < n := by
  unfold favAt
  split
  · exact ⟨Int.emod_nonneg _ (by omega), Int.emod_lt_of_pos _ (by omega)⟩
  · exact hw
/-- is it a request that may be made? -/
def fineB (n c : Int) : Bool := decide (1 ≤ n) && (decide (n ≤ 16) && (decide (0 ≤ c) && decide (c ≤ 1000000)))
theorem fineB_iff {n c : Int} : fineB n c = true ↔ 1 ≤ n ∧ n ≤ 16 ∧ 0 ≤ c ∧ c ≤ 1000000 := by simp [fineB]
def favOk (n who every c : Int) : Bool := fineB n c && (decide (0 ≤ who) && (decide (who < n) && decide (1 ≤ every)))
theorem favOk_iff {n who every c : Int} : favOk n who every c = true ↔ (1 ≤ n ∧ n ≤ 16 ∧ 0 ≤ c ∧ c ≤ 1000000) ∧ 0 ≤ who ∧ who < n ∧ 1 ≤ every := by
  simp [favOk, fineB_iff]
end Go.Proofs.Ythmjeajfchpdoaa
