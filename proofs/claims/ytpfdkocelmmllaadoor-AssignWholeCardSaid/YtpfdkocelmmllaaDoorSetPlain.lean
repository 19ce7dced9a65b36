/-
  Sets of numbers below 64 as numbers, plainly: which are in; the least; the next; without one.
-/
import Derived.Laws.Bits64b
import Derived.Lib.TrailingZeros
import Derived.Lib.Hide
namespace Go.Proofs.YtpfdkocelmmllaaDoor
open Go

def andNotN (a b : Nat) : Nat := (BitVec.ofNat 64 a &&& ~~~ BitVec.ofNat 64 b).toNat
theorem andNotN_lt (a b : Nat) : andNotN a b < 18446744073709551616 := (BitVec.ofNat 64 a &&& ~~~ BitVec.ofNat 64 b).isLt
theorem bits_andNot_u64 (a b : Nat) (ha : a < 18446744073709551616) (hb : b < 18446744073709551616) : bits .andNot .u64 (a : Int) (b : Int) = ((andNotN a b : Nat) : Int) := by
  have h1 : BitVec.ofInt 64 (a : Int) = BitVec.ofNat 64 a := BitVec.ofInt_natCast ..
  have h2 : BitVec.ofInt 64 (b : Int) = BitVec.ofNat 64 b := BitVec.ofInt_natCast ..
  show IntKind.u64.wrap ((BitVec.ofInt 64 (a : Int) &&& ~~~ BitVec.ofInt 64 (b : Int)).toNat : Int) = _
  rw [h1, h2, IntKind.wrap_u64]
  have := andNotN_lt a b
  unfold andNotN at this ⊢
  omega
theorem andNotN_bit {a b j : Nat} (ha : a < 18446744073709551616) : (andNotN a b).testBit j = (a.testBit j && !b.testBit j) := by
  unfold andNotN
  rw [BitVec.testBit_toNat, BitVec.getLsbD_and, BitVec.getLsbD_not, BitVec.getLsbD_ofNat, BitVec.getLsbD_ofNat]
  by_cases hj : j < 64
  · simp [hj]
  · have : a.testBit j = false := Nat.testBit_lt_two_pow (Nat.lt_of_lt_of_le ha (by
      have : 2 ^ 64 ≤ 2 ^ j := Nat.pow_le_pow_right (by omega) (by omega)
      omega))
    simp [hj, this]
/-- which are in, rising -/
def memsM (m : Nat) : List Nat := (List.range 64).filter fun j => m.testBit j
theorem memsM_mem {m j : Nat} : j ∈ memsM m ↔ j < 64 ∧ m.testBit j = true := by simp [memsM]
theorem memsM_sorted (m : Nat) : (memsM m).Pairwise (· < ·) := List.Pairwise.filter _ List.pairwise_lt_range
theorem memsM_zero : memsM 0 = [] := by simp [memsM]
theorem memsM_le (m : Nat) : (memsM m).length ≤ 64 := by
  have := List.length_filter_le (fun j => m.testBit j) (List.range 64)
  simpa [memsM] using this
/-- the least one -/
theorem memsM_head {m : Nat} (h0 : m ≠ 0) (h : m < 18446744073709551616) : (memsM m).head? = some (Lib.ctz 64 m) := by
  have hc : Lib.ctz 64 m = Lib.ctzFrom 64 m := by unfold Lib.ctz; rw [if_neg h0]
  obtain ⟨q, h1, h2⟩ := Lib.ctzFrom_spec 64 m (by omega) (by omega)
  rw [hc]
  generalize Lib.ctzFrom 64 m = k at *
  have hbit : ∀ j, m.testBit j = (decide (k ≤ j) && (2 * q + 1).testBit (j - k)) := fun j => by rw [h1, Nat.testBit_two_pow_mul]
  have e : List.range 64 = List.range k ++ (k :: (List.range (64 - k - 1)).map (· + (k + 1))) := by
    have : List.range 64 = List.range (k + ((64 - k - 1) + 1)) := by congr 1; omega
    rw [this, List.range_add, List.range_succ_eq_map]
    simp only [List.map_cons, List.map_map, Nat.add_zero]
    congr 2
    apply List.map_congr_left
    intro a _
    simp [Function.comp_def]
    omega
  have e1 : (List.range k).filter (fun j => m.testBit j) = [] := by
    rw [List.filter_eq_nil_iff]
    intro j hj
    have := List.mem_range.1 hj
    rw [hbit, decide_eq_false (by omega)]
    simp
  have e2 : m.testBit k = true := by
    rw [hbit, decide_eq_true (Nat.le_refl _), Nat.sub_self, Nat.testBit_zero]
    simp
  unfold memsM
  rw [e, List.filter_append, e1, List.filter_cons, e2]
  rfl
/-- what is above one -/
theorem memsM_next {m x : Nat} {pre rest : List Nat} (h : m < 18446744073709551616) (hx : memsM m = pre ++ x :: rest) : memsM (andNotN m (2 ^ (x + 1) - 1)) = rest := by
  have hs := memsM_sorted m
  rw [hx] at hs
  have h1 := List.pairwise_append.1 hs
  have h2 := List.pairwise_cons.1 h1.2.1
  have e : memsM (andNotN m (2 ^ (x + 1) - 1)) = (memsM m).filter fun j => decide (x < j) := by
    unfold memsM
    rw [List.filter_filter]
    refine List.filter_congr fun j _ => ?_
    rw [andNotN_bit h, Nat.testBit_two_pow_sub_one]
    by_cases hj : j < x + 1
    · have : ¬ x < j := by omega
      simp [hj, this]
    · have : x < j := by omega
      simp [hj, this]
  rw [e, hx, List.filter_append, List.filter_cons, decide_eq_false (by omega), List.filter_eq_nil_iff.2 (fun j hj => by
    have := h1.2.2 j hj x (by simp)
    simp; omega), List.filter_eq_self.2 (fun j hj => by
    have := h2.1 j hj
    simpa using this)]
  rfl
/-- without one -/
def clrM (m i : Nat) : Nat := andNotN m (2 ^ i)
theorem clrM_bit {m i j : Nat} (h : m < 18446744073709551616) : (clrM m i).testBit j = (m.testBit j && decide (i ≠ j)) := by
  unfold clrM
  rw [andNotN_bit h, Nat.testBit_two_pow]
  by_cases hij : i = j <;> simp [hij]
theorem memsM_clr {m i : Nat} (h : m < 18446744073709551616) : memsM (clrM m i) = (memsM m).filter fun j => decide (i ≠ j) := by
  unfold memsM
  rw [List.filter_filter]
  refine List.filter_congr fun j _ => ?_
  rw [clrM_bit h, Bool.and_comm]
theorem memsM_full {n : Nat} (h : n ≤ 64) : memsM (2 ^ n - 1) = List.range n := by
  have e : List.range 64 = List.range n ++ (List.range (64 - n)).map (n + ·) := by
    rw [← List.range_add]
    congr 1
    omega
  unfold memsM
  rw [e, List.filter_append, List.filter_eq_self.2 (fun j hj => by
    rw [Nat.testBit_two_pow_sub_one]; simpa using hj), List.filter_eq_nil_iff.2 (fun j hj => by
    obtain ⟨a, _, rfl⟩ := List.mem_map.1 hj
    rw [Nat.testBit_two_pow_sub_one]
    simp), List.append_nil]
/-- the first of a list, or -1 -/
def headI : List Nat → Int
  | [] => -1
  | x :: _ => (x : Int)
theorem shr_bit (m i : Nat) : (m / 2 ^ i) % 2 = if m.testBit i = true then 1 else 0 := by
  rw [Nat.testBit_eq_decide_div_mod_eq]
  have : m / 2 ^ i % 2 < 2 := Nat.mod_lt _ (by omega)
  by_cases h : m / 2 ^ i % 2 = 1
  · simp [h]
  · have h0 : m / 2 ^ i % 2 = 0 := by omega
    simp [h0]
end Go.Proofs.YtpfdkocelmmllaaDoor
