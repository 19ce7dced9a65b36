/-
  Sets of numbers below 64 as numbers, plainly: which are in; the least; the next; without one.
  The program's sets of numbers below 64: what each call answers.
  The program's sets of numbers below 64: Next; All, one by one.
  The program's sets of numbers below 64: List.
-/
import Derived.Laws.Bits64b
import Derived.Lib.TrailingZeros
import Derived.Lib.Hide
import Derived.Test.YtleckhbmciiooaaGen
import Derived.Test.YtleckhbmciiooaaCostP
import Derived.Test.YtleckhbmciiooaaStep
import Derived.Deep.DeepCutAuto
import Derived.Shelf.Spec.TrailingZeros
import Derived.Test.YtleckhbmciiooaaCore
import Derived.RangeFuncNested
import Derived.RangeFuncBound
import Derived.RangeFuncCalls
import Derived.RangeFuncLeaves
import Derived.RangeFuncBox
import Derived.Maps.AppendAt
import Derived.Shelf.Abstract
import Derived.Shelf.RegionOpen
import Derived.OwnWalkIn
import Derived.TacticsInMore
import Derived.LoopNIn
import Derived.LoopIn
namespace Go.Proofs.Ytleckhbmciiooaa
open Go

def andNotN (a b : Nat) : Nat := (BitVec.ofNat 64 a &&& ~~~ BitVec.ofNat 64 b).toNat
theorem andNotN_lt (a b : Nat) : andNotN a b < 18446744073709551616 := (BitVec.ofNat 64 a &&& ~~~ BitVec.ofNat 64 b).isLt
theorem bits_andNot_u64 (a b : Nat) (ha : a < 18446744073709551616) (hb : b < 18446744073709551616) : bits .andNot .u64 (a : Int) (b : Int) = ((andNotN a b : Nat) : Int) := by
  have h1 : BitVec.ofInt 64 (a : Int) = BitVec.ofNat 64 a := BitVec.ofInt_natCast ..
  have h2 : BitVec.ofInt 64 (b : Int) = BitVec.ofNat 64 b := BitVec.ofInt_natCast ..
  show IntKind.u64.wrap ((BitVec.ofInt 64 (a : Int) &&& ~~~ BitVec.ofInt 64 (b : Int)).toNat : Int) = _
  rw [h1, h2, IntKind.wrap_u64]
  have := andNotN_lt a b
  unfold andNotN at this ⊢
  omega
theorem andNotN_bit {a b j : Nat} (ha : a < 18446744073709551616) : (andNotN a b).testBit j = (a.testBit j && !b.testBit j) := by
  unfold andNotN
  rw [BitVec.testBit_toNat, BitVec.getLsbD_and, BitVec.getLsbD_not, BitVec.getLsbD_ofNat, BitVec.getLsbD_ofNat]
  by_cases hj : j < 64
  · simp [hj]
  · have : a.testBit j = false := Nat.testBit_lt_two_pow (Nat.lt_of_lt_of_le ha (by
      have : 2 ^ 64 ≤ 2 ^ j := Nat.pow_le_pow_right (by omega) (by omega)
      omega))
    simp [hj, this]
/-- which are in, rising -/
def memsM (m : Nat) : List Nat := (List.range 64).filter fun j => m.testBit j
theorem memsM_mem {m j : Nat} : j ∈ memsM m ↔ j < 64 ∧ m.testBit j = true := by simp [memsM]
theorem memsM_sorted (m : Nat) : (memsM m).Pairwise (· < ·) := List.Pairwise.filter _ List.pairwise_lt_range
theorem memsM_zero : memsM 0 = [] := by simp [memsM]
theorem memsM_le (m : Nat) : (memsM m).length ≤ 64 := by
  have := List.length_filter_le (fun j => m.testBit j) (List.range 64)
  simpa [memsM] using this
/-- the least one -/
theorem memsM_head {m : Nat} (h0 : m ≠ 0) (h : m < 18446744073709551616) : (memsM m).head? = some (Lib.ctz 64 m) := by
  have hc : Lib.ctz 64 m = Lib.ctzFrom 64 m := by unfold Lib.ctz; rw [if_neg h0]
  obtain ⟨q, h1, h2⟩ := Lib.ctzFrom_spec 64 m (by omega) (by omega)
  rw [hc]
  generalize Lib.ctzFrom 64 m = k at *
  have hbit : ∀ j, m.testBit j = (decide (k ≤ j) && (2 * q + 1).testBit (j - k)) := fun j => by rw [h1, Nat.testBit_two_pow_mul]
  have e : List.range 64 = List.range k ++ (k :: (List.range (64 - k - 1)).map (· + (k + 1))) := by
    have : List.range 64 = List.range (k + ((64 - k - 1) + 1)) := by congr 1; omega
    rw [this, List.range_add, List.range_succ_eq_map]
    simp only [List.map_cons, List.map_map, Nat.add_zero]
    congr 2
    apply List.map_congr_left
    intro a _
    simp [Function.comp_def]
    omega
  have e1 : (List.range k).filter (fun j => m.testBit j) = [] := by
    rw [List.filter_eq_nil_iff]
    intro j hj
    have := List.mem_range.1 hj
    rw [hbit, decide_eq_false (by omega)]
    simp
  have e2 : m.testBit k = true := by
    rw [hbit, decide_eq_true (Nat.le_refl _), Nat.sub_self, Nat.testBit_zero]
    simp
  unfold memsM
  rw [e, List.filter_append, e1, List.filter_cons, e2]
  rfl
/-- what is above one -/
theorem memsM_next {m x : Nat} {pre rest : List Nat} (h : m < 18446744073709551616) (hx : memsM m = pre ++ x :: rest) : memsM (andNotN m (2 ^ (x + 1) - 1)) = rest := by
  have hs := memsM_sorted m
  rw [hx] at hs
  have h1 := List.pairwise_append.1 hs
  have h2 := List.pairwise_cons.1 h1.2.1
  have e : memsM (andNotN m (2 ^ (x + 1) - 1)) = (memsM m).filter fun j => decide (x < j) := by
    unfold memsM
    rw [List.filter_filter]
    refine List.filter_congr fun j _ => ?_
    rw [andNotN_bit h, Nat.testBit_two_pow_sub_one]
    by_cases hj : j < x + 1
    · have : ¬ x < j := by omega
      simp [hj, this]
    · have : x < j := by omega
      simp [hj, this]
  rw [e, hx, List.filter_append, List.filter_cons, decide_eq_false (by omega), List.filter_eq_nil_iff.2 (fun j hj => by
    have := h1.2.2 j hj x (by simp)
    simp; omega), List.filter_eq_self.2 (fun j hj => by
    have := h2.1 j hj
    simpa using this)]
  rfl
/-- without one -/
def clrM (m i : Nat) : Nat := andNotN m (2 ^ i)
theorem clrM_bit {m i j : Nat} (h : m < 18446744073709551616) : (clrM m i).testBit j = (m.testBit j && decide (i ≠ j)) := by
  unfold clrM
  rw [andNotN_bit h, Nat.testBit_two_pow]
  by_cases hij : i = j <;> simp [hij]
theorem memsM_clr {m i : Nat} (h : m < 18446744073709551616) : memsM (clrM m i) = (memsM m).filter fun j => decide (i ≠ j) := by
  unfold memsM
  rw [List.filter_filter]
  refine List.filter_congr fun j _ => ?_
  rw [clrM_bit h, Bool.and_comm]
theorem memsM_full {n : Nat} (h : n ≤ 64) : memsM (2 ^ n - 1) = List.range n := by
  have e : List.range 64 = List.range n ++ (List.range (64 - n)).map (n + ·) := by
    rw [← List.range_add]
    congr 1
    omega
  unfold memsM
  rw [e, List.filter_append, List.filter_eq_self.2 (fun j hj => by
    rw [Nat.testBit_two_pow_sub_one]; simpa using hj), List.filter_eq_nil_iff.2 (fun j hj => by
    obtain ⟨a, _, rfl⟩ := List.mem_map.1 hj
    rw [Nat.testBit_two_pow_sub_one]
    simp), List.append_nil]
/-- the first of a list, or -1 -/
def headI : List Nat → Int
  | [] => -1
  | x :: _ => (x : Int)
theorem shr_bit (m i : Nat) : (m / 2 ^ i) % 2 = if m.testBit i = true then 1 else 0 := by
  rw [Nat.testBit_eq_decide_div_mod_eq]
  have : m / 2 ^ i % 2 < 2 := Nat.mod_lt _ (by omega)
  by_cases h : m / 2 ^ i % 2 = 1
  · simp [h]
  · have h0 : m / 2 ^ i % 2 = 0 := by omega
    simp [h0]
end Go.Proofs.Ytleckhbmciiooaa
namespace Go.Proofs.Ytleckhbmciiooaa
open Go.RowKit Go.ChangeShapes Go.WideShapes Go.ChangeAt Go.Deep

def setV (m : Nat) : Value := .agg #[.int .u64 m, .int .u64 0]
/-- the table of the lowest bits, as it was laid -/
def Tab (w : World) : Prop := TabAt 2 Lib.deBruijn64tab w
theorem Tab.ext {w w' : World} (h : Tab w) (x : Ext w w') : Tab w' := fun j hj => by
  have h1 := h j hj
  have h2 : (⟨2, j, none⟩ : Addr).block < w.heap.size := World.block_lt_of_cell? w _ h1
  rw [x.cell h2]
  exact h1
set_option maxRecDepth 100000 in
set_option maxHeartbeats 1000000 in
theorem tz_core (x k idx : Nat) (w : World) (hx0 : ((x : Int) == 0) = false)
    (key : IntKind.u64.wrap (bits BinOp.and IntKind.u64 (x : Int) (IntKind.u64.wrap (-(x : Int))) * 285870213051353865) / 288230376151711744 = (idx : Int))
    (hi : idx < 64) (hk : k < 64) (hcell : w.cell? ⟨2, idx, none⟩ = some (.int .u8 k)) :
    Calls Try.prog 216 #[.int .u64 x] w fun e w' => e = .returned (.int .i64 k) ∧ Ext w w' := by
  go_enter Try.func216, Try.ntmps216
  go_wp2_with (simp only [key])
  go_ret
  exact ⟨rfl, Ext.rf _⟩
theorem tz_any (x : Nat) (hx : x < 18446744073709551616) (hx0 : x ≠ 0) (w : World) (hT : Tab w) :
    Calls Try.prog 216 #[.int .u64 x] w fun e w' => e = .returned (.int .i64 (Lib.ctz 64 x)) ∧ Ext w w' := by
  obtain ⟨hlow, hk⟩ := Lib.lowest_bit 64 x hx0 hx
  obtain ⟨hi, htab⟩ := Lib.deBruijn64_at _ hk
  have hcell := hT _ hi
  rw [htab] at hcell
  exact tz_core x _ _ w (by simp; omega) (tz64_key x _ hx hx0 hlow) hi hk hcell
set_option maxRecDepth 100000 in
theorem within_any (i : Int) (w : World) : Calls Try.prog 173 #[.int .i64 i] w fun e w' => e = .returned (.bool (decide (0 ≤ i) && decide (i < 128))) ∧ Ext w w' := by
  by_cases h0 : 0 ≤ i
  · have hb : decide (0 ≤ i) = true := decide_eq_true h0
    go_enter Try.func173, Try.ntmps173
    go_wp2
    go_ret
    exact ⟨by simp [hb], Ext.rf _⟩
  · have hb : decide (0 ≤ i) = false := decide_eq_false h0
    go_enter Try.func173, Try.ntmps173
    go_wp2
    go_ret
    exact ⟨by simp [hb], Ext.rf _⟩
set_option maxRecDepth 100000 in
theorem minus_any (a b : Nat) (ha : a < 18446744073709551616) (hb : b < 18446744073709551616) (w : World) : Calls Try.prog 217 #[setV a, setV b] w fun e w' => e = .returned (setV (andNotN a b)) ∧ Ext w w' := by
  have k := bits_andNot_u64 a b ha hb
  have k0 : bits .andNot .u64 0 0 = 0 := by decide +kernel
  clear ha hb
  unfold setV
  go_enter Try.func217, Try.ntmps217
  go_wp2
  refine bodyPost_ret (v := .agg #[.int .u64 (andNotN a b), .int .u64 0]) (by simp [results, Try.results217, go_sem]) rfl ⟨rfl, ?_⟩
  repeat (first | exact Ext.rf _ | apply Ext.alloc | (refine Ext.setNew ?_ (by simp <;> omega) _))
theorem bit_and_one (m n : Nat) (hm : m < 18446744073709551616) : (bits BinOp.and IntKind.u64 ((m : Int) / 2 ^ n) 1 == 1) = m.testBit n := by
  have e : ((m : Int) / 2 ^ n) = ((m / 2 ^ n : Nat) : Int) := by rw [Int.natCast_ediv, Int.natCast_pow]; rfl
  have hlt : m / 2 ^ n < 18446744073709551616 := Nat.lt_of_le_of_lt (Nat.div_le_self _ _) hm
  have h := bits_and_u64_nat (m / 2 ^ n) 1 hlt (by omega)
  rw [e, show ((1 : Int)) = ((1 : Nat) : Int) from rfl, h, Nat.and_one_is_mod, shr_bit]
  split <;> rename_i hb
  · rw [hb]; rfl
  · simp at hb; rw [hb]; rfl
set_option maxRecDepth 100000 in
theorem has_any (m : Nat) (i : Int) (hm : m < 18446744073709551616) (w : World) : Calls Try.prog 206 #[setV m, .int .i64 i] w fun e w' => e = .returned (.bool (decide (0 ≤ i ∧ i < 64) && m.testBit i.toNat)) ∧ Ext w w' := by
  by_cases h0 : 0 ≤ i ∧ i < 64
  · obtain ⟨n, rfl⟩ : ∃ n : Nat, i = (n : Int) := ⟨i.toNat, by omega⟩
    have hn : n < 64 := by omega
    unfold setV
    have B1 : Blk (w.alloc (.cells #[.int .u64 m, .int .u64 0] 180)) w.heap.size 180 #[.int .u64 m, .int .u64 0] := .new rfl
    go_enter Try.func206, Try.ntmps206
    go_wp2_with (fail)
    refine (within_any _ _).mono ?_
    rintro e w1 ⟨rfl, x1⟩
    have c0 : w1.cell? ⟨w.heap.size, 0, none⟩ = some (.int .u64 m) := (B1.ext x1).cell 0
    have X1 := Lib.hid (Ext.tr (a := w) (by (repeat (first | assumption | exact Ext.rf _ | apply Ext.drew | apply Ext.drewN | apply Ext.alloc))) x1)
    clear x1 B1
    have e1 : (decide (0 ≤ (n : Int)) && decide ((n : Int) < 128)) = true := by simp; omega
    rw [e1]
    have F := bit_and_one m n hm
    have q1 : (n : Int) / 64 = 0 := by omega
    have q2 : (n : Int) % 64 = (n : Int) := by omega
    go_wp2_with (fail)
    go_ret
    exact ⟨ret_b (by rw [decide_eq_true (p := 0 ≤ (n : Int) ∧ (n : Int) < 64) (by omega)]; simp), X1.out⟩
  · unfold setV
    have eF : (decide (0 ≤ i ∧ i < 64) && m.testBit i.toNat) = false := by rw [decide_eq_false h0]; rfl
    rw [eF]
    have B1 : Blk (w.alloc (.cells #[.int .u64 m, .int .u64 0] 180)) w.heap.size 180 #[.int .u64 m, .int .u64 0] := .new rfl
    by_cases h1 : 0 ≤ i ∧ i < 128
    · obtain ⟨n, rfl⟩ : ∃ n : Nat, i = (n : Int) := ⟨i.toNat, by omega⟩
      have hn : 64 ≤ n := by omega
      have hn2 : n < 128 := by omega
      go_enter Try.func206, Try.ntmps206
      go_wp2_with (fail)
      refine (within_any _ _).mono ?_
      rintro e w1 ⟨rfl, x1⟩
      have c1 : w1.cell? ⟨w.heap.size, 1, none⟩ = some (.int .u64 0) := (B1.ext x1).cell 1
      have X1 := Lib.hid (Ext.tr (a := w) (by (repeat (first | assumption | exact Ext.rf _ | apply Ext.drew | apply Ext.drewN | apply Ext.alloc))) x1)
      clear x1 B1
      have e1 : (decide (0 ≤ (n : Int)) && decide ((n : Int) < 128)) = true := by simp; omega
      rw [e1]
      have q1 : (n : Int) / 64 = 1 := by omega
      have F : bits BinOp.and IntKind.u64 0 1 = 0 := by decide +kernel
      clear h0 h1 eF
      go_wp2_with (fail)
      go_ret
      exact ⟨rfl, X1.out⟩
    · have e1 : (decide (0 ≤ i) && decide (i < 128)) = false := by
        by_cases h2 : 0 ≤ i
        · rw [decide_eq_false (p := i < 128) (by omega)]; simp
        · rw [decide_eq_false h2]; rfl
      clear h0 h1 eF
      go_enter Try.func206, Try.ntmps206
      go_wp2_with (fail)
      refine (within_any _ _).mono ?_
      rintro e w1 ⟨rfl, x1⟩
      have X1 := Lib.hid (Ext.tr (a := w) (by (repeat (first | assumption | exact Ext.rf _ | apply Ext.drew | apply Ext.drewN | apply Ext.alloc))) x1)
      clear x1 B1
      rw [e1]
      go_wp2_with (fail)
      go_ret
      exact ⟨rfl, X1.out⟩
theorem shl_wrap (i : Nat) (hi : i < 64) : IntKind.u64.wrap ((2 : Int) ^ i) = ((2 ^ i : Nat) : Int) := by
  have h1 : 2 ^ i < 2 ^ 64 := Nat.pow_lt_pow_right (by omega) hi
  have e2 : ((2 : Int) ^ i) = ((2 ^ i : Nat) : Int) := by rw [Int.natCast_pow]; rfl
  rw [IntKind.wrap_u64, e2]
  generalize 2 ^ i = p at *
  omega
set_option maxRecDepth 100000 in
theorem without_any (m i : Nat) (hm : m < 18446744073709551616) (hi : i < 64) (w : World) : Calls Try.prog 207 #[setV m, .int .i64 i] w fun e w' => e = .returned (setV (clrM m i)) ∧ Ext w w' := by
  unfold setV clrM
  have K := bits_andNot_u64 m (2 ^ i) hm (Nat.pow_lt_pow_right (by omega) hi)
  have sh := shl_wrap i hi
  generalize 2 ^ i = b2 at *
  generalize andNotN m b2 = z at *
  replace K := Lib.hid K
  replace sh := Lib.hid sh
  have B1' : Blk ((w.alloc (.cells #[.int .u64 m, .int .u64 0] 180)).alloc (.cells #[.int .u64 0, .int .u64 0] 180)) w.heap.size 180 #[.int .u64 m, .int .u64 0] := .alloc (.new rfl) _
  have B2 : Blk ((w.alloc (.cells #[.int .u64 m, .int .u64 0] 180)).alloc (.cells #[.int .u64 0, .int .u64 0] 180)) (w.heap.size + 1) 180 #[.int .u64 0, .int .u64 0] := .new (by simp)
  have B1 : Blk (w.alloc (.cells #[.int .u64 m, .int .u64 0] 180)) w.heap.size 180 #[.int .u64 m, .int .u64 0] := .new rfl
  go_enter Try.func207, Try.ntmps207
  go_wp2_with (fail)
  refine (within_any _ _).mono ?_
  rintro e w1 ⟨rfl, x1⟩
  have e1 : (decide (0 ≤ (i : Int)) && decide ((i : Int) < 128)) = true := by simp; omega
  rw [e1]
  have c0 : w1.cell? ⟨w.heap.size, 0, none⟩ = some (.int .u64 m) := (B1'.ext x1).cell 0
  have c1 : w1.cell? ⟨w.heap.size, 1, none⟩ = some (.int .u64 0) := (B1'.ext x1).cell 1
  have f0 := (B1'.ext x1).free 0
  have r0 : w1.cell? ⟨w.heap.size + 1, 0, none⟩ = some (.int .u64 0) := (B2.ext x1).cell 0
  have r1 : w1.cell? ⟨w.heap.size + 1, 1, none⟩ = some (.int .u64 0) := (B2.ext x1).cell 1
  have g0 := (B2.ext x1).free 0
  have g1 := (B2.ext x1).free 1
  have X1 := Lib.hid (Ext.tr (a := w) (by (repeat (first | assumption | exact Ext.rf _ | apply Ext.drew | apply Ext.drewN | apply Ext.alloc))) x1)
  replace K := K.out
  replace sh := sh.out
  have wz : IntKind.i64.wrap 0 = 0 := by decide
  have q1 : (i : Int) / 64 = 0 := by omega
  have q2 : (i : Int).tmod 64 = (i : Int) := by rw [Int.tmod_eq_emod_of_nonneg (by omega)]; omega
  have bA := B1'.ext x1
  have bR := B2.ext x1
  clear x1 B1' B2 e1 c1 f0 r0 r1 g0 g1
  have bA2 := Lib.hid (bA.set 0 (.int .u64 z))
  have bR2 := Lib.hid (bR.far (p := ⟨w.heap.size, 0, none⟩) (by simp) (.int .u64 z))
  have X2 := Lib.hid (X1.out.setNew (p := ⟨w.heap.size, 0, none⟩) (Nat.le_refl _) (.int .u64 z))
  have fA : w1.frozen? ⟨w.heap.size, 0, none⟩ = false := bA.free 0
  go_upto_region 2 with (fail)
  refine wp_region_any (by kernel_rfl) ?_
  change wpAny _ _ _ _ _ _ _ (World.drew _)
  refine wpAny_T (i := 0) (op := Op.move (Operand.tmp 1)) (t := 3) (d := some 7) (v := ?_) rfl (by decide +kernel) (by decide +kernel) (by decide +kernel) (fun _ _ _ h => h) ?_ ?_
  case refine_2 => (intro _; unfold exec2; go_simp; try with_reducible rfl)
  try simp only [Act.put, List.setIfInBounds_toArray, List.set_cons_zero, List.set_cons_succ]
  refine wpAny_T (i := 1) (op := Op.binOp BinOp.quo 3 (Operand.tmp 7) (Operand.const (Value.int IntKind.i64 64)) 3) (t := 3) (d := some 8) (v := ?_) rfl (by decide +kernel) (by decide +kernel) (by decide +kernel) (fun _ _ _ h => h) ?_ ?_
  case refine_2 => (intro _; unfold exec2; go_simp; try with_reducible rfl)
  try simp only [Act.put, List.setIfInBounds_toArray, List.set_cons_zero, List.set_cons_succ]
  refine wpAny_T (i := 2) (op := Op.indexAddr 180 (Operand.tmp 2) (Operand.tmp 8)) (t := 0) (d := some 9) (v := ?_) rfl (by decide +kernel) (by decide +kernel) (by decide +kernel) (fun _ _ _ h => h) ?_ ?_
  case refine_2 => (intro _; unfold exec2; go_simp; try with_reducible rfl)
  try simp only [Act.put, List.setIfInBounds_toArray, List.set_cons_zero, List.set_cons_succ]
  refine wpAny_T (i := 4) (op := Op.move (Operand.tmp 1)) (t := 3) (d := some 11) (v := ?_) rfl (by decide +kernel) (by decide +kernel) (by decide +kernel) (fun _ _ _ h => h) ?_ ?_
  case refine_2 => (intro _; unfold exec2; go_simp; try with_reducible rfl)
  try simp only [Act.put, List.setIfInBounds_toArray, List.set_cons_zero, List.set_cons_succ]
  refine wpAny_T (i := 5) (op := Op.binOp BinOp.rem 3 (Operand.tmp 11) (Operand.const (Value.int IntKind.i64 64)) 3) (t := 3) (d := some 12) (v := ?_) rfl (by decide +kernel) (by decide +kernel) (by decide +kernel) (fun _ _ _ h => h) ?_ ?_
  case refine_2 => (intro _; unfold exec2; go_simp; try with_reducible rfl)
  try simp only [Act.put, List.setIfInBounds_toArray, List.set_cons_zero, List.set_cons_succ]
  refine wpAny_T (i := 6) (op := Op.binOp BinOp.shl 32 (Operand.const (Value.int IntKind.u64 1)) (Operand.tmp 12) 3) (t := 32) (d := some 13) (v := ?_) rfl (by decide +kernel) (by decide +kernel) (by decide +kernel) (fun _ _ _ h => h) ?_ ?_
  case refine_2 => (intro _; unfold exec2; go_simp; try with_reducible rfl)
  try simp only [Act.put, List.setIfInBounds_toArray, List.set_cons_zero, List.set_cons_succ]
  refine wpAny_next 3 (by decide +kernel) (op_ld (T := 32) (x := Operand.tmp 9) (t := 32) (d := some 10) rfl (.pointer (some ⟨w.heap.size, 0, none⟩)) (by kernel_rfl) (.int .u64 m) (by go_simp) ?_)
  try simp only [Act.put, List.setIfInBounds_toArray, List.set_cons_zero, List.set_cons_succ]
  refine wpAny_T (i := 7) (op := Op.binOp BinOp.andNot 32 (Operand.tmp 10) (Operand.tmp 13) 32) (t := 32) (d := some 14) (v := ?_) rfl (by decide +kernel) (by decide +kernel) (by decide +kernel) (fun _ _ _ h => h) ?_ ?_
  case refine_2 => (intro _; unfold exec2; go_simp; try with_reducible rfl)
  try simp only [Act.put, List.setIfInBounds_toArray, List.set_cons_zero, List.set_cons_succ]
  refine wpAny_T (i := 8) (op := Op.indexAddr 180 (Operand.tmp 2) (Operand.tmp 8)) (t := 0) (d := some 15) (v := ?_) rfl (by decide +kernel) (by decide +kernel) (by decide +kernel) (fun _ _ _ h => h) ?_ ?_
  case refine_2 => (intro _; unfold exec2; go_simp; try with_reducible rfl)
  try simp only [Act.put, List.setIfInBounds_toArray, List.set_cons_zero, List.set_cons_succ]
  refine wpAny_next 9 (by decide +kernel) (op_st rfl (.pointer (some ⟨w.heap.size, 0, none⟩)) (.int .u64 z) (by kernel_rfl) (by kernel_rfl) (by go_simp; rfl) ?_)
  refine wpAny_done (by kernel_rfl) ?_ _
  clear c0 fA bA bR X1 hm K sh
  generalize w1.setCell ⟨w.heap.size, 0, none⟩ (.int .u64 z) = w2 at *
  clear w1
  have c0 : w2.cell? ⟨w.heap.size, 0, none⟩ = some (.int .u64 z) := bA2.out.cell 0
  have c1 : w2.cell? ⟨w.heap.size, 1, none⟩ = some (.int .u64 0) := bA2.out.cell 1
  have r0 : w2.cell? ⟨w.heap.size + 1, 0, none⟩ = some (.int .u64 0) := bR2.out.cell 0
  have r1 : w2.cell? ⟨w.heap.size + 1, 1, none⟩ = some (.int .u64 0) := bR2.out.cell 1
  have g0 := bR2.out.free 0
  have g1 := bR2.out.free 1
  go_simp
  go_wp2_with (fail)
  refine bodyPost_ret (v := .agg #[.int .u64 z, .int .u64 0]) (by simp [results, Try.results207, go_sem, *]) rfl ⟨rfl, ?_⟩
  exact ((X2.out.setNew (p := ⟨w.heap.size + 1, 0, none⟩) (by simp) _).setNew (p := ⟨w.heap.size + 1, 1, none⟩) (by simp) _).drew
set_option maxRecDepth 100000 in
theorem first_any (m : Nat) (hm : m < 18446744073709551616) (w : World) (hT : Tab w) : Calls Try.prog 212 #[setV m] w fun e w' => e = .returned (.int .i64 (headI (memsM m))) ∧ Ext w w' := by
  unfold setV
  by_cases h0 : m = 0
  · subst h0
    rw [memsM_zero]
    clear hT hm
    have i0 : ∀ W, (Instr.index 180 (.agg #[.int .u64 0, .int .u64 0]) (.int .i64 0)).run Try.prog W = .ok (.int .u64 0) W := fun _ => by kernel_rfl
    have i1 : ∀ W, (Instr.index 180 (.agg #[.int .u64 0, .int .u64 0]) (.int .i64 1)).run Try.prog W = .ok (.int .u64 0) W := fun _ => by kernel_rfl
    go_enter Try.func212, Try.ntmps212
    go_wp2_with (fail)
    go_loopw [6] (fun v wr => (v = .int .i64 0 ∨ v = .int .i64 1 ∨ v = .int .i64 2) ∧ Ext w wr) (fun v _ => 2 - (intOf v).toNat)
    case atStart => exact ⟨.inl rfl, by (repeat (first | assumption | exact Ext.rf _ | apply Ext.drew | apply Ext.drewN | apply Ext.alloc))⟩
    case round =>
      obtain ⟨h3, Y⟩ := hrel
      rcases h3 with rfl | rfl | rfl
      · go_wp2_with (fail)
        go_roundw
        case rel => exact ⟨.inr (.inl rfl), Y⟩
        case measure => simp [intOf]
      · go_wp2_with (fail)
        go_roundw
        case rel => exact ⟨.inr (.inr rfl), Y⟩
        case measure => simp [intOf]
      · go_wp2_with (fail)
        go_ret
        exact ⟨rfl, Y⟩
  · have hh := memsM_head h0 hm
    have eh : headI (memsM m) = (Lib.ctz 64 m : Int) := by
      cases hl : memsM m with
      | nil => rw [hl] at hh; cases hh
      | cons a l => rw [hl] at hh; simp at hh; rw [← hh]; rfl
    rw [eh]
    have TZ := Lib.hid (fun (W : World) (x : Ext w W) => tz_any m hm h0 W (hT.ext x))
    have hk := (Lib.lowest_bit 64 m h0 hm).2
    have hne : ((m : Int) != 0) = true := by simp; omega
    have i0 : ∀ W, (Instr.index 180 (.agg #[.int .u64 m, .int .u64 0]) (.int .i64 0)).run Try.prog W = .ok (.int .u64 m) W := fun _ => by kernel_rfl
    have hwp : IntKind.i64.wrap (0 + (Lib.ctz 64 m : Int)) = (Lib.ctz 64 m : Int) := by rw [Int.zero_add]; exact IntWalk.i64_in _ (by omega)
    generalize Lib.ctz 64 m = z at *
    clear hh eh h0 hT
    go_enter Try.func212, Try.ntmps212
    go_wp2_with (fail)
    go_loopw [6] (fun v wr => v = .int .i64 0 ∧ Ext w wr) (fun _ _ => 0)
    case atStart => exact ⟨rfl, by (repeat (first | assumption | exact Ext.rf _ | apply Ext.drew | apply Ext.drewN | apply Ext.alloc))⟩
    case round =>
      obtain ⟨rfl, Y⟩ := hrel
      go_wp2_with (fail)
      refine (TZ.out _ Y).mono ?_
      rintro e w2 ⟨rfl, x2⟩
      go_wp2_with (fail)
      go_ret
      exact ⟨rfl, Y.tr x2⟩
theorem fullW (n : Nat) (h : n < 64) : IntKind.u64.wrap (IntKind.u64.wrap (2 ^ n) - 1) = ((2 ^ n - 1 : Nat) : Int) := by
  have h1 : 2 ^ n < 2 ^ 64 := Nat.pow_lt_pow_right (by omega) h
  have h2 : 0 < 2 ^ n := Nat.pow_pos (by omega)
  have e : ((2 : Int) ^ n) = ((2 ^ n : Nat) : Int) := by rw [Int.natCast_pow]; rfl
  rw [IntKind.wrap_u64, IntKind.wrap_u64, e]
  omega
set_option maxRecDepth 100000 in
theorem full_any (n : Nat) (hn : n < 64) (w : World) : Calls Try.prog 164 #[.int .i64 n] w fun e w' => e = .returned (setV (2 ^ n - 1)) ∧ Ext w w' := by
  unfold setV
  have FW := fullW n hn
  have F0 : n = 0 → 2 ^ n - 1 = 0 := fun h => by subst h; rfl
  generalize 2 ^ n - 1 = fm at *
  replace F0 := Lib.hid F0
  have B2 : Blk ((w.alloc (.cells #[.int .u64 0, .int .u64 0] 180)).alloc (.cells #[.int .u64 0, .int .u64 0] 180)) (w.heap.size + 1) 180 #[.int .u64 0, .int .u64 0] := .new (by simp)
  have B1 : Blk ((w.alloc (.cells #[.int .u64 0, .int .u64 0] 180)).alloc (.cells #[.int .u64 0, .int .u64 0] 180)) w.heap.size 180 #[.int .u64 0, .int .u64 0] := .alloc (.new rfl) _
  have X0 : Ext w ((w.alloc (.cells #[.int .u64 0, .int .u64 0] 180)).alloc (.cells #[.int .u64 0, .int .u64 0] 180)) := ((Ext.rf w).alloc _).alloc _
  go_enter Try.func164, Try.ntmps164
  go_wp2_with (fail)
  go_loopw [6] (fun v wr => ∃ k : Nat, v = .int .i64 k ∧ k ≤ 2 ∧ Hid (Ext w wr) ∧ Hid (Blk wr w.heap.size 180 #[.int .u64 0, .int .u64 0]) ∧ Hid (Blk wr (w.heap.size + 1) 180 #[.int .u64 (if k = 0 then 0 else (fm : Int)), .int .u64 0])) (fun v _ => 2 - (intOf v).toNat)
  case atStart => exact ⟨0, rfl, by omega, X0, B1, B2⟩
  case round =>
    obtain ⟨k, rfl, hk, Y, C1, C2⟩ := hrel
    have h3 : k = 0 ∨ k = 1 ∨ k = 2 := by omega
    rcases h3 with rfl | rfl | rfl
    · have c0 : wr.cell? ⟨w.heap.size + 1, 0, none⟩ = some (.int .u64 0) := C2.out.cell 0
      have f0 := C2.out.free 0
      by_cases hn0 : n = 0
      · obtain rfl : fm = 0 := F0.out hn0
        subst hn0
        go_wp2_with (fail)
        go_roundw
        case rel => exact ⟨1, rfl, by omega, Y, C1, C2⟩
        case measure => simp [intOf]
      · have hn1 : 0 < n := by omega
        have C3 := Lib.hid (C2.out.set 0 (.int .u64 (fm : Int)))
        have C4 := Lib.hid (C1.out.far (p := ⟨w.heap.size + 1, 0, none⟩) (by simp) (.int .u64 (fm : Int)))
        have Y4 := Lib.hid (Y.out.setNew (p := ⟨w.heap.size + 1, 0, none⟩) (by simp) (.int .u64 (fm : Int)))
        go_wp2_with (fail)
        go_roundw
        case rel => exact ⟨1, rfl, by omega, Y4, C4, C3⟩
        case measure => simp [intOf]
    · go_wp2_with (fail)
      go_roundw
      case rel => exact ⟨2, rfl, by omega, Y, C1, C2⟩
      case measure => simp [intOf]
    · have c0 : wr.cell? ⟨w.heap.size + 1, 0, none⟩ = some (.int .u64 (fm : Int)) := C2.out.cell 0
      have c1 : wr.cell? ⟨w.heap.size + 1, 1, none⟩ = some (.int .u64 0) := C2.out.cell 1
      have r0 : wr.cell? ⟨w.heap.size, 0, none⟩ = some (.int .u64 0) := C1.out.cell 0
      have r1 : wr.cell? ⟨w.heap.size, 1, none⟩ = some (.int .u64 0) := C1.out.cell 1
      have f0 := C1.out.free 0
      have f1 := C1.out.free 1
      go_wp2_with (fail)
      refine bodyPost_ret (v := .agg #[.int .u64 (fm : Int), .int .u64 0]) (by simp [results, Try.results164, go_sem, *]) rfl ⟨rfl, ?_⟩
      exact (Y.out.setNew (p := ⟨w.heap.size, 0, none⟩) (by simp) _).setNew (p := ⟨w.heap.size, 1, none⟩) (by simp) _
end Go.Proofs.Ytleckhbmciiooaa
namespace Go.Proofs.Ytleckhbmciiooaa
open Go.RowKit Go.ChangeShapes Go.WideShapes Go.ChangeAt Go.Deep Go.Shelf
attribute [local go_sem] Oper.semAt_some

set_option maxRecDepth 100000 in
set_option maxHeartbeats 1000000 in
theorem next_any (m x : Nat) (hm : m < 18446744073709551616) (hx : x < 63) (w : World) (hT : Tab w) :
    Calls Try.prog 213 #[setV m, .int .i64 x] w fun e w' => e = .returned (.int .i64 (headI (memsM (andNotN m (2 ^ (x + 1) - 1))))) ∧ Ext w w' := by
  have FU : Hid (∀ W : World, Calls Try.prog 164 #[.int .i64 ((x : Int) + 1)] W fun e w' => e = .returned (setV (2 ^ (x + 1) - 1)) ∧ Ext W w') := fun W => by
    have h := full_any (x + 1) (by omega) W
    have e : ((x + 1 : Nat) : Int) = (x : Int) + 1 := by omega
    rw [e] at h
    exact h
  have hf : 2 ^ (x + 1) - 1 < 18446744073709551616 := by
    have : 2 ^ (x + 1) < 2 ^ 64 := Nat.pow_lt_pow_right (by omega) (by omega)
    omega
  have MI := Lib.hid (fun (W : World) => minus_any m (2 ^ (x + 1) - 1) hm hf W)
  have FI := Lib.hid (fun (W : World) (y : Ext w W) => first_any (andNotN m (2 ^ (x + 1) - 1)) (andNotN_lt _ _) W (hT.ext y))
  clear hT hf hm
  generalize headI (memsM (andNotN m (2 ^ (x + 1) - 1))) = r at *
  generalize andNotN m (2 ^ (x + 1) - 1) = z at *
  generalize 2 ^ (x + 1) - 1 = f at *
  unfold setV at *
  have hq1 : (if (x : Int) < -1 then (-1 : Int) else (x : Int)) = (x : Int) := if_neg (by omega)
  have hq2 : IntKind.i64.wrap ((x : Int) + 1) = (x : Int) + 1 := IntWalk.i64_in _ (by omega)
  have B1 : Blk (w.alloc (.cells #[.int .u64 m, .int .u64 0] 180)) w.heap.size 180 #[.int .u64 m, .int .u64 0] := .new rfl
  have X0 : Ext w (w.alloc (.cells #[.int .u64 m, .int .u64 0] 180)) := (Ext.rf w).alloc _
  go_enter Try.func213, Try.ntmps213
  go_upto_region 3 with (fail)
  generalize w.alloc (.cells #[.int .u64 m, .int .u64 0] 180) = w1 at *
  refine wp_region_any (by kernel_rfl) ?_
  change wpAny _ _ _ _ _ _ _ (World.drew _)
  refine wpAny_T (i := 1) (op := Op.move (Operand.tmp 1)) (t := 3) (d := some 8) (v := ?_) rfl (by decide +kernel) (by decide +kernel) (by decide +kernel) (fun _ _ _ h => h) ?_ ?_
  case refine_2 => (intro _; unfold exec2; go_simp; try with_reducible rfl)
  try simp only [Act.put, List.setIfInBounds_toArray, List.set_cons_zero, List.set_cons_succ]
  refine wpAny_T (i := 2) (op := Op.call { callee := Callee.builtin Builtin.max, args := #[Operand.tmp 8, Operand.const (Value.int IntKind.i64 (-1))], argTypes := #[3, 3] }) (t := 3) (d := some 9) (v := ?_) rfl (by decide +kernel) (by decide +kernel) (by decide +kernel) (fun _ _ _ h => h) ?_ ?_
  case refine_2 => (intro _; unfold exec2; go_simp; try with_reducible rfl)
  try simp only [Act.put, List.setIfInBounds_toArray, List.set_cons_zero, List.set_cons_succ]
  refine wpAny_T (i := 3) (op := Op.binOp BinOp.add 3 (Operand.tmp 9) (Operand.const (Value.int IntKind.i64 1)) 3) (t := 3) (d := some 10) (v := ?_) rfl (by decide +kernel) (by decide +kernel) (by decide +kernel) (fun _ _ _ h => h) ?_ ?_
  case refine_2 => (intro _; unfold exec2; go_simp; try with_reducible rfl)
  try simp only [Act.put, List.setIfInBounds_toArray, List.set_cons_zero, List.set_cons_succ]
  refine wpAny_core2 (n := 3) [(0, some 7), (4, some 11)] (Ext w1)
    (VF (fun | 0 => some (.agg #[.int .u64 m, .int .u64 0]) | 4 => some (.agg #[.int .u64 f, .int .u64 0]) | _ => none) (fun _ _ _ => True))
    Ext #[true, true, true, true, true, false, false, false] (by kernel_rfl) (VF.stab ?_) ?_ ?_ ((Ext.rf _).drew)
  · intro j v W W' _ h _
    exact h
  · intro pq hpm u W hRW hD K hK
    have c0 : W.cell? ⟨w.heap.size, 0, none⟩ = some (.int .u64 m) := (B1.ext hRW).cell 0
    have c1 : W.cell? ⟨w.heap.size, 1, none⟩ = some (.int .u64 0) := (B1.ext hRW).cell 1
    simp only [List.mem_cons, List.not_mem_nil, or_false] at hpm
    rcases hpm with rfl | rfl
    · exact op_ld (T := 180) rfl (.pointer (some ⟨w.heap.size, 0, none⟩)) (by kernel_rfl) (.agg #[.int .u64 m, .int .u64 0]) (by go_simp) (hK _ _ (VF.mk rfl) hRW (Ext.rf _))
    · refine op_call rfl #[.int .i64 ((x : Int) + 1)] (by go_simp) (by kernel_rfl) _ (FU.out W) ?_
      rintro e w3 ⟨rfl, x3⟩
      exact ⟨_, rfl, hK _ _ (VF.mk rfl) (hRW.tr x3) x3⟩
  · intro u W hRW hV
    have h0 := (hV (0, some 7) (by simp)).k rfl
    have h4 := (hV (4, some 11) (by simp)).k rfl
    simp only [putAll, h0, h4]
    have XW := X0.tr hRW
    try simp only [Act.put, List.setIfInBounds_toArray, List.set_cons_zero, List.set_cons_succ]
    refine wpAny_next 5 (by decide +kernel) (op_call (f := 217) (xs := #[Operand.tmp 7, Operand.tmp 11]) (ts := #[180, 180]) (t := 180) (d := some 12) rfl #[.agg #[.int .u64 m, .int .u64 0], .agg #[.int .u64 f, .int .u64 0]] (by go_simp) (by kernel_rfl) _ (MI.out W) ?_)
    rintro e w3 ⟨rfl, x3⟩
    refine ⟨_, rfl, ?_⟩
    try simp only [Act.put, List.setIfInBounds_toArray, List.set_cons_zero, List.set_cons_succ]
    refine wpAny_next 6 (by decide +kernel) (op_call (f := 212) (xs := #[Operand.tmp 12]) (ts := #[180]) (t := 3) (d := some 13) rfl #[.agg #[.int .u64 z, .int .u64 0]] (by go_simp) (by kernel_rfl) _ (FI.out w3 (XW.tr x3)) ?_)
    rintro e w4 ⟨rfl, x4⟩
    refine ⟨_, rfl, ?_⟩
    try simp only [Act.put, List.setIfInBounds_toArray, List.set_cons_zero, List.set_cons_succ]
    refine wpAny_T (i := 7) (op := Op.assign (Operand.tmp 13)) (t := 3) (d := some 4) (v := ?_) rfl (by decide +kernel) (by decide +kernel) (by decide +kernel) (fun _ _ _ h => h) ?_ ?_
    case refine_2 => (intro _; unfold exec2; go_simp; try with_reducible rfl)
    try simp only [Act.put, List.setIfInBounds_toArray, List.set_cons_zero, List.set_cons_succ]
    refine wpAny_done (by kernel_rfl) ?_ _
    have X4 := Lib.hid ((XW.tr x3).tr x4)
    clear XW x3 x4 hRW hV h0 h4
    go_simp
    go_wp2_with (fail)
    go_ret
    exact ⟨rfl, X4.out⟩
set_option maxRecDepth 100000 in
theorem all_any (m : Nat) (w : World) : Calls Try.prog 209 #[setV m] w fun e w' => e = .returned (.func (.func 211) #[] #[.pointer (some ⟨w.heap.size, 0, none⟩)]) ∧ w' = w.alloc (.cells #[.int .u64 m, .int .u64 0] 180) := by
  unfold setV
  go_enter Try.func209, Try.ntmps209
  go_wp2_with (fail)
  go_ret
  exact ⟨rfl, rfl⟩
/-- one of a set -/
abbrev In (m : Nat) : Type := { x : Nat // x ∈ memsM m }
theorem In.lt {m : Nat} (x : In m) : x.1 < 64 := (memsM_mem.1 x.2).1
/-- what a round keeps: what lay ahead, and the set itself -/
def SetKp (n₀ Bn : Nat) (W W' : World) : Prop := Below n₀ W W' ∧ W'.heap[Bn]? = W.heap[Bn]?
theorem SetKp.tr {n₀ Bn : Nat} {A B C : World} (h : SetKp n₀ Bn A B) (k : SetKp n₀ Bn B C) : SetKp n₀ Bn A C := ⟨h.1.trans k.1, k.2.trans h.2⟩
theorem grown_of_ext {W W' : World} (x : Ext W W') : W.grownBy W' none := ⟨x.os, x.tape, x.output, x.size, fun k hk _ => x.block k hk⟩
theorem headI_cons (x : Nat) (l : List Nat) : headI (x :: l) = (x : Int) := rfl
set_option maxRecDepth 100000 in
set_option maxHeartbeats 2000000 in
theorem all1_in (n : Nat) (m : Nat) (hm : m < 18446744073709551616) (l Bn n₀ : Nat) (J Jx : List (In m) → World → Prop) (W : World) (hJ : AbidesFrom W.heap.size J)
    (hY : ∀ pre x W1, J pre W1 → pre.length < (memsM m).length → YieldAt Fence.wide (n - 1) Try.prog l #[.int .i64 ((x : In m).1 : Nat)] W1 fun e W' =>
      (e = .returned (.bool true) ∧ J (pre ++ [x]) W' ∧ SetKp n₀ Bn W1 W') ∨ (e = .returned (.bool false) ∧ Jx (pre ++ [x]) W'))
    (hB : Blk W Bn 180 #[.int .u64 m, .int .u64 0]) (hT : Tab W) (hT0 : ∀ j, j < Lib.deBruijn64tab.length → 2 < n₀) (hn₀ : n₀ ≤ W.heap.size) (h0 : J [] W) (h63 : ∀ x ∈ memsM m, x < 63) :
    CallsIn Fence.wide n Try.prog 211 #[.func (.yield l) #[] #[], .pointer (some ⟨Bn, 0, none⟩)] W fun e W' => (∃ v, e = .returned v) ∧
      ((∃ ys, ys = (memsM m).attach ∧ J ys W') ∨ (∃ pre, pre <+: (memsM m).attach ∧ Jx pre W')) := by
  have key : ∀ (W1 : World), Below n₀ W W1 → Tab W1 := fun W1 hb j hj => by
    rw [hb.cell (p := ⟨2, j, none⟩) (hT0 j hj)]
    exact hT j hj
  refine callsIn_of_wp Try.func211 rfl trivial ?_ rfl
  simp only [Try.ntmps211, List.size_toArray, List.length_cons, List.length_nil, Nat.reduceAdd, Nat.reduceSub, Array.replicate_succ, Array.replicate_zero, List.push_toArray, List.append_toArray, List.nil_append, List.cons_append]
  have c0 : W.cell? ⟨Bn, 0, none⟩ = some (.int .u64 m) := hB.cell 0
  have c1 : W.cell? ⟨Bn, 1, none⟩ = some (.int .u64 0) := hB.cell 1
  have FI := Lib.hid (first_any m hm W hT)
  unfold setV at FI
  gi_wp2
  refine ⟨trivial, fun h => (by cases h), ?_⟩
  refine (callsIn_wide.2 FI.out).mono ?_
  rintro e w1 ⟨rfl, x1⟩
  have h1 : J [] w1 := hJ [] W w1 none h0 (grown_of_ext x1) (fun r h => by cases h)
  have b1 := hB.ext x1
  have k1 : Below n₀ W w1 := x1.mono hn₀
  gi_wp2
  gi_loopw [3] (fun p wr => ∃ (pre rest : List (In m)), p = .int .i64 (headI (rest.map (·.1))) ∧ Hid ((memsM m).attach = pre ++ rest) ∧ Hid (J pre wr) ∧ Hid (Blk wr Bn 180 #[.int .u64 m, .int .u64 0]) ∧ Hid (Below n₀ W wr) ∧ Hid (W.heap.size ≤ wr.heap.size)) (fun p _ => ((65 - intOf p) % 66).toNat)
  case atStart => exact ⟨[], (memsM m).attach, by rw [List.attach_map_subtype_val], rfl, h1, b1, k1, x1.size⟩
  case round =>
    obtain ⟨pre, rest, rfl, hx, hJ1, hB1, hk, hz⟩ := hrel
    have hval : memsM m = (pre ++ rest).map (·.1) := by rw [← hx.out, List.attach_map_subtype_val]
    cases rest with
    | nil =>
      gi_wp2
      go_end0
      exact ⟨⟨_, rfl⟩, .inl ⟨pre, by rw [hx.out, List.append_nil], hJ1.out⟩⟩
    | cons x rest =>
      have hlen : pre.length < (memsM m).length := by rw [hval]; simp
      obtain ⟨fn, tmps, assign, body, hy, hR⟩ := hY pre x wr hJ1.out hlen
      have hx64 := h63 x.1 x.2
      have hnx : memsM m = pre.map (·.1) ++ x.1 :: rest.map (·.1) := hval.trans (by simp)
      have NX := fun (V : World) (hT' : Tab V) => next_any m x.1 hm hx64 V hT'
      rw [memsM_next hm hnx] at NX
      have hpre : pre ++ [x] <+: (memsM m).attach := ⟨rest, by rw [hx.out]; simp⟩
      have hx2 : Hid ((memsM m).attach = (pre ++ [x]) ++ rest) := by
        have h : (memsM m).attach = (pre ++ [x]) ++ rest := by rw [hx.out]; simp
        exact h
      have hsort := memsM_sorted m
      rw [hnx] at hsort
      have hlt : ∀ y ∈ rest.map (·.1), x.1 < y := (List.pairwise_cons.1 (List.pairwise_append.1 hsort).2.1).1
      obtain ⟨nx, hnxt⟩ : ∃ nx, Hid (headI (rest.map (·.1)) = nx) := ⟨_, rfl⟩
      have hms : nx = -1 ∨ ((x.1 : Int) < nx ∧ nx ≤ 63) := by
        rw [← hnxt.out]
        cases rest with
        | nil => left; rfl
        | cons y l => right; have h1 := hlt y.1 (by simp); have h2 := y.lt; simp only [List.map_cons, headI_cons]; omega
      rw [hnxt.out] at NX
      replace NX := Lib.hid NX
      unfold setV at NX
      simp only [List.map_cons, headI_cons]
      replace hpre := Lib.hid hpre
      clear hval hnx hsort hlt hlen
      have B1' := hB1.out
      gi_wp2
      refine ⟨fun h => (by cases h), ?_⟩
      refine hR.mono ?_
      rintro e W3 (⟨rfl, hJ3, hk3⟩ | ⟨rfl, hJx3⟩)
      · have b3 : Blk W3 Bn 180 #[.int .u64 m, .int .u64 0] := hk3.2.trans B1'
        have kb3 := hk.out.trans hk3.1
        have c0' : W3.cell? ⟨Bn, 0, none⟩ = some (.int .u64 m) := b3.cell 0
        have c1' : W3.cell? ⟨Bn, 1, none⟩ = some (.int .u64 0) := b3.cell 1
        have NX3 := Lib.hid (NX.out W3 (key W3 kb3))
        gi_wp2
        refine ⟨trivial, fun h => (by cases h), ?_⟩
        refine (callsIn_wide.2 NX3.out).mono ?_
        rintro e w4 ⟨rfl, x4⟩
        have z3 := hk3.1.size
        have hJ4 := hJ (pre ++ [x]) W3 w4 none hJ3 (grown_of_ext x4) (fun r h => by cases h)
        gi_wp2
        go_roundw
        case rel => exact ⟨pre ++ [x], rest, by rw [hnxt.out], hx2, hJ4, b3.ext x4, kb3.trans (x4.mono (by have := hz.out; omega)), by have := hz.out; have := x4.size; exact (by omega : W.heap.size ≤ w4.heap.size)⟩
        case measure =>
          simp only [intOf]
          have q1 := hms
          have q2 := hx64
          omega
      · gi_wp2
        refine bodyPost_ret (results_none rfl _ _ _) rfl ?_
        exact ⟨⟨_, rfl⟩, .inr ⟨pre ++ [x], hpre.out, hJx3⟩⟩
theorem tab_low {w : World} (h : Tab w) : 2 < w.heap.size := World.block_lt_of_cell? w _ (h 0 (by decide))
/-- All's value gives the set's numbers, one by one, rising -/
theorem all_stops (n : Nat) (m : Nat) (hm : m < 18446744073709551616) (h63 : ∀ x ∈ memsM m, x < 63) (Bn n₀ : Nat) (w : World) (hB : Blk w Bn 180 #[.int .u64 m, .int .u64 0]) (hT : Tab w) (hn₀ : n₀ ≤ w.heap.size) (hg : 2 < n₀) :
    SeqStopsK Fence.wide n Try.prog 211 #[.pointer (some ⟨Bn, 0, none⟩)] (fun x : In m => #[Value.int .i64 ((x.1 : Nat) : Int)]) (SetKp n₀ Bn) (fun ys => ys = (memsM m).attach) (fun pre => pre <+: (memsM m).attach) (memsM m).length w := fun l J Jx W hW hJ _ hY h0 =>
  all1_in n m hm l Bn n₀ J Jx W hJ hY (hB.ext hW) (hT.ext hW) (fun _ _ => hg) (Nat.le_trans hn₀ hW.size) h0 h63
theorem setKp_b {n₀ Bn : Nat} {w : World} {cs : Array Value} (hn : n₀ ≤ w.heap.size) (hB : Blk w Bn 180 cs) (W : World) (l : Nat) (o o' : Obj) (hl : w.heap.size ≤ l) (h : W.heap[l]? = some o) (h1 : o.isCells = false) (h2 : o.isWalk = false) : SetKp n₀ Bn W (W.putObj l o') :=
  ⟨belowK_b hn W l o o' hl h h1 h2, World.putObj_heap_other (by have := hB.lt; omega)⟩
end Go.Proofs.Ytleckhbmciiooaa
namespace Go.Proofs.Ytleckhbmciiooaa
open Go.RowKit Go.ChangeShapes Go.WideShapes Go.ChangeAt Go.Deep Go.Shelf
attribute [local go_sem] Oper.semAt_some

def inL {m : Nat} (pre : List (In m)) : List Nat := pre.map (·.1)
theorem inL_snoc {m : Nat} (pre : List (In m)) (x : In m) : inL (pre ++ [x]) = inL pre ++ [x.1] := by simp [inL]
theorem inL_attach (m : Nat) : inL (memsM m).attach = memsM m := List.attach_map_subtype_val _
theorem Blk.not_row {W : World} {g n₀ k size : Nat} {t e : TypeId} {cs : Array Value} {v : Value} {xs : List Value} (h : Blk W g t cs) (hne : t ≠ e) (hrow : W.ownsRow n₀ e size v k xs) : v.ownBlock ≠ some g := by
  rcases hrow.2 with ⟨rfl, _⟩ | ⟨g', cap, cur, rfl, _, hg, _⟩
  · simp [Value.ownBlock]
  · intro e'
    obtain rfl : g' = g := by simpa [Value.ownBlock] using e'
    unfold Blk at h
    rw [h] at hg
    injection hg with hg
    injection hg with _ ht
    exact hne ht
set_option maxRecDepth 100000 in
set_option maxHeartbeats 2000000 in
theorem list_in (m : Nat) (hm : m < 18446744073709551616) (h63 : ∀ x ∈ memsM m, x < 63) (w : World) (hT : Tab w) :
    CallsIn Fence.wide 3 Try.prog 203 #[setV m] w fun e W' => ∃ v, e = .returned v ∧ W'.ownsRow w.heap.size 3 1 v (memsM m).length ((intsN (memsM m)).map (Value.int .i64)) ∧ Ext w W' := by
  obtain ⟨i0, hi, hz0, hz1, hz2⟩ := info_parts int_info
  have hg := tab_low hT
  have hml := memsM_le m
  unfold setV
  refine callsIn_of_wp_marks Try.func203 rfl trivial ?_ rfl
  simp only [Try.ntmps203, List.size_toArray, List.length_cons, List.length_nil, Nat.reduceAdd, Nat.reduceSub, Array.replicate_succ, Array.replicate_zero, List.push_toArray, List.append_toArray, List.nil_append, List.cons_append]
  gi_wp2
  refine ⟨trivial, ?_⟩
  refine (callsIn_wide.2 (all_any m _)).mono ?_
  rintro e w' ⟨rfl, rfl⟩
  gi_wp2
  have bS := Boxed.new w 180 (.int .u64 m)
  have bO0 := Boxed.new (w.alloc (.cells #[.int .u64 m, .int .u64 0] 180)) 22 (.slice none 0 0)
  rw [World.size_alloc] at bO0
  have bB : Blk (((w.alloc (.cells #[.int .u64 m, .int .u64 0] 180)).alloc (.cells #[.slice none 0 0] 22)).alloc (.cells #[.int .u64 m, .int .u64 0] 180)) (w.heap.size + 1 + 1) 180 #[.int .u64 m, .int .u64 0] := .new (by simp)
  have hB0 : Ext w (((w.alloc (.cells #[.int .u64 m, .int .u64 0] 180)).alloc (.cells #[.slice none 0 0] 22)).alloc (.cells #[.int .u64 m, .int .u64 0] 180)) := (((Ext.rf w).alloc _).alloc _).alloc _
  clear bS
  refine wpIn_rangeFunc_ownG rfl (by omega) (gf := 211) (lb := #[.pointer (some ⟨w.heap.size + 1 + 1, 0, none⟩)]) rfl trivial (enters_of Try.func211 (by kernel_rfl) rfl)
    (all_stops 2 m hm h63 (w.heap.size + 1 + 1) w.heap.size _ bB (hT.ext hB0) hB0.size hg) SetKp.tr (setKp_b (cs := #[.int .u64 m, .int .u64 0]) hB0.size bB) (Below.refl _ _) (fun _ => rfl)
    (fun pre W => (∃ v, Boxed W (w.heap.size + 1) 22 v ∧ W.ownsRow w.heap.size 3 1 v (inL pre).length ((intsN (inL pre)).map (Value.int .i64)) ∧ True) ∧ (Below w.heap.size w W ∧ Blk W (w.heap.size + 1 + 1) 180 #[.int .u64 m, .int .u64 0]))
    (fun _ _ _ => False)
    ?own
    (fun _ _ _ _ _ hs _ _ => hs)
    ⟨⟨_, bO0.alloc _, World.ownsRow_nil _ _ _ _, trivial⟩, hB0, bB⟩
    (fun x => { tmps := #[.agg #[.int .u64 m, .int .u64 0], .pointer (some ⟨w.heap.size, 0, none⟩), .slice none 0 0, .pointer (some ⟨w.heap.size + 1, 0, none⟩), .int .i64 ((x.1 : Nat) : Int), .agg #[.int .u64 m, .int .u64 0], .func (.func 211) #[] #[.pointer (some ⟨w.heap.size + 1 + 1, 0, none⟩)], .int .i64 ((x.1 : Nat) : Int), undef, undef, undef, undef, undef], defers := [] }) ?assign ?body ?done ?stop
  case own => exact OwnFrom.and (Own.from (holdsRow_own w.heap.size (w.heap.size + 1) 22 3 1 (fun pre : List (In m) => (inL pre).length) (fun pre => (intsN (inL pre)).map (Value.int .i64)) (fun _ _ => True)) _) (OwnFrom.and (ownFrom_below (Nat.le_refl _) (by simp; omega)) (fun s A B row hs hg hr => (hg.block (w.heap.size + 1 + 1) hs.lt (fun e => by obtain ⟨h1, _⟩ := hr _ e.symm; simp at h1; omega)).trans hs))
  case assign =>
    intro l x W K hK
    gi_wp2
    exact hK
  case body =>
    rintro l pre x W ⟨⟨v, hv, hrow, _⟩, hB, hBn⟩ hlt
    have hc := hv.cell
    have hpl : (inL pre).length < 64 := by
      have h : (inL pre).length = pre.length := by simp [inL]
      omega
    gi_wp2_with (gi_at_builtin; refine wpListIn_append_own _ rfl _ _ 22 rfl w.heap.size 3 i0 (.int .i64 0) 1 8 Try.underlying22 hi hz0 hz1 hz2 rfl (by decide) _ _ _ rfl (hrow.alloc _) ⟨W.heap.size, 0, none⟩ 1 1 [.int .i64 ((x.1 : Nat) : Int)] rfl rfl (cell_one_new _ _ _) (by simp [Value.oneCell']) (by simp only [maxLen]; omega) (by omega) (by have := hB.size; simp; omega) ?_; intro v' w1 hown' hgrow _; obtain ⟨g', cap', rfl⟩ := ownsRow_succ hown'; obtain ⟨hv1, hv2, hr2, hk2, hb2⟩ := hv.appended (by decide) hrow hB.size (Nat.le_succ _) hown' hgrow; have hc1 := hv1.cell; have hf1 := hv1.frozen)
    have hBn2 : Blk (w1.setCell ⟨w.heap.size + 1, 0, none⟩ (.slice (some ⟨g', 0, none⟩) ((inL pre).length + 1) cap')) (w.heap.size + 1 + 1) 180 #[.int .u64 m, .int .u64 0] :=
      Blk.far ((hBn.alloc _).grown hgrow (hBn.not_row (by decide) hrow)) (by simp) _
    exact ⟨hk2.from _, ⟨hb2, hBn2.trans hBn.symm⟩, ⟨_, hv2, by rw [inL_snoc]; simpa [intsN] using hr2, trivial⟩, hB.trans hb2, hBn2⟩
  case done =>
    rintro D ys W hD rfl ⟨⟨v, hv, hrow, _⟩, hB, _⟩ hK
    have hc := hv.cell
    rw [inL_attach] at hrow
    gi_wp2
    refine ⟨by simp, .inl ⟨_, _, rfl, run_takeDeferred hK, ?_⟩⟩
    exact ⟨_, results_tmp rfl _ _ _, v, rfl, ownsRow_putObj hrow _ hK rfl, hB.trans (belowK_b (w := w) (Nat.le_refl _) W D _ _ (by simp at hD; omega) hK rfl rfl)⟩
  case stop =>
    rintro D c pre W _ _ h _
    exact h.elim
theorem list_any (m : Nat) (hm : m < 18446744073709551616) (h63 : ∀ x ∈ memsM m, x < 63) (w : World) (hT : Tab w) :
    Calls Try.prog 203 #[setV m] w fun e w' => ∃ A c, e = .returned (.slice A (intsN (memsM m)).length c) ∧ OwI w' w.heap.size A c (intsN (memsM m)) ∧ Ext w w' := by
  refine (callsIn_wide.1 (list_in m hm h63 w hT)).mono ?_
  rintro e w' ⟨v, rfl, ho, hx⟩
  have hv : ∃ A c, v = .slice A (intsN (memsM m)).length c := by
    rcases ho.2 with ⟨rfl, h0⟩ | ⟨g, cap, cur, rfl, _⟩
    · exact ⟨none, 0, by rw [intsN_len, h0]⟩
    · exact ⟨some ⟨g, 0, none⟩, cap, by rw [intsN_len]⟩
  obtain ⟨A, c, rfl⟩ := hv
  refine ⟨A, c, rfl, ?_, hx⟩
  have h := ho
  rw [← intsN_len (memsM m)] at h
  exact h
end Go.Proofs.Ytleckhbmciiooaa
