/-
  The program's sets of numbers below 64: what each call answers.
-/
import Derived.Test.YtpfdkocelmmllaaDoorGen
import Derived.Test.YtpfdkocelmmllaaDoorStep
import Derived.Test.YtpfdkocelmmllaaDoorSetPlain
import Derived.Deep.DeepCutAuto
import Derived.Shelf.Spec.TrailingZeros
namespace Go.Proofs.YtpfdkocelmmllaaDoor
open Go.RowKit Go.ChangeShapes Go.WideShapes Go.ChangeAt Go.Deep

def setV (m : Nat) : Value := .agg #[.int .u64 m, .int .u64 0]
/-- the table of the lowest bits, as it was laid -/
def Tab (w : World) : Prop := TabAt 0 Lib.deBruijn64tab w
theorem Tab.ext {w w' : World} (h : Tab w) (x : Ext w w') : Tab w' := fun j hj => by
  have h1 := h j hj
  have h2 : (⟨0, j, none⟩ : Addr).block < w.heap.size := World.block_lt_of_cell? w _ h1
  rw [x.cell h2]
  exact h1
set_option maxRecDepth 100000 in
set_option maxHeartbeats 1000000 in
theorem tz_core (x k idx : Nat) (w : World) (hx0 : ((x : Int) == 0) = false)
    (key : IntKind.u64.wrap (bits BinOp.and IntKind.u64 (x : Int) (IntKind.u64.wrap (-(x : Int))) * 285870213051353865) / 288230376151711744 = (idx : Int))
    (hi : idx < 64) (hk : k < 64) (hcell : w.cell? ⟨0, idx, none⟩ = some (.int .u8 k)) :
    Calls Tryd.prog 61 #[.int .u64 x] w fun e w' => e = .returned (.int .i64 k) ∧ Ext w w' := by
  go_enter Tryd.func61, Tryd.ntmps61
  go_wp2_with (simp only [key])
  go_ret
  exact ⟨rfl, Ext.rf _⟩
theorem tz_any (x : Nat) (hx : x < 18446744073709551616) (hx0 : x ≠ 0) (w : World) (hT : Tab w) :
    Calls Tryd.prog 61 #[.int .u64 x] w fun e w' => e = .returned (.int .i64 (Lib.ctz 64 x)) ∧ Ext w w' := by
  obtain ⟨hlow, hk⟩ := Lib.lowest_bit 64 x hx0 hx
  obtain ⟨hi, htab⟩ := Lib.deBruijn64_at _ hk
  have hcell := hT _ hi
  rw [htab] at hcell
  exact tz_core x _ _ w (by simp; omega) (tz64_key x _ hx hx0 hlow) hi hk hcell
set_option maxRecDepth 100000 in
theorem within_any (i : Int) (w : World) : Calls Tryd.prog 54 #[.int .i64 i] w fun e w' => e = .returned (.bool (decide (0 ≤ i) && decide (i < 128))) ∧ Ext w w' := by
  by_cases h0 : 0 ≤ i
  · have hb : decide (0 ≤ i) = true := decide_eq_true h0
    go_enter Tryd.func54, Tryd.ntmps54
    go_wp2
    go_ret
    exact ⟨by simp [hb], Ext.rf _⟩
  · have hb : decide (0 ≤ i) = false := decide_eq_false h0
    go_enter Tryd.func54, Tryd.ntmps54
    go_wp2
    go_ret
    exact ⟨by simp [hb], Ext.rf _⟩
set_option maxRecDepth 100000 in
theorem minus_any (a b : Nat) (ha : a < 18446744073709551616) (hb : b < 18446744073709551616) (w : World) : Calls Tryd.prog 62 #[setV a, setV b] w fun e w' => e = .returned (setV (andNotN a b)) ∧ Ext w w' := by
  have k := bits_andNot_u64 a b ha hb
  have k0 : bits .andNot .u64 0 0 = 0 := by decide +kernel
  clear ha hb
  unfold setV
  go_enter Tryd.func62, Tryd.ntmps62
  go_wp2
  refine bodyPost_ret (v := .agg #[.int .u64 (andNotN a b), .int .u64 0]) (by simp [results, Tryd.results62, go_sem]) rfl ⟨rfl, ?_⟩
  repeat (first | exact Ext.rf _ | apply Ext.alloc | (refine Ext.setNew ?_ (by simp <;> omega) _))
theorem bit_and_one (m n : Nat) (hm : m < 18446744073709551616) : (bits BinOp.and IntKind.u64 ((m : Int) / 2 ^ n) 1 == 1) = m.testBit n := by
  have e : ((m : Int) / 2 ^ n) = ((m / 2 ^ n : Nat) : Int) := by rw [Int.natCast_ediv, Int.natCast_pow]; rfl
  have hlt : m / 2 ^ n < 18446744073709551616 := Nat.lt_of_le_of_lt (Nat.div_le_self _ _) hm
  have h := bits_and_u64_nat (m / 2 ^ n) 1 hlt (by omega)
  rw [e, show ((1 : Int)) = ((1 : Nat) : Int) from rfl, h, Nat.and_one_is_mod, shr_bit]
  split <;> rename_i hb
  · rw [hb]; rfl
  · simp at hb; rw [hb]; rfl
set_option maxRecDepth 100000 in
theorem has_any (m : Nat) (i : Int) (hm : m < 18446744073709551616) (w : World) : Calls Tryd.prog 46 #[setV m, .int .i64 i] w fun e w' => e = .returned (.bool (decide (0 ≤ i ∧ i < 64) && m.testBit i.toNat)) ∧ Ext w w' := by
  by_cases h0 : 0 ≤ i ∧ i < 64
  · obtain ⟨n, rfl⟩ : ∃ n : Nat, i = (n : Int) := ⟨i.toNat, by omega⟩
    have hn : n < 64 := by omega
    unfold setV
    have B1 : Blk (w.alloc (.cells #[.int .u64 m, .int .u64 0] 51)) w.heap.size 51 #[.int .u64 m, .int .u64 0] := .new rfl
    go_enter Tryd.func46, Tryd.ntmps46
    go_wp2_with (fail)
    refine (within_any _ _).mono ?_
    rintro e w1 ⟨rfl, x1⟩
    have c0 : w1.cell? ⟨w.heap.size, 0, none⟩ = some (.int .u64 m) := (B1.ext x1).cell 0
    have X1 := Lib.hid (Ext.tr (a := w) (by (repeat (first | assumption | exact Ext.rf _ | apply Ext.drew | apply Ext.drewN | apply Ext.alloc))) x1)
    clear x1 B1
    have e1 : (decide (0 ≤ (n : Int)) && decide ((n : Int) < 128)) = true := by simp; omega
    rw [e1]
    have F := bit_and_one m n hm
    have q1 : (n : Int) / 64 = 0 := by omega
    have q2 : (n : Int) % 64 = (n : Int) := by omega
    go_wp2_with (fail)
    go_ret
    exact ⟨ret_b (by rw [decide_eq_true (p := 0 ≤ (n : Int) ∧ (n : Int) < 64) (by omega)]; simp), X1.out⟩
  · unfold setV
    have eF : (decide (0 ≤ i ∧ i < 64) && m.testBit i.toNat) = false := by rw [decide_eq_false h0]; rfl
    rw [eF]
    have B1 : Blk (w.alloc (.cells #[.int .u64 m, .int .u64 0] 51)) w.heap.size 51 #[.int .u64 m, .int .u64 0] := .new rfl
    by_cases h1 : 0 ≤ i ∧ i < 128
    · obtain ⟨n, rfl⟩ : ∃ n : Nat, i = (n : Int) := ⟨i.toNat, by omega⟩
      have hn : 64 ≤ n := by omega
      have hn2 : n < 128 := by omega
      go_enter Tryd.func46, Tryd.ntmps46
      go_wp2_with (fail)
      refine (within_any _ _).mono ?_
      rintro e w1 ⟨rfl, x1⟩
      have c1 : w1.cell? ⟨w.heap.size, 1, none⟩ = some (.int .u64 0) := (B1.ext x1).cell 1
      have X1 := Lib.hid (Ext.tr (a := w) (by (repeat (first | assumption | exact Ext.rf _ | apply Ext.drew | apply Ext.drewN | apply Ext.alloc))) x1)
      clear x1 B1
      have e1 : (decide (0 ≤ (n : Int)) && decide ((n : Int) < 128)) = true := by simp; omega
      rw [e1]
      have q1 : (n : Int) / 64 = 1 := by omega
      have F : bits BinOp.and IntKind.u64 0 1 = 0 := by decide +kernel
      clear h0 h1 eF
      go_wp2_with (fail)
      go_ret
      exact ⟨rfl, X1.out⟩
    · have e1 : (decide (0 ≤ i) && decide (i < 128)) = false := by
        by_cases h2 : 0 ≤ i
        · rw [decide_eq_false (p := i < 128) (by omega)]; simp
        · rw [decide_eq_false h2]; rfl
      clear h0 h1 eF
      go_enter Tryd.func46, Tryd.ntmps46
      go_wp2_with (fail)
      refine (within_any _ _).mono ?_
      rintro e w1 ⟨rfl, x1⟩
      have X1 := Lib.hid (Ext.tr (a := w) (by (repeat (first | assumption | exact Ext.rf _ | apply Ext.drew | apply Ext.drewN | apply Ext.alloc))) x1)
      clear x1 B1
      rw [e1]
      go_wp2_with (fail)
      go_ret
      exact ⟨rfl, X1.out⟩
theorem shl_wrap (i : Nat) (hi : i < 64) : IntKind.u64.wrap ((2 : Int) ^ i) = ((2 ^ i : Nat) : Int) := by
  have h1 : 2 ^ i < 2 ^ 64 := Nat.pow_lt_pow_right (by omega) hi
  have e2 : ((2 : Int) ^ i) = ((2 ^ i : Nat) : Int) := by rw [Int.natCast_pow]; rfl
  rw [IntKind.wrap_u64, e2]
  generalize 2 ^ i = p at *
  omega
set_option maxRecDepth 100000 in
theorem without_any (m i : Nat) (hm : m < 18446744073709551616) (hi : i < 64) (w : World) : Calls Tryd.prog 47 #[setV m, .int .i64 i] w fun e w' => e = .returned (setV (clrM m i)) ∧ Ext w w' := by
  unfold setV clrM
  have K := bits_andNot_u64 m (2 ^ i) hm (Nat.pow_lt_pow_right (by omega) hi)
  have sh := shl_wrap i hi
  generalize 2 ^ i = b2 at *
  generalize andNotN m b2 = z at *
  replace K := Lib.hid K
  replace sh := Lib.hid sh
  have B1' : Blk ((w.alloc (.cells #[.int .u64 m, .int .u64 0] 51)).alloc (.cells #[.int .u64 0, .int .u64 0] 51)) w.heap.size 51 #[.int .u64 m, .int .u64 0] := .alloc (.new rfl) _
  have B2 : Blk ((w.alloc (.cells #[.int .u64 m, .int .u64 0] 51)).alloc (.cells #[.int .u64 0, .int .u64 0] 51)) (w.heap.size + 1) 51 #[.int .u64 0, .int .u64 0] := .new (by simp)
  have B1 : Blk (w.alloc (.cells #[.int .u64 m, .int .u64 0] 51)) w.heap.size 51 #[.int .u64 m, .int .u64 0] := .new rfl
  go_enter Tryd.func47, Tryd.ntmps47
  go_wp2_with (fail)
  refine (within_any _ _).mono ?_
  rintro e w1 ⟨rfl, x1⟩
  have e1 : (decide (0 ≤ (i : Int)) && decide ((i : Int) < 128)) = true := by simp; omega
  rw [e1]
  have c0 : w1.cell? ⟨w.heap.size, 0, none⟩ = some (.int .u64 m) := (B1'.ext x1).cell 0
  have c1 : w1.cell? ⟨w.heap.size, 1, none⟩ = some (.int .u64 0) := (B1'.ext x1).cell 1
  have f0 := (B1'.ext x1).free 0
  have r0 : w1.cell? ⟨w.heap.size + 1, 0, none⟩ = some (.int .u64 0) := (B2.ext x1).cell 0
  have r1 : w1.cell? ⟨w.heap.size + 1, 1, none⟩ = some (.int .u64 0) := (B2.ext x1).cell 1
  have g0 := (B2.ext x1).free 0
  have g1 := (B2.ext x1).free 1
  have X1 := Lib.hid (Ext.tr (a := w) (by (repeat (first | assumption | exact Ext.rf _ | apply Ext.drew | apply Ext.drewN | apply Ext.alloc))) x1)
  replace K := K.out
  replace sh := sh.out
  have wz : IntKind.i64.wrap 0 = 0 := by decide
  have q1 : (i : Int) / 64 = 0 := by omega
  have q2 : (i : Int).tmod 64 = (i : Int) := by rw [Int.tmod_eq_emod_of_nonneg (by omega)]; omega
  have bA := B1'.ext x1
  have bR := B2.ext x1
  clear x1 B1' B2 e1 c1 f0 r0 r1 g0 g1
  have bA2 := Lib.hid (bA.set 0 (.int .u64 z))
  have bR2 := Lib.hid (bR.far (p := ⟨w.heap.size, 0, none⟩) (by simp) (.int .u64 z))
  have X2 := Lib.hid (X1.out.setNew (p := ⟨w.heap.size, 0, none⟩) (Nat.le_refl _) (.int .u64 z))
  have fA : w1.frozen? ⟨w.heap.size, 0, none⟩ = false := bA.free 0
  go_upto_region 2 with (fail)
  refine wp_region_any (by kernel_rfl) ?_
  change wpAny _ _ _ _ _ _ _ (World.drew _)
  refine wpAny_T (i := 0) (op := Op.move (Operand.tmp 1)) (t := 3) (d := some 7) (v := ?_) rfl (by decide +kernel) (by decide +kernel) (by decide +kernel) (fun _ _ _ h => h) ?_ ?_
  case refine_2 => (intro _; unfold exec2; go_simp; try with_reducible rfl)
  try simp only [Act.put, List.setIfInBounds_toArray, List.set_cons_zero, List.set_cons_succ]
  refine wpAny_T (i := 1) (op := Op.binOp BinOp.quo 3 (Operand.tmp 7) (Operand.const (Value.int IntKind.i64 64)) 3) (t := 3) (d := some 8) (v := ?_) rfl (by decide +kernel) (by decide +kernel) (by decide +kernel) (fun _ _ _ h => h) ?_ ?_
  case refine_2 => (intro _; unfold exec2; go_simp; try with_reducible rfl)
  try simp only [Act.put, List.setIfInBounds_toArray, List.set_cons_zero, List.set_cons_succ]
  refine wpAny_T (i := 2) (op := Op.indexAddr 51 (Operand.tmp 2) (Operand.tmp 8)) (t := 0) (d := some 9) (v := ?_) rfl (by decide +kernel) (by decide +kernel) (by decide +kernel) (fun _ _ _ h => h) ?_ ?_
  case refine_2 => (intro _; unfold exec2; go_simp; try with_reducible rfl)
  try simp only [Act.put, List.setIfInBounds_toArray, List.set_cons_zero, List.set_cons_succ]
  refine wpAny_T (i := 4) (op := Op.move (Operand.tmp 1)) (t := 3) (d := some 11) (v := ?_) rfl (by decide +kernel) (by decide +kernel) (by decide +kernel) (fun _ _ _ h => h) ?_ ?_
  case refine_2 => (intro _; unfold exec2; go_simp; try with_reducible rfl)
  try simp only [Act.put, List.setIfInBounds_toArray, List.set_cons_zero, List.set_cons_succ]
  refine wpAny_T (i := 5) (op := Op.binOp BinOp.rem 3 (Operand.tmp 11) (Operand.const (Value.int IntKind.i64 64)) 3) (t := 3) (d := some 12) (v := ?_) rfl (by decide +kernel) (by decide +kernel) (by decide +kernel) (fun _ _ _ h => h) ?_ ?_
  case refine_2 => (intro _; unfold exec2; go_simp; try with_reducible rfl)
  try simp only [Act.put, List.setIfInBounds_toArray, List.set_cons_zero, List.set_cons_succ]
  refine wpAny_T (i := 6) (op := Op.binOp BinOp.shl 49 (Operand.const (Value.int IntKind.u64 1)) (Operand.tmp 12) 3) (t := 49) (d := some 13) (v := ?_) rfl (by decide +kernel) (by decide +kernel) (by decide +kernel) (fun _ _ _ h => h) ?_ ?_
  case refine_2 => (intro _; unfold exec2; go_simp; try with_reducible rfl)
  try simp only [Act.put, List.setIfInBounds_toArray, List.set_cons_zero, List.set_cons_succ]
  refine wpAny_next 3 (by decide +kernel) (op_ld (T := 49) (x := Operand.tmp 9) (t := 49) (d := some 10) rfl (.pointer (some ⟨w.heap.size, 0, none⟩)) (by kernel_rfl) (.int .u64 m) (by go_simp) ?_)
  try simp only [Act.put, List.setIfInBounds_toArray, List.set_cons_zero, List.set_cons_succ]
  refine wpAny_T (i := 7) (op := Op.binOp BinOp.andNot 49 (Operand.tmp 10) (Operand.tmp 13) 49) (t := 49) (d := some 14) (v := ?_) rfl (by decide +kernel) (by decide +kernel) (by decide +kernel) (fun _ _ _ h => h) ?_ ?_
  case refine_2 => (intro _; unfold exec2; go_simp; try with_reducible rfl)
  try simp only [Act.put, List.setIfInBounds_toArray, List.set_cons_zero, List.set_cons_succ]
  refine wpAny_T (i := 8) (op := Op.indexAddr 51 (Operand.tmp 2) (Operand.tmp 8)) (t := 0) (d := some 15) (v := ?_) rfl (by decide +kernel) (by decide +kernel) (by decide +kernel) (fun _ _ _ h => h) ?_ ?_
  case refine_2 => (intro _; unfold exec2; go_simp; try with_reducible rfl)
  try simp only [Act.put, List.setIfInBounds_toArray, List.set_cons_zero, List.set_cons_succ]
  refine wpAny_next 9 (by decide +kernel) (op_st rfl (.pointer (some ⟨w.heap.size, 0, none⟩)) (.int .u64 z) (by kernel_rfl) (by kernel_rfl) (by go_simp; rfl) ?_)
  refine wpAny_done (by kernel_rfl) ?_ _
  clear c0 fA bA bR X1 hm K sh
  generalize w1.setCell ⟨w.heap.size, 0, none⟩ (.int .u64 z) = w2 at *
  clear w1
  have c0 : w2.cell? ⟨w.heap.size, 0, none⟩ = some (.int .u64 z) := bA2.out.cell 0
  have c1 : w2.cell? ⟨w.heap.size, 1, none⟩ = some (.int .u64 0) := bA2.out.cell 1
  have r0 : w2.cell? ⟨w.heap.size + 1, 0, none⟩ = some (.int .u64 0) := bR2.out.cell 0
  have r1 : w2.cell? ⟨w.heap.size + 1, 1, none⟩ = some (.int .u64 0) := bR2.out.cell 1
  have g0 := bR2.out.free 0
  have g1 := bR2.out.free 1
  go_simp
  go_wp2_with (fail)
  refine bodyPost_ret (v := .agg #[.int .u64 z, .int .u64 0]) (by simp [results, Tryd.results47, go_sem, *]) rfl ⟨rfl, ?_⟩
  exact ((X2.out.setNew (p := ⟨w.heap.size + 1, 0, none⟩) (by simp) _).setNew (p := ⟨w.heap.size + 1, 1, none⟩) (by simp) _).drew
set_option maxRecDepth 100000 in
theorem first_any (m : Nat) (hm : m < 18446744073709551616) (w : World) (hT : Tab w) : Calls Tryd.prog 56 #[setV m] w fun e w' => e = .returned (.int .i64 (headI (memsM m))) ∧ Ext w w' := by
  unfold setV
  by_cases h0 : m = 0
  · subst h0
    rw [memsM_zero]
    clear hT hm
    have i0 : ∀ W, (Instr.index 51 (.agg #[.int .u64 0, .int .u64 0]) (.int .i64 0)).run Tryd.prog W = .ok (.int .u64 0) W := fun _ => by kernel_rfl
    have i1 : ∀ W, (Instr.index 51 (.agg #[.int .u64 0, .int .u64 0]) (.int .i64 1)).run Tryd.prog W = .ok (.int .u64 0) W := fun _ => by kernel_rfl
    go_enter Tryd.func56, Tryd.ntmps56
    go_wp2_with (fail)
    go_loopw [6] (fun v wr => (v = .int .i64 0 ∨ v = .int .i64 1 ∨ v = .int .i64 2) ∧ Ext w wr) (fun v _ => 2 - (intOf v).toNat)
    case atStart => exact ⟨.inl rfl, by (repeat (first | assumption | exact Ext.rf _ | apply Ext.drew | apply Ext.drewN | apply Ext.alloc))⟩
    case round =>
      obtain ⟨h3, Y⟩ := hrel
      rcases h3 with rfl | rfl | rfl
      · go_wp2_with (fail)
        go_roundw
        case rel => exact ⟨.inr (.inl rfl), Y⟩
        case measure => simp [intOf]
      · go_wp2_with (fail)
        go_roundw
        case rel => exact ⟨.inr (.inr rfl), Y⟩
        case measure => simp [intOf]
      · go_wp2_with (fail)
        go_ret
        exact ⟨rfl, Y⟩
  · have hh := memsM_head h0 hm
    have eh : headI (memsM m) = (Lib.ctz 64 m : Int) := by
      cases hl : memsM m with
      | nil => rw [hl] at hh; cases hh
      | cons a l => rw [hl] at hh; simp at hh; rw [← hh]; rfl
    rw [eh]
    have TZ := Lib.hid (fun (W : World) (x : Ext w W) => tz_any m hm h0 W (hT.ext x))
    have hk := (Lib.lowest_bit 64 m h0 hm).2
    have hne : ((m : Int) != 0) = true := by simp; omega
    have i0 : ∀ W, (Instr.index 51 (.agg #[.int .u64 m, .int .u64 0]) (.int .i64 0)).run Tryd.prog W = .ok (.int .u64 m) W := fun _ => by kernel_rfl
    have hwp : IntKind.i64.wrap (0 + (Lib.ctz 64 m : Int)) = (Lib.ctz 64 m : Int) := by rw [Int.zero_add]; exact IntWalk.i64_in _ (by omega)
    generalize Lib.ctz 64 m = z at *
    clear hh eh h0 hT
    go_enter Tryd.func56, Tryd.ntmps56
    go_wp2_with (fail)
    go_loopw [6] (fun v wr => v = .int .i64 0 ∧ Ext w wr) (fun _ _ => 0)
    case atStart => exact ⟨rfl, by (repeat (first | assumption | exact Ext.rf _ | apply Ext.drew | apply Ext.drewN | apply Ext.alloc))⟩
    case round =>
      obtain ⟨rfl, Y⟩ := hrel
      go_wp2_with (fail)
      refine (TZ.out _ Y).mono ?_
      rintro e w2 ⟨rfl, x2⟩
      go_wp2_with (fail)
      go_ret
      exact ⟨rfl, Y.tr x2⟩
theorem fullW (n : Nat) (h : n < 64) : IntKind.u64.wrap (IntKind.u64.wrap (2 ^ n) - 1) = ((2 ^ n - 1 : Nat) : Int) := by
  have h1 : 2 ^ n < 2 ^ 64 := Nat.pow_lt_pow_right (by omega) h
  have h2 : 0 < 2 ^ n := Nat.pow_pos (by omega)
  have e : ((2 : Int) ^ n) = ((2 ^ n : Nat) : Int) := by rw [Int.natCast_pow]; rfl
  rw [IntKind.wrap_u64, IntKind.wrap_u64, e]
  omega
set_option maxRecDepth 100000 in
theorem full_any (n : Nat) (hn : n < 64) (w : World) : Calls Tryd.prog 45 #[.int .i64 n] w fun e w' => e = .returned (setV (2 ^ n - 1)) ∧ Ext w w' := by
  unfold setV
  have FW := fullW n hn
  have F0 : n = 0 → 2 ^ n - 1 = 0 := fun h => by subst h; rfl
  generalize 2 ^ n - 1 = fm at *
  replace F0 := Lib.hid F0
  have B2 : Blk ((w.alloc (.cells #[.int .u64 0, .int .u64 0] 51)).alloc (.cells #[.int .u64 0, .int .u64 0] 51)) (w.heap.size + 1) 51 #[.int .u64 0, .int .u64 0] := .new (by simp)
  have B1 : Blk ((w.alloc (.cells #[.int .u64 0, .int .u64 0] 51)).alloc (.cells #[.int .u64 0, .int .u64 0] 51)) w.heap.size 51 #[.int .u64 0, .int .u64 0] := .alloc (.new rfl) _
  have X0 : Ext w ((w.alloc (.cells #[.int .u64 0, .int .u64 0] 51)).alloc (.cells #[.int .u64 0, .int .u64 0] 51)) := ((Ext.rf w).alloc _).alloc _
  go_enter Tryd.func45, Tryd.ntmps45
  go_wp2_with (fail)
  go_loopw [6] (fun v wr => ∃ k : Nat, v = .int .i64 k ∧ k ≤ 2 ∧ Hid (Ext w wr) ∧ Hid (Blk wr w.heap.size 51 #[.int .u64 0, .int .u64 0]) ∧ Hid (Blk wr (w.heap.size + 1) 51 #[.int .u64 (if k = 0 then 0 else (fm : Int)), .int .u64 0])) (fun v _ => 2 - (intOf v).toNat)
  case atStart => exact ⟨0, rfl, by omega, X0, B1, B2⟩
  case round =>
    obtain ⟨k, rfl, hk, Y, C1, C2⟩ := hrel
    have h3 : k = 0 ∨ k = 1 ∨ k = 2 := by omega
    rcases h3 with rfl | rfl | rfl
    · have c0 : wr.cell? ⟨w.heap.size + 1, 0, none⟩ = some (.int .u64 0) := C2.out.cell 0
      have f0 := C2.out.free 0
      by_cases hn0 : n = 0
      · obtain rfl : fm = 0 := F0.out hn0
        subst hn0
        go_wp2_with (fail)
        go_roundw
        case rel => exact ⟨1, rfl, by omega, Y, C1, C2⟩
        case measure => simp [intOf]
      · have hn1 : 0 < n := by omega
        have C3 := Lib.hid (C2.out.set 0 (.int .u64 (fm : Int)))
        have C4 := Lib.hid (C1.out.far (p := ⟨w.heap.size + 1, 0, none⟩) (by simp) (.int .u64 (fm : Int)))
        have Y4 := Lib.hid (Y.out.setNew (p := ⟨w.heap.size + 1, 0, none⟩) (by simp) (.int .u64 (fm : Int)))
        go_wp2_with (fail)
        go_roundw
        case rel => exact ⟨1, rfl, by omega, Y4, C4, C3⟩
        case measure => simp [intOf]
    · go_wp2_with (fail)
      go_roundw
      case rel => exact ⟨2, rfl, by omega, Y, C1, C2⟩
      case measure => simp [intOf]
    · have c0 : wr.cell? ⟨w.heap.size + 1, 0, none⟩ = some (.int .u64 (fm : Int)) := C2.out.cell 0
      have c1 : wr.cell? ⟨w.heap.size + 1, 1, none⟩ = some (.int .u64 0) := C2.out.cell 1
      have r0 : wr.cell? ⟨w.heap.size, 0, none⟩ = some (.int .u64 0) := C1.out.cell 0
      have r1 : wr.cell? ⟨w.heap.size, 1, none⟩ = some (.int .u64 0) := C1.out.cell 1
      have f0 := C1.out.free 0
      have f1 := C1.out.free 1
      go_wp2_with (fail)
      refine bodyPost_ret (v := .agg #[.int .u64 (fm : Int), .int .u64 0]) (by simp [results, Tryd.results45, go_sem, *]) rfl ⟨rfl, ?_⟩
      exact (Y.out.setNew (p := ⟨w.heap.size, 0, none⟩) (by simp) _).setNew (p := ⟨w.heap.size, 1, none⟩) (by simp) _
end Go.Proofs.YtpfdkocelmmllaaDoor
