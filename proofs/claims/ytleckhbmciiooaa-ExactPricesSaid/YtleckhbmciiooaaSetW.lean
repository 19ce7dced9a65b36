/-
  The program's sets of numbers below 64: With.
-/
import Derived.Test.YtleckhbmciiooaaSetList
namespace Go.Proofs.Ytleckhbmciiooaa
open Go.RowKit Go.ChangeShapes Go.WideShapes Go.ChangeAt Go.Deep

set_option maxRecDepth 100000 in
theorem with_any (m i : Nat) (hm : m < 18446744073709551616) (hi : i < 64) (w : World) : Calls Try.prog 168 #[setV m, .int .i64 i] w fun e w' => e = .returned (setV (m ||| 2 ^ i)) ∧ Ext w w' := by
  unfold setV
  have K := bits_or_u64_nat m (2 ^ i) hm (Nat.pow_lt_pow_right (by omega) hi)
  have sh := shl_wrap i hi
  generalize 2 ^ i = b2 at *
  generalize m ||| b2 = z at *
  replace K := Lib.hid K
  replace sh := Lib.hid sh
  have B1' : Blk ((w.alloc (.cells #[.int .u64 m, .int .u64 0] 180)).alloc (.cells #[.int .u64 0, .int .u64 0] 180)) w.heap.size 180 #[.int .u64 m, .int .u64 0] := .alloc (.new rfl) _
  have B2 : Blk ((w.alloc (.cells #[.int .u64 m, .int .u64 0] 180)).alloc (.cells #[.int .u64 0, .int .u64 0] 180)) (w.heap.size + 1) 180 #[.int .u64 0, .int .u64 0] := .new (by simp)
  have B1 : Blk (w.alloc (.cells #[.int .u64 m, .int .u64 0] 180)) w.heap.size 180 #[.int .u64 m, .int .u64 0] := .new rfl
  go_enter Try.func168, Try.ntmps168
  go_wp2_with (fail)
  refine (within_any _ _).mono ?_
  rintro e w1 ⟨rfl, x1⟩
  have e1 : (decide (0 ≤ (i : Int)) && decide ((i : Int) < 128)) = true := by simp; omega
  rw [e1]
  have c0 : w1.cell? ⟨w.heap.size, 0, none⟩ = some (.int .u64 m) := (B1'.ext x1).cell 0
  have c1 : w1.cell? ⟨w.heap.size, 1, none⟩ = some (.int .u64 0) := (B1'.ext x1).cell 1
  have f0 := (B1'.ext x1).free 0
  have r0 : w1.cell? ⟨w.heap.size + 1, 0, none⟩ = some (.int .u64 0) := (B2.ext x1).cell 0
  have r1 : w1.cell? ⟨w.heap.size + 1, 1, none⟩ = some (.int .u64 0) := (B2.ext x1).cell 1
  have g0 := (B2.ext x1).free 0
  have g1 := (B2.ext x1).free 1
  have X1 := Lib.hid (Ext.tr (a := w) (by (repeat (first | assumption | exact Ext.rf _ | apply Ext.drew | apply Ext.drewN | apply Ext.alloc))) x1)
  replace K := K.out
  replace sh := sh.out
  have wz : IntKind.i64.wrap 0 = 0 := by decide
  have q1 : (i : Int) / 64 = 0 := by omega
  have q2 : (i : Int).tmod 64 = (i : Int) := by rw [Int.tmod_eq_emod_of_nonneg (by omega)]; omega
  have bA := B1'.ext x1
  have bR := B2.ext x1
  clear x1 B1' B2 e1 c1 f0 r0 r1 g0 g1
  have bA2 := Lib.hid (bA.set 0 (.int .u64 z))
  have bR2 := Lib.hid (bR.far (p := ⟨w.heap.size, 0, none⟩) (by simp) (.int .u64 z))
  have X2 := Lib.hid (X1.out.setNew (p := ⟨w.heap.size, 0, none⟩) (Nat.le_refl _) (.int .u64 z))
  have fA : w1.frozen? ⟨w.heap.size, 0, none⟩ = false := bA.free 0
  go_upto_region 2 with (fail)
  refine wp_region_any (by kernel_rfl) ?_
  change wpAny _ _ _ _ _ _ _ (World.drew _)
  refine wpAny_T (i := 0) (op := Op.move (Operand.tmp 1)) (t := 3) (d := some 7) (v := ?_) rfl (by decide +kernel) (by decide +kernel) (by decide +kernel) (fun _ _ _ h => h) ?_ ?_
  case refine_2 => (intro _; unfold exec2; go_simp; try with_reducible rfl)
  try simp only [Act.put, List.setIfInBounds_toArray, List.set_cons_zero, List.set_cons_succ]
  refine wpAny_T (i := 1) (op := Op.binOp BinOp.quo 3 (Operand.tmp 7) (Operand.const (Value.int IntKind.i64 64)) 3) (t := 3) (d := some 8) (v := ?_) rfl (by decide +kernel) (by decide +kernel) (by decide +kernel) (fun _ _ _ h => h) ?_ ?_
  case refine_2 => (intro _; unfold exec2; go_simp; try with_reducible rfl)
  try simp only [Act.put, List.setIfInBounds_toArray, List.set_cons_zero, List.set_cons_succ]
  refine wpAny_T (i := 2) (op := Op.indexAddr 180 (Operand.tmp 2) (Operand.tmp 8)) (t := 0) (d := some 9) (v := ?_) rfl (by decide +kernel) (by decide +kernel) (by decide +kernel) (fun _ _ _ h => h) ?_ ?_
  case refine_2 => (intro _; unfold exec2; go_simp; try with_reducible rfl)
  try simp only [Act.put, List.setIfInBounds_toArray, List.set_cons_zero, List.set_cons_succ]
  refine wpAny_T (i := 4) (op := Op.move (Operand.tmp 1)) (t := 3) (d := some 11) (v := ?_) rfl (by decide +kernel) (by decide +kernel) (by decide +kernel) (fun _ _ _ h => h) ?_ ?_
  case refine_2 => (intro _; unfold exec2; go_simp; try with_reducible rfl)
  try simp only [Act.put, List.setIfInBounds_toArray, List.set_cons_zero, List.set_cons_succ]
  refine wpAny_T (i := 5) (op := Op.binOp BinOp.rem 3 (Operand.tmp 11) (Operand.const (Value.int IntKind.i64 64)) 3) (t := 3) (d := some 12) (v := ?_) rfl (by decide +kernel) (by decide +kernel) (by decide +kernel) (fun _ _ _ h => h) ?_ ?_
  case refine_2 => (intro _; unfold exec2; go_simp; try with_reducible rfl)
  try simp only [Act.put, List.setIfInBounds_toArray, List.set_cons_zero, List.set_cons_succ]
  refine wpAny_T (i := 6) (op := Op.binOp BinOp.shl 32 (Operand.const (Value.int IntKind.u64 1)) (Operand.tmp 12) 3) (t := 32) (d := some 13) (v := ?_) rfl (by decide +kernel) (by decide +kernel) (by decide +kernel) (fun _ _ _ h => h) ?_ ?_
  case refine_2 => (intro _; unfold exec2; go_simp; try with_reducible rfl)
  try simp only [Act.put, List.setIfInBounds_toArray, List.set_cons_zero, List.set_cons_succ]
  refine wpAny_next 3 (by decide +kernel) (op_ld (T := 32) (x := Operand.tmp 9) (t := 32) (d := some 10) rfl (.pointer (some ⟨w.heap.size, 0, none⟩)) (by kernel_rfl) (.int .u64 m) (by go_simp) ?_)
  try simp only [Act.put, List.setIfInBounds_toArray, List.set_cons_zero, List.set_cons_succ]
  refine wpAny_T (i := 7) (op := Op.binOp BinOp.or 32 (Operand.tmp 10) (Operand.tmp 13) 32) (t := 32) (d := some 14) (v := ?_) rfl (by decide +kernel) (by decide +kernel) (by decide +kernel) (fun _ _ _ h => h) ?_ ?_
  case refine_2 => (intro _; unfold exec2; go_simp; try with_reducible rfl)
  try simp only [Act.put, List.setIfInBounds_toArray, List.set_cons_zero, List.set_cons_succ]
  refine wpAny_T (i := 8) (op := Op.indexAddr 180 (Operand.tmp 2) (Operand.tmp 8)) (t := 0) (d := some 15) (v := ?_) rfl (by decide +kernel) (by decide +kernel) (by decide +kernel) (fun _ _ _ h => h) ?_ ?_
  case refine_2 => (intro _; unfold exec2; go_simp; try with_reducible rfl)
  try simp only [Act.put, List.setIfInBounds_toArray, List.set_cons_zero, List.set_cons_succ]
  refine wpAny_next 9 (by decide +kernel) (op_st rfl (.pointer (some ⟨w.heap.size, 0, none⟩)) (.int .u64 z) (by kernel_rfl) (by kernel_rfl) (by go_simp; rfl) ?_)
  refine wpAny_done (by kernel_rfl) ?_ _
  clear c0 fA bA bR X1 hm K sh
  generalize w1.setCell ⟨w.heap.size, 0, none⟩ (.int .u64 z) = w2 at *
  clear w1
  have c0 : w2.cell? ⟨w.heap.size, 0, none⟩ = some (.int .u64 z) := bA2.out.cell 0
  have c1 : w2.cell? ⟨w.heap.size, 1, none⟩ = some (.int .u64 0) := bA2.out.cell 1
  have r0 : w2.cell? ⟨w.heap.size + 1, 0, none⟩ = some (.int .u64 0) := bR2.out.cell 0
  have r1 : w2.cell? ⟨w.heap.size + 1, 1, none⟩ = some (.int .u64 0) := bR2.out.cell 1
  have g0 := bR2.out.free 0
  have g1 := bR2.out.free 1
  go_simp
  go_wp2_with (fail)
  refine bodyPost_ret (v := .agg #[.int .u64 z, .int .u64 0]) (by simp [results, Try.results168, go_sem, *]) rfl ⟨rfl, ?_⟩
  exact ((X2.out.setNew (p := ⟨w.heap.size + 1, 0, none⟩) (by simp) _).setNew (p := ⟨w.heap.size + 1, 1, none⟩) (by simp) _).drew
theorem withM_lt {m : Nat} (h : m < 18446744073709551616) {i : Nat} (hi : i < 64) : m ||| 2 ^ i < 18446744073709551616 := by
  have h1 : m < 2 ^ 64 := h
  have h2 : 2 ^ i < 2 ^ 64 := Nat.pow_lt_pow_right (by omega) hi
  exact Nat.or_lt_two_pow h1 h2
/-- nought is put to a set that has it not -/
theorem memsM_home {m : Nat} (h0 : 0 ∉ memsM m) : memsM (m ||| 2 ^ 0) = 0 :: memsM m := by
  have e : List.range 64 = 0 :: (List.range 63).map (· + 1) := List.range_succ_eq_map
  have hb : m.testBit 0 = false := by
    cases h : m.testBit 0 with
    | false => rfl
    | true => exact absurd (memsM_mem.2 ⟨by omega, h⟩) h0
  unfold memsM
  rw [e, List.filter_cons_of_pos (by simp), List.filter_cons_of_neg (by simp [hb])]
  congr 1
  refine List.filter_congr fun j hj => ?_
  obtain ⟨k, _, rfl⟩ := List.mem_map.1 hj
  rw [Nat.testBit_or, Nat.testBit_two_pow]
  simp
end Go.Proofs.Ytleckhbmciiooaa
