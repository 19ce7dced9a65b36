/-
  The document's great numbers with a sign: of small numbers, products.
-/
import Derived.Test.YtpfdkocelmmllaaBig1
namespace Go.Proofs.Ytpfdkocelmmllaa
open Go.RowKit Go.ChangeShapes Go.WideShapes Go.ChangeAt Go.Deep

def sgnC (m : Bool) (lo hi : Int) : Array Value := #[.bool m, .int .i64 lo, .int .i64 hi, .int .i64 0, .int .i64 0, .int .i64 0, .int .i64 0, .int .i64 0, .int .i64 0, .int .i64 0]
def sgnV (m : Bool) (lo hi : Int) : Value := .agg #[.bool m, .int .i64 lo, .int .i64 hi, .int .i64 0, .int .i64 0, .int .i64 0, .int .i64 0, .int .i64 0, .int .i64 0, .int .i64 0]
theorem setTen {w0 w : World} (x : Ext w0 w) {g : Nat} (hg : w0.heap.size ≤ g) (u0 u1 u2 u3 u4 u5 u6 u7 u8 u9 : Value) :
    Ext w0 ((((((((((w.setCell ⟨g, 0, none⟩ u0).setCell ⟨g, 1, none⟩ u1).setCell ⟨g, 2, none⟩ u2).setCell ⟨g, 3, none⟩ u3).setCell ⟨g, 4, none⟩ u4).setCell ⟨g, 5, none⟩ u5).setCell ⟨g, 6, none⟩ u6).setCell ⟨g, 7, none⟩ u7).setCell ⟨g, 8, none⟩ u8).setCell ⟨g, 9, none⟩ u9) :=
  (setNine x hg u0 u1 u2 u3 u4 u5 u6 u7 u8).setNew (p := ⟨g, 9, none⟩) hg u9
set_option maxRecDepth 100000 in
set_option maxHeartbeats 2000000 in
theorem num_any (a : Int) (w : World) (h0 : 0 ≤ a) (h1 : a ≤ 2147483647) : Calls Try.prog 152 #[.int .i64 a] w fun e w' => e = .returned (sgnV false a 0) ∧ Ext w w' := by
  have na : decide (a < 0) = false := by simpa using h0
  have B0 : Blk (w.alloc (.cells (sgnC false 0 0) 164)) w.heap.size 164 (sgnC false 0 0) := .new rfl
  have Y0 : Ext w (w.alloc (.cells (sgnC false 0 0) 164)) := (Ext.rf _).alloc _
  replace B0 := Lib.hid B0
  replace Y0 := Lib.hid Y0
  go_enter Try.func152, Try.ntmps152
  go_wp2_with (fail)
  refine (of_any a _ h0 h1).mono ?_
  rintro e w2 ⟨rfl, x2⟩
  have B2 := B0.out.ext x2
  have z0 : w2.cell? ⟨w.heap.size, 0, none⟩ = some (.bool false) := B2.cell 0
  have z1 : w2.cell? ⟨w.heap.size, 1, none⟩ = some (.int .i64 0) := B2.cell 1
  have z2 : w2.cell? ⟨w.heap.size, 2, none⟩ = some (.int .i64 0) := B2.cell 2
  have z3 : w2.cell? ⟨w.heap.size, 3, none⟩ = some (.int .i64 0) := B2.cell 3
  have z4 : w2.cell? ⟨w.heap.size, 4, none⟩ = some (.int .i64 0) := B2.cell 4
  have z5 : w2.cell? ⟨w.heap.size, 5, none⟩ = some (.int .i64 0) := B2.cell 5
  have z6 : w2.cell? ⟨w.heap.size, 6, none⟩ = some (.int .i64 0) := B2.cell 6
  have z7 : w2.cell? ⟨w.heap.size, 7, none⟩ = some (.int .i64 0) := B2.cell 7
  have z8 : w2.cell? ⟨w.heap.size, 8, none⟩ = some (.int .i64 0) := B2.cell 8
  have z9 : w2.cell? ⟨w.heap.size, 9, none⟩ = some (.int .i64 0) := B2.cell 9
  have f0 : w2.frozen? ⟨w.heap.size, 0, none⟩ = false := B2.free 0
  have f1 : w2.frozen? ⟨w.heap.size, 1, none⟩ = false := B2.free 1
  have f2 : w2.frozen? ⟨w.heap.size, 2, none⟩ = false := B2.free 2
  have f3 : w2.frozen? ⟨w.heap.size, 3, none⟩ = false := B2.free 3
  have f4 : w2.frozen? ⟨w.heap.size, 4, none⟩ = false := B2.free 4
  have f5 : w2.frozen? ⟨w.heap.size, 5, none⟩ = false := B2.free 5
  have f6 : w2.frozen? ⟨w.heap.size, 6, none⟩ = false := B2.free 6
  have f7 : w2.frozen? ⟨w.heap.size, 7, none⟩ = false := B2.free 7
  have f8 : w2.frozen? ⟨w.heap.size, 8, none⟩ = false := B2.free 8
  have f9 : w2.frozen? ⟨w.heap.size, 9, none⟩ = false := B2.free 9
  have Y2 := Lib.hid (setTen (Y0.out.tr x2) (g := w.heap.size) (Nat.le_refl _) (.bool false) (.int .i64 a) (.int .i64 0) (.int .i64 0) (.int .i64 0) (.int .i64 0) (.int .i64 0) (.int .i64 0) (.int .i64 0) (.int .i64 0))
  clear B2 x2
  unfold bigV
  go_wp2_with (fail)
  exact bodyPost_ret (v := sgnV false a 0) (by simp [results, Try.results152, go_sem, sgnV, *]) rfl ⟨rfl, Y2.out⟩
set_option maxRecDepth 100000 in
set_option maxHeartbeats 2000000 in
theorem neg_any (m : Bool) (lo hi : Int) (w : World) : Calls Try.prog 156 #[sgnV m lo hi] w fun e w' => e = .returned (sgnV (!m) lo hi) ∧ Ext w w' := by
  have B1 : Blk ((w.alloc (.cells (sgnC m lo hi) 164)).alloc (.cells (sgnC false 0 0) 164)) w.heap.size 164 (sgnC m lo hi) := .alloc (.new rfl) _
  have Y0 : Ext w ((w.alloc (.cells (sgnC m lo hi) 164)).alloc (.cells (sgnC false 0 0) 164)) := ((Ext.rf _).alloc _).alloc _
  replace B1 := Lib.hid B1
  have Y2 := Lib.hid (setTen Y0 (g := w.heap.size + 1) (by omega) (.bool (!m)) (.int .i64 lo) (.int .i64 hi) (.int .i64 0) (.int .i64 0) (.int .i64 0) (.int .i64 0) (.int .i64 0) (.int .i64 0) (.int .i64 0))
  clear Y0
  unfold sgnV
  go_enter Try.func156, Try.ntmps156
  go_wp2_with (fail)
  exact bodyPost_ret (v := sgnV (!m) lo hi) (by simp [results, Try.results156, go_sem, sgnV]) rfl ⟨rfl, ((Ext.rf _).alloc _).alloc _⟩
section
variable {W : World} {g : Nat} {m : Bool} {lo hi : Int}
set_option maxRecDepth 100000 in
theorem load_size (h : Blk W g 164 (sgnC m lo hi)) : (Instr.loadAt 162 (.pointer (some ⟨g, 1, none⟩))).run Try.prog W = .ok (bigV lo hi) W := by
  have c0 : W.cell? ⟨g, 0, none⟩ = some (.bool m) := h.cell 0
  have c1 : W.cell? ⟨g, 1, none⟩ = some (.int .i64 lo) := h.cell 1
  have c2 : W.cell? ⟨g, 2, none⟩ = some (.int .i64 hi) := h.cell 2
  have c3 : W.cell? ⟨g, 3, none⟩ = some (.int .i64 0) := h.cell 3
  have c4 : W.cell? ⟨g, 4, none⟩ = some (.int .i64 0) := h.cell 4
  have c5 : W.cell? ⟨g, 5, none⟩ = some (.int .i64 0) := h.cell 5
  have c6 : W.cell? ⟨g, 6, none⟩ = some (.int .i64 0) := h.cell 6
  have c7 : W.cell? ⟨g, 7, none⟩ = some (.int .i64 0) := h.cell 7
  have c8 : W.cell? ⟨g, 8, none⟩ = some (.int .i64 0) := h.cell 8
  have c9 : W.cell? ⟨g, 9, none⟩ = some (.int .i64 0) := h.cell 9
  unfold bigV
  clear h
  go_simp
set_option maxRecDepth 100000 in
theorem load_sgn (h : Blk W g 164 (sgnC m lo hi)) : (Instr.loadAt 164 (.pointer (some ⟨g, 0, none⟩))).run Try.prog W = .ok (sgnV m lo hi) W := by
  have c0 : W.cell? ⟨g, 0, none⟩ = some (.bool m) := h.cell 0
  have c1 : W.cell? ⟨g, 1, none⟩ = some (.int .i64 lo) := h.cell 1
  have c2 : W.cell? ⟨g, 2, none⟩ = some (.int .i64 hi) := h.cell 2
  have c3 : W.cell? ⟨g, 3, none⟩ = some (.int .i64 0) := h.cell 3
  have c4 : W.cell? ⟨g, 4, none⟩ = some (.int .i64 0) := h.cell 4
  have c5 : W.cell? ⟨g, 5, none⟩ = some (.int .i64 0) := h.cell 5
  have c6 : W.cell? ⟨g, 6, none⟩ = some (.int .i64 0) := h.cell 6
  have c7 : W.cell? ⟨g, 7, none⟩ = some (.int .i64 0) := h.cell 7
  have c8 : W.cell? ⟨g, 8, none⟩ = some (.int .i64 0) := h.cell 8
  have c9 : W.cell? ⟨g, 9, none⟩ = some (.int .i64 0) := h.cell 9
  unfold sgnV
  clear h
  go_simp
theorem load_minus (h : Blk W g 164 (sgnC m lo hi)) : (Instr.loadAt 4 (.pointer (some ⟨g, 0, none⟩))).run Try.prog W = .ok (.bool m) W := by
  have c0 : W.cell? ⟨g, 0, none⟩ = some (.bool m) := h.cell 0
  clear h
  go_simp
/-- ten cells stored -/
def tenW (W : World) (g : Nat) (m : Bool) (lo hi : Int) : World := ((((((((((W.setCell ⟨g, 0, none⟩ (.bool m)).setCell ⟨g, 1, none⟩ (.int .i64 lo)).setCell ⟨g, 2, none⟩ (.int .i64 hi)).setCell ⟨g, 3, none⟩ (.int .i64 0)).setCell ⟨g, 4, none⟩ (.int .i64 0)).setCell ⟨g, 5, none⟩ (.int .i64 0)).setCell ⟨g, 6, none⟩ (.int .i64 0)).setCell ⟨g, 7, none⟩ (.int .i64 0)).setCell ⟨g, 8, none⟩ (.int .i64 0)).setCell ⟨g, 9, none⟩ (.int .i64 0))
set_option maxRecDepth 100000 in
set_option maxHeartbeats 1000000 in
theorem store_sgn {m' : Bool} {lo' hi' : Int} (h : Blk W g 164 (sgnC m' lo' hi')) : (Instr.storeAt 164 (.pointer (some ⟨g, 0, none⟩)) (sgnV m lo hi)).run Try.prog W = .ok () (tenW W g m lo hi) := by
  have c0 : W.cell? ⟨g, 0, none⟩ = some (.bool m') := h.cell 0
  have c1 : W.cell? ⟨g, 1, none⟩ = some (.int .i64 lo') := h.cell 1
  have c2 : W.cell? ⟨g, 2, none⟩ = some (.int .i64 hi') := h.cell 2
  have c3 : W.cell? ⟨g, 3, none⟩ = some (.int .i64 0) := h.cell 3
  have c4 : W.cell? ⟨g, 4, none⟩ = some (.int .i64 0) := h.cell 4
  have c5 : W.cell? ⟨g, 5, none⟩ = some (.int .i64 0) := h.cell 5
  have c6 : W.cell? ⟨g, 6, none⟩ = some (.int .i64 0) := h.cell 6
  have c7 : W.cell? ⟨g, 7, none⟩ = some (.int .i64 0) := h.cell 7
  have c8 : W.cell? ⟨g, 8, none⟩ = some (.int .i64 0) := h.cell 8
  have c9 : W.cell? ⟨g, 9, none⟩ = some (.int .i64 0) := h.cell 9
  have f0 : W.frozen? ⟨g, 0, none⟩ = false := h.free 0
  have f1 : W.frozen? ⟨g, 1, none⟩ = false := h.free 1
  have f2 : W.frozen? ⟨g, 2, none⟩ = false := h.free 2
  have f3 : W.frozen? ⟨g, 3, none⟩ = false := h.free 3
  have f4 : W.frozen? ⟨g, 4, none⟩ = false := h.free 4
  have f5 : W.frozen? ⟨g, 5, none⟩ = false := h.free 5
  have f6 : W.frozen? ⟨g, 6, none⟩ = false := h.free 6
  have f7 : W.frozen? ⟨g, 7, none⟩ = false := h.free 7
  have f8 : W.frozen? ⟨g, 8, none⟩ = false := h.free 8
  have f9 : W.frozen? ⟨g, 9, none⟩ = false := h.free 9
  unfold sgnV tenW
  clear h
  go_simp
theorem tenW_blk {m' : Bool} {lo' hi' : Int} (h : Blk W g 164 (sgnC m' lo' hi')) : Blk (tenW W g m lo hi) g 164 (sgnC m lo hi) := by
  have h0 := h.set 0 (.bool m)
  have h1 := h0.set 1 (.int .i64 lo)
  have h2 := h1.set 2 (.int .i64 hi)
  have h3 := h2.set 3 (.int .i64 0)
  have h4 := h3.set 4 (.int .i64 0)
  have h5 := h4.set 5 (.int .i64 0)
  have h6 := h5.set 6 (.int .i64 0)
  have h7 := h6.set 7 (.int .i64 0)
  have h8 := h7.set 8 (.int .i64 0)
  have h9 := h8.set 9 (.int .i64 0)
  have e : ((((((((((sgnC m' lo' hi').setIfInBounds 0 (.bool m)).setIfInBounds 1 (.int .i64 lo)).setIfInBounds 2 (.int .i64 hi)).setIfInBounds 3 (.int .i64 0)).setIfInBounds 4 (.int .i64 0)).setIfInBounds 5 (.int .i64 0)).setIfInBounds 6 (.int .i64 0)).setIfInBounds 7 (.int .i64 0)).setIfInBounds 8 (.int .i64 0)).setIfInBounds 9 (.int .i64 0) = sgnC m lo hi := by simp [sgnC]
  rw [e] at h9
  exact h9
theorem tenW_ext {w0 : World} (x : Ext w0 W) (hg : w0.heap.size ≤ g) : Ext w0 (tenW W g m lo hi) := setTen x hg _ _ _ _ _ _ _ _ _ _
end
set_option maxRecDepth 100000 in
set_option maxHeartbeats 2000000 in
theorem mul_any (a b p : Int) (w : World) (ha : 0 ≤ a ∧ a ≤ 2147483647) (hb : 0 ≤ b ∧ b ≤ 2147483647) (hp : p = a * b) :
    Calls Try.prog 151 #[sgnV false a 0, sgnV false b 0] w fun e w' => e = .returned (sgnV false (lowP p) (highP p)) ∧ Ext w w' := by
  have B1 : Blk (((w.alloc (.cells (sgnC false a 0) 164)).alloc (.cells (sgnC false b 0) 164)).alloc (.cells (sgnC false 0 0) 164)) w.heap.size 164 (sgnC false a 0) := .alloc (.alloc (.new rfl) _) _
  have B2 : Blk (((w.alloc (.cells (sgnC false a 0) 164)).alloc (.cells (sgnC false b 0) 164)).alloc (.cells (sgnC false 0 0) 164)) (w.heap.size + 1) 164 (sgnC false b 0) := .alloc (.new (by simp)) _
  have B3 : Blk (((w.alloc (.cells (sgnC false a 0) 164)).alloc (.cells (sgnC false b 0) 164)).alloc (.cells (sgnC false 0 0) 164)) (w.heap.size + 1 + 1) 164 (sgnC false 0 0) := .new (by simp)
  have Y0 : Ext w (((w.alloc (.cells (sgnC false a 0) 164)).alloc (.cells (sgnC false b 0) 164)).alloc (.cells (sgnC false 0 0) 164)) := (((Ext.rf _).alloc _).alloc _).alloc _
  have hgn : (((w.alloc (.cells (sgnC false a 0) 164)).alloc (.cells (sgnC false b 0) 164)).alloc (.cells (sgnC false 0 0) 164)) = (((w.alloc (.cells #[.bool false, .int .i64 a, .int .i64 0, .int .i64 0, .int .i64 0, .int .i64 0, .int .i64 0, .int .i64 0, .int .i64 0, .int .i64 0] 164)).alloc (.cells #[.bool false, .int .i64 b, .int .i64 0, .int .i64 0, .int .i64 0, .int .i64 0, .int .i64 0, .int .i64 0, .int .i64 0, .int .i64 0] 164)).alloc (.cells #[.bool false, .int .i64 0, .int .i64 0, .int .i64 0, .int .i64 0, .int .i64 0, .int .i64 0, .int .i64 0, .int .i64 0, .int .i64 0] 164)) := rfl
  rw [hgn] at B1 B2 B3 Y0
  clear hgn
  replace B1 := Lib.hid B1
  replace B2 := Lib.hid B2
  replace B3 := Lib.hid B3
  replace Y0 := Lib.hid Y0
  replace hp := Lib.hid hp
  unfold sgnV
  go_enter Try.func151, Try.ntmps151
  go_wp2_with (fail)
  generalize (((w.alloc (.cells #[.bool false, .int .i64 a, .int .i64 0, .int .i64 0, .int .i64 0, .int .i64 0, .int .i64 0, .int .i64 0, .int .i64 0, .int .i64 0] 164)).alloc (.cells #[.bool false, .int .i64 b, .int .i64 0, .int .i64 0, .int .i64 0, .int .i64 0, .int .i64 0, .int .i64 0, .int .i64 0, .int .i64 0] 164)).alloc (.cells #[.bool false, .int .i64 0, .int .i64 0, .int .i64 0, .int .i64 0, .int .i64 0, .int .i64 0, .int .i64 0, .int .i64 0, .int .i64 0] 164)) = wr at *
  refine wp_region_any (by kernel_rfl) ?_
  change wpAny _ _ _ _ _ _ _ (World.drew _)
  refine wpAny_T (i := 0) (op := Op.fieldAddr 164 (Operand.tmp 2) 0) (t := 0) (d := some 5) (v := ?_) rfl (by decide +kernel) (by decide +kernel) (by decide +kernel) (fun _ _ _ h => h) ?_ ?_
  case refine_2 => (intro _; unfold exec2; go_simp; try with_reducible rfl)
  try simp only [Act.put, List.setIfInBounds_toArray, List.set_cons_zero, List.set_cons_succ]
  refine wpAny_T (i := 2) (op := Op.fieldAddr 164 (Operand.tmp 3) 0) (t := 0) (d := some 7) (v := ?_) rfl (by decide +kernel) (by decide +kernel) (by decide +kernel) (fun _ _ _ h => h) ?_ ?_
  case refine_2 => (intro _; unfold exec2; go_simp; try with_reducible rfl)
  try simp only [Act.put, List.setIfInBounds_toArray, List.set_cons_zero, List.set_cons_succ]
  refine wpAny_T (i := 5) (op := Op.fieldAddr 164 (Operand.tmp 2) 1) (t := 0) (d := some 10) (v := ?_) rfl (by decide +kernel) (by decide +kernel) (by decide +kernel) (fun _ _ _ h => h) ?_ ?_
  case refine_2 => (intro _; unfold exec2; go_simp; try with_reducible rfl)
  try simp only [Act.put, List.setIfInBounds_toArray, List.set_cons_zero, List.set_cons_succ]
  refine wpAny_T (i := 7) (op := Op.fieldAddr 164 (Operand.tmp 3) 1) (t := 0) (d := some 12) (v := ?_) rfl (by decide +kernel) (by decide +kernel) (by decide +kernel) (fun _ _ _ h => h) ?_ ?_
  case refine_2 => (intro _; unfold exec2; go_simp; try with_reducible rfl)
  try simp only [Act.put, List.setIfInBounds_toArray, List.set_cons_zero, List.set_cons_succ]
  refine wpAny_core2 (n := 2) [(1, some 6), (3, some 8), (4, some 9), (6, some 11), (8, some 13), (9, some 14)] (Ext wr)
    (VF (fun | 1 => some (.bool false) | 3 => some (.bool false) | 4 => some (.bool false) | 6 => some (bigV a 0) | 8 => some (bigV b 0) | 9 => some (bigV (lowP p) (highP p)) | _ => none) (fun _ _ _ => True))
    Ext #[true, true, true, true, true, true, true, true, true, true, false, false] (by kernel_rfl) (VF.stab ?_) ?_ ?_ ((Ext.rf _).drew)
  · intro j v W W' _ h _
    exact h
  · intro pq hpm u W hRW hD K hK
    have b1 := B1.out.ext hRW
    have b2 := B2.out.ext hRW
    simp only [List.mem_cons, List.not_mem_nil, or_false] at hpm
    rcases hpm with rfl | rfl | rfl | rfl | rfl | rfl
    · exact op_ld (T := 4) rfl (.pointer (some ⟨w.heap.size, 0, none⟩)) (by kernel_rfl) (.bool false) (load_minus b1) (hK _ _ (VF.mk rfl) hRW (Ext.rf _))
    · exact op_ld (T := 4) rfl (.pointer (some ⟨w.heap.size + 1, 0, none⟩)) (by kernel_rfl) (.bool false) (load_minus b2) (hK _ _ (VF.mk rfl) hRW (Ext.rf _))
    · have h1 := (hD 1 (depIn (by kernel_rfl))).k rfl
      have h3 := (hD 3 (depIn (by kernel_rfl))).k rfl
      exact op_run rfl (.bool false) (by simp only [putAll, h1, h3]; unfold exec2; go_simp) (hK _ _ (VF.mk rfl) hRW (Ext.rf _))
    · exact op_ld (T := 162) rfl (.pointer (some ⟨w.heap.size, 1, none⟩)) (by kernel_rfl) (bigV a 0) (load_size b1) (hK _ _ (VF.mk rfl) hRW (Ext.rf _))
    · exact op_ld (T := 162) rfl (.pointer (some ⟨w.heap.size + 1, 1, none⟩)) (by kernel_rfl) (bigV b 0) (load_size b2) (hK _ _ (VF.mk rfl) hRW (Ext.rf _))
    · have h6 := (hD 6 (depIn (by kernel_rfl))).k rfl
      have h8 := (hD 8 (depIn (by kernel_rfl))).k rfl
      refine op_call rfl #[bigV a 0, bigV b 0] (by go_simp) (by simp only [putAll, h6, h8]; kernel_rfl) _ (times_any a b p W ha hb hp.out) ?_
      rintro e w3 ⟨rfl, x3⟩
      exact ⟨_, rfl, hK _ _ (VF.mk rfl) (hRW.tr x3) x3⟩
  · intro u w3 hRW hV
    have h1 := (hV (1, some 6) (by simp)).k rfl
    have h3 := (hV (3, some 8) (by simp)).k rfl
    have h4 := (hV (4, some 9) (by simp)).k rfl
    have h6 := (hV (6, some 11) (by simp)).k rfl
    have h8 := (hV (8, some 13) (by simp)).k rfl
    have h9 := (hV (9, some 14) (by simp)).k rfl
    simp only [putAll, h1, h3, h4, h6, h8, h9]
    clear hV h1 h3 h4 h6 h8 h9
    have b3 := B3.out.ext hRW
    have b4 : Blk (tenW w3 (w.heap.size + 1 + 1) false (lowP p) (highP p)) (w.heap.size + 1 + 1) 164 (sgnC false (lowP p) (highP p)) := tenW_blk b3
    have Y4 := Lib.hid (tenW_ext (m := false) (lo := lowP p) (hi := highP p) (g := w.heap.size + 1 + 1) (Ext.tr Y0.out hRW) (by omega))
    unfold bigV
    try simp only [Act.put, List.setIfInBounds_toArray, List.set_cons_zero, List.set_cons_succ]
    refine wpAny_T (i := 10) (op := Op.build 164 #[(0, Operand.tmp 9), (1, Operand.tmp 14)]) (t := 164) (d := some 15) (v := ?_) rfl (by decide +kernel) (by decide +kernel) (by decide +kernel) (fun _ _ _ h => h) ?_ ?_
    case refine_2 => (intro _; unfold exec2; go_simp; try with_reducible rfl)
    try simp only [Act.put, List.setIfInBounds_toArray, List.set_cons_zero, List.set_cons_succ]
    refine wpAny_next 11 (by kernel_rfl) (op_st rfl (.pointer (some ⟨w.heap.size + 1 + 1, 0, none⟩)) (sgnV false (lowP p) (highP p)) (by kernel_rfl) (by kernel_rfl) (store_sgn b3) ?_)
    refine wpAny_done (by kernel_rfl) ?_ _
    clear b3 hRW
    generalize tenW w3 (w.heap.size + 1 + 1) false (lowP p) (highP p) = w5 at *
    have c0 : w5.cell? ⟨w.heap.size + 1 + 1, 0, none⟩ = some (.bool false) := b4.cell 0
    have c1 : w5.cell? ⟨w.heap.size + 1 + 1, 1, none⟩ = some (.int .i64 (lowP p)) := b4.cell 1
    have c2 : w5.cell? ⟨w.heap.size + 1 + 1, 2, none⟩ = some (.int .i64 (highP p)) := b4.cell 2
    have c3 : w5.cell? ⟨w.heap.size + 1 + 1, 3, none⟩ = some (.int .i64 0) := b4.cell 3
    have c4 : w5.cell? ⟨w.heap.size + 1 + 1, 4, none⟩ = some (.int .i64 0) := b4.cell 4
    have c5 : w5.cell? ⟨w.heap.size + 1 + 1, 5, none⟩ = some (.int .i64 0) := b4.cell 5
    have c6 : w5.cell? ⟨w.heap.size + 1 + 1, 6, none⟩ = some (.int .i64 0) := b4.cell 6
    have c7 : w5.cell? ⟨w.heap.size + 1 + 1, 7, none⟩ = some (.int .i64 0) := b4.cell 7
    have c8 : w5.cell? ⟨w.heap.size + 1 + 1, 8, none⟩ = some (.int .i64 0) := b4.cell 8
    have c9 : w5.cell? ⟨w.heap.size + 1 + 1, 9, none⟩ = some (.int .i64 0) := b4.cell 9
    clear b4
    go_simp
    go_wp2_with (fail)
    exact bodyPost_ret (v := sgnV false (lowP p) (highP p)) (by simp [results, Try.results151, go_sem, sgnV, *]) rfl ⟨rfl, Y4.out⟩
end Go.Proofs.Ytpfdkocelmmllaa
