/-
  The document's great numbers with a sign: a sum of two of other signs.
-/
import Derived.Test.YtpfdkocelmmllaaBigE
namespace Go.Proofs.Ytpfdkocelmmllaa
open Go.RowKit Go.ChangeShapes Go.WideShapes Go.ChangeAt Go.Deep

def diffV (p q : Int) : Value := if p < q then sgnV true (lowP (q - p)) (highP (q - p)) else sgnV false (lowP (p - q)) (highP (p - q))
set_option maxRecDepth 100000 in
set_option maxHeartbeats 4000000 in
theorem add_any (p q : Int) (w : World) (hp : 0 ≤ p ∧ p ≤ 4611686014132420609) (hq : 0 ≤ q ∧ q ≤ 4611686014132420609) :
    Calls Try.prog 155 #[sgnV false (lowP p) (highP p), sgnV true (lowP q) (highP q)] w fun e w' => e = .returned (diffV p q) ∧ Ext w w' := by
  have B1 : Blk (((w.alloc (.cells (sgnC false (lowP p) (highP p)) 164)).alloc (.cells (sgnC true (lowP q) (highP q)) 164)).alloc (.cells (sgnC false 0 0) 164)) w.heap.size 164 (sgnC false (lowP p) (highP p)) := .alloc (.alloc (.new rfl) _) _
  have B2 : Blk (((w.alloc (.cells (sgnC false (lowP p) (highP p)) 164)).alloc (.cells (sgnC true (lowP q) (highP q)) 164)).alloc (.cells (sgnC false 0 0) 164)) (w.heap.size + 1) 164 (sgnC true (lowP q) (highP q)) := .alloc (.new (by simp)) _
  have B3 : Blk (((w.alloc (.cells (sgnC false (lowP p) (highP p)) 164)).alloc (.cells (sgnC true (lowP q) (highP q)) 164)).alloc (.cells (sgnC false 0 0) 164)) (w.heap.size + 1 + 1) 164 (sgnC false 0 0) := .new (by simp)
  have Y0 : Ext w (((w.alloc (.cells (sgnC false (lowP p) (highP p)) 164)).alloc (.cells (sgnC true (lowP q) (highP q)) 164)).alloc (.cells (sgnC false 0 0) 164)) := (((Ext.rf _).alloc _).alloc _).alloc _
  have LE := fun W => less_any p q W
  obtain ⟨wr, hwr⟩ : ∃ wr, wr = (((w.alloc (.cells (sgnC false (lowP p) (highP p)) 164)).alloc (.cells (sgnC true (lowP q) (highP q)) 164)).alloc (.cells (sgnC false 0 0) 164)) := ⟨_, rfl⟩
  have hwl : (((w.alloc (.cells #[.bool false, .int .i64 (lowP p), .int .i64 (highP p), .int .i64 0, .int .i64 0, .int .i64 0, .int .i64 0, .int .i64 0, .int .i64 0, .int .i64 0] 164)).alloc (.cells #[.bool true, .int .i64 (lowP q), .int .i64 (highP q), .int .i64 0, .int .i64 0, .int .i64 0, .int .i64 0, .int .i64 0, .int .i64 0, .int .i64 0] 164)).alloc (.cells #[.bool false, .int .i64 0, .int .i64 0, .int .i64 0, .int .i64 0, .int .i64 0, .int .i64 0, .int .i64 0, .int .i64 0, .int .i64 0] 164)) = wr := hwr.symm
  rw [← hwr] at B1 B2 B3 Y0
  clear hwr
  replace B1 := Lib.hid B1
  replace B2 := Lib.hid B2
  replace B3 := Lib.hid B3
  replace Y0 := Lib.hid Y0
  replace LE := Lib.hid LE
  replace hwl := Lib.hid hwl
  unfold sgnV
  go_enter Try.func155, Try.ntmps155
  go_wp2_with (fail)
  rw [hwl.out]
  refine (LE.out _).mono ?_
  rintro e w2 ⟨rfl, x2⟩
  replace x2 := Lib.hid x2
  by_cases hlt : p < q
  · have hb : decide (p < q) = true := by simpa using hlt
    have MIN := Lib.hid (fun W => minus_any q p W hp.1 (by omega) hq.2)
    replace hlt := Lib.hid hlt
    clear LE
    go_wp2_with (fail)
    refine wp_region_any (by kernel_rfl) ?_
    change wpAny _ _ _ _ _ _ _ (World.drew _)
    refine wpAny_T (i := 0) (op := Op.fieldAddr 164 (Operand.tmp 3) 0) (t := 0) (d := some 23) (v := ?_) rfl (by decide +kernel) (by decide +kernel) (by decide +kernel) (fun _ _ _ h => h) ?_ ?_
    case refine_2 => (intro _; unfold exec2; go_simp; try with_reducible rfl)
    try simp only [Act.put, List.setIfInBounds_toArray, List.set_cons_zero, List.set_cons_succ]
    refine wpAny_T (i := 2) (op := Op.fieldAddr 164 (Operand.tmp 3) 1) (t := 0) (d := some 25) (v := ?_) rfl (by decide +kernel) (by decide +kernel) (by decide +kernel) (fun _ _ _ h => h) ?_ ?_
    case refine_2 => (intro _; unfold exec2; go_simp; try with_reducible rfl)
    try simp only [Act.put, List.setIfInBounds_toArray, List.set_cons_zero, List.set_cons_succ]
    refine wpAny_T (i := 4) (op := Op.fieldAddr 164 (Operand.tmp 2) 1) (t := 0) (d := some 27) (v := ?_) rfl (by decide +kernel) (by decide +kernel) (by decide +kernel) (fun _ _ _ h => h) ?_ ?_
    case refine_2 => (intro _; unfold exec2; go_simp; try with_reducible rfl)
    try simp only [Act.put, List.setIfInBounds_toArray, List.set_cons_zero, List.set_cons_succ]
    refine wpAny_core2 (n := 2) [(1, some 24), (3, some 26), (5, some 28), (6, some 29)] (Ext w2)
      (VF (fun | 1 => some (.bool true) | 3 => some (bigV (lowP q) (highP q)) | 5 => some (bigV (lowP p) (highP p)) | 6 => some (bigV (lowP (q - p)) (highP (q - p))) | _ => none) (fun _ _ _ => True))
      Ext #[true, true, true, true, true, true, true, false, false] (by kernel_rfl) (VF.stab ?_) ?_ ?_ ((Ext.rf _).drew)
    · intro j v W W' _ h _
      exact h
    · intro pq hpm u W hRW hD K hK
      have b1 := B1.out.ext (x2.out.tr hRW)
      have b2 := B2.out.ext (x2.out.tr hRW)
      simp only [List.mem_cons, List.not_mem_nil, or_false] at hpm
      rcases hpm with rfl | rfl | rfl | rfl
      · exact op_ld (T := 4) rfl (.pointer (some ⟨w.heap.size + 1, 0, none⟩)) (by kernel_rfl) (.bool true) (load_minus b2) (hK _ _ (VF.mk rfl) hRW (Ext.rf _))
      · exact op_ld (T := 162) rfl (.pointer (some ⟨w.heap.size + 1, 1, none⟩)) (by kernel_rfl) (bigV (lowP q) (highP q)) (load_size b2) (hK _ _ (VF.mk rfl) hRW (Ext.rf _))
      · exact op_ld (T := 162) rfl (.pointer (some ⟨w.heap.size, 1, none⟩)) (by kernel_rfl) (bigV (lowP p) (highP p)) (load_size b1) (hK _ _ (VF.mk rfl) hRW (Ext.rf _))
      · have h3 := (hD 3 (depIn (by kernel_rfl))).k rfl
        have h5 := (hD 5 (depIn (by kernel_rfl))).k rfl
        refine op_call rfl #[bigV (lowP q) (highP q), bigV (lowP p) (highP p)] (by go_simp) (by simp only [putAll, h3, h5]; kernel_rfl) _ (MIN.out W) ?_
        rintro e w3 ⟨rfl, x3⟩
        exact ⟨_, rfl, hK _ _ (VF.mk rfl) (hRW.tr x3) x3⟩
    · intro u w3 hRW hV
      have h1 := (hV (1, some 24) (by simp)).k rfl
      have h3 := (hV (3, some 26) (by simp)).k rfl
      have h5 := (hV (5, some 28) (by simp)).k rfl
      have h6 := (hV (6, some 29) (by simp)).k rfl
      simp only [putAll, h1, h3, h5, h6]
      clear hV h1 h3 h5 h6
      have b3 := B3.out.ext (x2.out.tr hRW)
      have b4 : Blk (tenW w3 (w.heap.size + 1 + 1) true (lowP (q - p)) (highP (q - p))) (w.heap.size + 1 + 1) 164 (sgnC true (lowP (q - p)) (highP (q - p))) := tenW_blk b3
      have Y4 := Lib.hid (tenW_ext (m := true) (lo := (lowP (q - p))) (hi := (highP (q - p))) (g := w.heap.size + 1 + 1) (Ext.tr (Ext.tr Y0.out x2.out) hRW) (by omega))
      unfold bigV
      try simp only [Act.put, List.setIfInBounds_toArray, List.set_cons_zero, List.set_cons_succ]
      refine wpAny_T (i := 7) (op := Op.build 164 #[(0, Operand.tmp 24), (1, Operand.tmp 29)]) (t := 164) (d := some 30) (v := ?_) rfl (by decide +kernel) (by decide +kernel) (by decide +kernel) (fun _ _ _ h => h) ?_ ?_
      case refine_2 => (intro _; unfold exec2; go_simp; try with_reducible rfl)
      try simp only [Act.put, List.setIfInBounds_toArray, List.set_cons_zero, List.set_cons_succ]
      refine wpAny_next 8 (by kernel_rfl) (op_st rfl (.pointer (some ⟨w.heap.size + 1 + 1, 0, none⟩)) (sgnV true (lowP (q - p)) (highP (q - p))) (by kernel_rfl) (by kernel_rfl) (store_sgn b3) ?_)
      refine wpAny_done (by kernel_rfl) ?_ _
      clear b3 hRW
      generalize tenW w3 (w.heap.size + 1 + 1) true (lowP (q - p)) (highP (q - p)) = w5 at *
      have c0 : w5.cell? ⟨w.heap.size + 1 + 1, 0, none⟩ = some (.bool true) := b4.cell 0
      have c1 : w5.cell? ⟨w.heap.size + 1 + 1, 1, none⟩ = some (.int .i64 (lowP (q - p))) := b4.cell 1
      have c2 : w5.cell? ⟨w.heap.size + 1 + 1, 2, none⟩ = some (.int .i64 (highP (q - p))) := b4.cell 2
      have c3 : w5.cell? ⟨w.heap.size + 1 + 1, 3, none⟩ = some (.int .i64 0) := b4.cell 3
      have c4 : w5.cell? ⟨w.heap.size + 1 + 1, 4, none⟩ = some (.int .i64 0) := b4.cell 4
      have c5 : w5.cell? ⟨w.heap.size + 1 + 1, 5, none⟩ = some (.int .i64 0) := b4.cell 5
      have c6 : w5.cell? ⟨w.heap.size + 1 + 1, 6, none⟩ = some (.int .i64 0) := b4.cell 6
      have c7 : w5.cell? ⟨w.heap.size + 1 + 1, 7, none⟩ = some (.int .i64 0) := b4.cell 7
      have c8 : w5.cell? ⟨w.heap.size + 1 + 1, 8, none⟩ = some (.int .i64 0) := b4.cell 8
      have c9 : w5.cell? ⟨w.heap.size + 1 + 1, 9, none⟩ = some (.int .i64 0) := b4.cell 9
      clear b4
      go_simp
      go_wp2_with (fail)
      exact bodyPost_ret (v := sgnV true (lowP (q - p)) (highP (q - p))) (by simp [results, Try.results155, go_sem, sgnV, *]) rfl ⟨by rw [diffV, if_pos hlt.out], Y4.out⟩
  · have hb : decide (p < q) = false := by simpa using hlt
    have MIN := Lib.hid (fun W => minus_any p q W hq.1 (by omega) hp.2)
    replace hlt := Lib.hid hlt
    clear LE
    go_wp2_with (fail)
    refine wp_region_any (by kernel_rfl) ?_
    change wpAny _ _ _ _ _ _ _ (World.drew _)
    refine wpAny_T (i := 0) (op := Op.fieldAddr 164 (Operand.tmp 2) 0) (t := 0) (d := some 31) (v := ?_) rfl (by decide +kernel) (by decide +kernel) (by decide +kernel) (fun _ _ _ h => h) ?_ ?_
    case refine_2 => (intro _; unfold exec2; go_simp; try with_reducible rfl)
    try simp only [Act.put, List.setIfInBounds_toArray, List.set_cons_zero, List.set_cons_succ]
    refine wpAny_T (i := 2) (op := Op.fieldAddr 164 (Operand.tmp 2) 1) (t := 0) (d := some 33) (v := ?_) rfl (by decide +kernel) (by decide +kernel) (by decide +kernel) (fun _ _ _ h => h) ?_ ?_
    case refine_2 => (intro _; unfold exec2; go_simp; try with_reducible rfl)
    try simp only [Act.put, List.setIfInBounds_toArray, List.set_cons_zero, List.set_cons_succ]
    refine wpAny_T (i := 4) (op := Op.fieldAddr 164 (Operand.tmp 3) 1) (t := 0) (d := some 35) (v := ?_) rfl (by decide +kernel) (by decide +kernel) (by decide +kernel) (fun _ _ _ h => h) ?_ ?_
    case refine_2 => (intro _; unfold exec2; go_simp; try with_reducible rfl)
    try simp only [Act.put, List.setIfInBounds_toArray, List.set_cons_zero, List.set_cons_succ]
    refine wpAny_core2 (n := 2) [(1, some 32), (3, some 34), (5, some 36), (6, some 37)] (Ext w2)
      (VF (fun | 1 => some (.bool false) | 3 => some (bigV (lowP p) (highP p)) | 5 => some (bigV (lowP q) (highP q)) | 6 => some (bigV (lowP (p - q)) (highP (p - q))) | _ => none) (fun _ _ _ => True))
      Ext #[true, true, true, true, true, true, true, false, false] (by kernel_rfl) (VF.stab ?_) ?_ ?_ ((Ext.rf _).drew)
    · intro j v W W' _ h _
      exact h
    · intro pq hpm u W hRW hD K hK
      have b1 := B1.out.ext (x2.out.tr hRW)
      have b2 := B2.out.ext (x2.out.tr hRW)
      simp only [List.mem_cons, List.not_mem_nil, or_false] at hpm
      rcases hpm with rfl | rfl | rfl | rfl
      · exact op_ld (T := 4) rfl (.pointer (some ⟨w.heap.size, 0, none⟩)) (by kernel_rfl) (.bool false) (load_minus b1) (hK _ _ (VF.mk rfl) hRW (Ext.rf _))
      · exact op_ld (T := 162) rfl (.pointer (some ⟨w.heap.size, 1, none⟩)) (by kernel_rfl) (bigV (lowP p) (highP p)) (load_size b1) (hK _ _ (VF.mk rfl) hRW (Ext.rf _))
      · exact op_ld (T := 162) rfl (.pointer (some ⟨w.heap.size + 1, 1, none⟩)) (by kernel_rfl) (bigV (lowP q) (highP q)) (load_size b2) (hK _ _ (VF.mk rfl) hRW (Ext.rf _))
      · have h3 := (hD 3 (depIn (by kernel_rfl))).k rfl
        have h5 := (hD 5 (depIn (by kernel_rfl))).k rfl
        refine op_call rfl #[bigV (lowP p) (highP p), bigV (lowP q) (highP q)] (by go_simp) (by simp only [putAll, h3, h5]; kernel_rfl) _ (MIN.out W) ?_
        rintro e w3 ⟨rfl, x3⟩
        exact ⟨_, rfl, hK _ _ (VF.mk rfl) (hRW.tr x3) x3⟩
    · intro u w3 hRW hV
      have h1 := (hV (1, some 32) (by simp)).k rfl
      have h3 := (hV (3, some 34) (by simp)).k rfl
      have h5 := (hV (5, some 36) (by simp)).k rfl
      have h6 := (hV (6, some 37) (by simp)).k rfl
      simp only [putAll, h1, h3, h5, h6]
      clear hV h1 h3 h5 h6
      have b3 := B3.out.ext (x2.out.tr hRW)
      have b4 : Blk (tenW w3 (w.heap.size + 1 + 1) false (lowP (p - q)) (highP (p - q))) (w.heap.size + 1 + 1) 164 (sgnC false (lowP (p - q)) (highP (p - q))) := tenW_blk b3
      have Y4 := Lib.hid (tenW_ext (m := false) (lo := (lowP (p - q))) (hi := (highP (p - q))) (g := w.heap.size + 1 + 1) (Ext.tr (Ext.tr Y0.out x2.out) hRW) (by omega))
      unfold bigV
      try simp only [Act.put, List.setIfInBounds_toArray, List.set_cons_zero, List.set_cons_succ]
      refine wpAny_T (i := 7) (op := Op.build 164 #[(0, Operand.tmp 32), (1, Operand.tmp 37)]) (t := 164) (d := some 38) (v := ?_) rfl (by decide +kernel) (by decide +kernel) (by decide +kernel) (fun _ _ _ h => h) ?_ ?_
      case refine_2 => (intro _; unfold exec2; go_simp; try with_reducible rfl)
      try simp only [Act.put, List.setIfInBounds_toArray, List.set_cons_zero, List.set_cons_succ]
      refine wpAny_next 8 (by kernel_rfl) (op_st rfl (.pointer (some ⟨w.heap.size + 1 + 1, 0, none⟩)) (sgnV false (lowP (p - q)) (highP (p - q))) (by kernel_rfl) (by kernel_rfl) (store_sgn b3) ?_)
      refine wpAny_done (by kernel_rfl) ?_ _
      clear b3 hRW
      generalize tenW w3 (w.heap.size + 1 + 1) false (lowP (p - q)) (highP (p - q)) = w5 at *
      have c0 : w5.cell? ⟨w.heap.size + 1 + 1, 0, none⟩ = some (.bool false) := b4.cell 0
      have c1 : w5.cell? ⟨w.heap.size + 1 + 1, 1, none⟩ = some (.int .i64 (lowP (p - q))) := b4.cell 1
      have c2 : w5.cell? ⟨w.heap.size + 1 + 1, 2, none⟩ = some (.int .i64 (highP (p - q))) := b4.cell 2
      have c3 : w5.cell? ⟨w.heap.size + 1 + 1, 3, none⟩ = some (.int .i64 0) := b4.cell 3
      have c4 : w5.cell? ⟨w.heap.size + 1 + 1, 4, none⟩ = some (.int .i64 0) := b4.cell 4
      have c5 : w5.cell? ⟨w.heap.size + 1 + 1, 5, none⟩ = some (.int .i64 0) := b4.cell 5
      have c6 : w5.cell? ⟨w.heap.size + 1 + 1, 6, none⟩ = some (.int .i64 0) := b4.cell 6
      have c7 : w5.cell? ⟨w.heap.size + 1 + 1, 7, none⟩ = some (.int .i64 0) := b4.cell 7
      have c8 : w5.cell? ⟨w.heap.size + 1 + 1, 8, none⟩ = some (.int .i64 0) := b4.cell 8
      have c9 : w5.cell? ⟨w.heap.size + 1 + 1, 9, none⟩ = some (.int .i64 0) := b4.cell 9
      clear b4
      go_simp
      go_wp2_with (fail)
      exact bodyPost_ret (v := sgnV false (lowP (p - q)) (highP (p - q))) (by simp [results, Try.results155, go_sem, sgnV, *]) rfl ⟨by rw [diffV, if_neg (by have := hlt.out; omega)], Y4.out⟩
end Go.Proofs.Ytpfdkocelmmllaa
