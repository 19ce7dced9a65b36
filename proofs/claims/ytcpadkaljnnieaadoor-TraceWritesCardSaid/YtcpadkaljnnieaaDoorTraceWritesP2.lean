/-
  kurganref33: an entry's line, as the document has it.
  kurganref33.Write: the lines of entries, as the document has them.
  kurganref32.Cut: a text, parted by a byte.
  kurganref03.Read at digits; kurganref33.number at a number that was written.
-/
import Derived.Test.YtcpadkaljnnieaaDoorTraceWritesP1
namespace Go.Proofs.YtcpadkaljnnieaaDoor
open Go.RowKit Go.ChangeShapes Go.WideShapes Go.ChangeAt Go.Deep

/-- two texts, one behind the other -/
theorem cat_run (P : Program) (t : TypeId) (a b : Txt) (h : a.length + b.length ≤ 1000000) (u : World) : (binOp .add t (.string ⟨a.toArray⟩) (.string ⟨b.toArray⟩)).run P u = .ok (.string ⟨(a ++ b).toArray⟩) u := by
  rw [binOp_string_add, run_string_add_sum _ _ _ (by simp [ByteArray.size]; omega)]
  congr 2
theorem op_cat {P : Program} {ops : Array Oper} {i : Nat} {T T2 t : TypeId} {x y : Operand} {d : Option Tmp} {A : Act} {w : World} {K : Act → World → Prop} {Q : Exit → Act → World → Prop} (hi : opAt ops i = some (none, .binOp .add T x y T2, t, d)) (a b : Txt) (hx : A.eval x = .string ⟨a.toArray⟩) (hy : A.eval y = .string ⟨b.toArray⟩) (hl : a.length + b.length ≤ 1000000) (hK : K (A.put d (.string ⟨(a ++ b).toArray⟩)) w) : wpOp P ops Q i K A w :=
  op_run hi _ (by simp [exec2, execOp, hx, hy, eqGuard, cat_run P T a b hl]) hK
theorem cat_bytes (a b : Txt) : (⟨a.toArray⟩ : ByteArray) ++ ⟨b.toArray⟩ = ⟨(a ++ b).toArray⟩ := by
  refine ByteArray.ext ?_
  simp
set_option maxRecDepth 100000 in
set_option maxHeartbeats 1000000 in
theorem rnothing_any (e : Ent) (w : World) :
    Calls Tryd.prog 30 #[.agg (entC e)] w fun r w' => r = .returned (.bool e.quiet) ∧ Ext w w' := by
  obtain ⟨wk, kd, cl, od, nw, dn⟩ := e
  unfold entC
  simp only
  obtain ⟨q, hq⟩ : ∃ q, Hid (Ent.quiet ⟨wk, kd, cl, od, nw, dn⟩ = q) := ⟨_, rfl⟩
  rw [hq.out]
  by_cases z0 : kd = 0
  case neg =>
    have y_z0 : (kd == 0) = false := beq_eq_false_iff_ne.2 z0
    have hqo := hq.out
    unfold Ent.quiet at hqo
    simp [y_z0] at hqo
    subst hqo
    clear hq
    go_enter Tryd.func30, Tryd.ntmps30
    go_wp2_with (fail)
    go_ret
    exact ⟨rfl, by (repeat (first | assumption | exact Ext.rf _ | apply Ext.drew | apply Ext.drewN | apply Ext.alloc))⟩
  subst z0
  by_cases z1 : cl = 0
  case neg =>
    have y_z1 : (cl == 0) = false := beq_eq_false_iff_ne.2 z1
    have hqo := hq.out
    unfold Ent.quiet at hqo
    simp [y_z1] at hqo
    subst hqo
    clear hq
    go_enter Tryd.func30, Tryd.ntmps30
    go_wp2_with (fail)
    go_ret
    exact ⟨rfl, by (repeat (first | assumption | exact Ext.rf _ | apply Ext.drew | apply Ext.drewN | apply Ext.alloc))⟩
  subst z1
  by_cases z2 : od = 0
  case neg =>
    have y_z2 : (od == 0) = false := beq_eq_false_iff_ne.2 z2
    have hqo := hq.out
    unfold Ent.quiet at hqo
    simp [y_z2] at hqo
    subst hqo
    clear hq
    go_enter Tryd.func30, Tryd.ntmps30
    go_wp2_with (fail)
    go_ret
    exact ⟨rfl, by (repeat (first | assumption | exact Ext.rf _ | apply Ext.drew | apply Ext.drewN | apply Ext.alloc))⟩
  subst z2
  by_cases z3 : nw = 0
  case neg =>
    have y_z3 : (nw == 0) = false := beq_eq_false_iff_ne.2 z3
    have hqo := hq.out
    unfold Ent.quiet at hqo
    simp [y_z3] at hqo
    subst hqo
    clear hq
    go_enter Tryd.func30, Tryd.ntmps30
    go_wp2_with (fail)
    go_ret
    exact ⟨rfl, by (repeat (first | assumption | exact Ext.rf _ | apply Ext.drew | apply Ext.drewN | apply Ext.alloc))⟩
  subst z3
  cases dn
  case true =>
    have hqo := hq.out
    unfold Ent.quiet at hqo
    simp at hqo
    subst hqo
    clear hq
    go_enter Tryd.func30, Tryd.ntmps30
    go_wp2_with (fail)
    go_ret
    exact ⟨rfl, by (repeat (first | assumption | exact Ext.rf _ | apply Ext.drew | apply Ext.drewN | apply Ext.alloc))⟩
  have hqo := hq.out
  unfold Ent.quiet at hqo
  simp at hqo
  subst hqo
  clear hq
  go_enter Tryd.func30, Tryd.ntmps30
  go_wp2_with (fail)
  go_ret
  exact ⟨rfl, by (repeat (first | assumption | exact Ext.rf _ | apply Ext.drew | apply Ext.drewN | apply Ext.alloc))⟩
set_option maxRecDepth 100000 in
set_option maxHeartbeats 4000000 in
theorem rline_any (e : Ent) (w : World) (h : e.In) :
    Calls Tryd.prog 18 #[.agg (entC e)] w fun r w' => r = .returned (.tuple #[txS e.line.1, .bool e.line.2]) ∧ Ext w w' := by
  have NO := Lib.hid (fun (W : World) => rnothing_any e W)
  obtain ⟨wk, kd, cl, od, nw, dn⟩ := e
  obtain ⟨h1, h2, h3, h4, h5⟩ := h
  simp only at h1 h2 h3 h4 h5
  unfold entC at NO ⊢
  simp only at NO ⊢
  by_cases c1 : 0 ≤ wk ∧ wk ≤ 15
  · obtain ⟨c1a, c1b⟩ := c1
    have hlen : (Lib.itoa wk).length ≤ 21 := Lib.itoa_length_le wk h1.1 h1.2
    have lb : ¬ 9223372036854775807 < (Lib.itoa wk).length + 1 := by omega
    have WK := Lib.hid (fun (W : World) => rwrite_any wk h1.1 h1.2 W)
    have B1 : Hid (Blk (w.alloc (.cells #[.int .i64 wk, .int .i64 kd, .int .i64 cl, .int .i64 od, .int .i64 nw, .bool dn] 39)) w.heap.size 39 #[.int .i64 wk, .int .i64 kd, .int .i64 cl, .int .i64 od, .int .i64 nw, .bool dn]) := Lib.hid (.new rfl)
    obtain ⟨q, hq⟩ : ∃ q, Hid (Ent.quiet ⟨wk, kd, cl, od, nw, dn⟩ = q) := ⟨_, rfl⟩
    rw [hq.out] at NO
    go_enter Tryd.func18, Tryd.ntmps18
    go_wp2_with (fail)
    refine (WK.out _).mono ?_
    rintro e w1 ⟨rfl, x1⟩
    have X1 := Lib.hid (Ext.tr (a := w) (by (repeat (first | assumption | exact Ext.rf _ | apply Ext.drew | apply Ext.drewN | apply Ext.alloc))) x1)
    have BB := Lib.hid (B1.out.ext x1)
    clear x1 B1
    have d0 : w1.cell? ⟨w.heap.size, 0, none⟩ = some (.int .i64 wk) := BB.out.cell 0
    have d1 : w1.cell? ⟨w.heap.size, 1, none⟩ = some (.int .i64 kd) := BB.out.cell 1
    have d2 : w1.cell? ⟨w.heap.size, 2, none⟩ = some (.int .i64 cl) := BB.out.cell 2
    have d3 : w1.cell? ⟨w.heap.size, 3, none⟩ = some (.int .i64 od) := BB.out.cell 3
    have d4 : w1.cell? ⟨w.heap.size, 4, none⟩ = some (.int .i64 nw) := BB.out.cell 4
    have d5 : w1.cell? ⟨w.heap.size, 5, none⟩ = some (.bool dn) := BB.out.cell 5
    go_wp2_with (fail)
    refine (NO.out _).mono ?_
    rintro e w2 ⟨rfl, x2⟩
    have X2 := Lib.hid (X1.out.tr (Ext.tr (by (repeat (first | assumption | exact Ext.rf _ | apply Ext.drew | apply Ext.drewN | apply Ext.alloc))) x2))
    have B2 := Lib.hid (Blk.ext (BB.out.ext (w' := _) (by (repeat (first | assumption | exact Ext.rf _ | apply Ext.drew | apply Ext.drewN | apply Ext.alloc)))) x2)
    clear x2 X1 BB d0 d1 d2 d3 d4 d5
    have d1 : w2.cell? ⟨w.heap.size, 1, none⟩ = some (.int .i64 kd) := B2.out.cell 1
    have d2 : w2.cell? ⟨w.heap.size, 2, none⟩ = some (.int .i64 cl) := B2.out.cell 2
    have d3 : w2.cell? ⟨w.heap.size, 3, none⟩ = some (.int .i64 od) := B2.out.cell 3
    have d4 : w2.cell? ⟨w.heap.size, 4, none⟩ = some (.int .i64 nw) := B2.out.cell 4
    have d5 : w2.cell? ⟨w.heap.size, 5, none⟩ = some (.bool dn) := B2.out.cell 5
    have zB := B2.out.lt
    have lP : (Lib.itoa wk ++ [32]).length ≤ 22 := by rw [List.length_append, List.length_singleton]; omega
    obtain ⟨P, hP⟩ : ∃ P, Lib.itoa wk ++ [32] = P := ⟨_, rfl⟩
    have hPb : (⟨(Lib.itoa wk).toArray⟩ : ByteArray) ++ ⟨#[32]⟩ = ⟨P.toArray⟩ := by rw [← hP, show (#[32] : Array UInt8) = [32].toArray from rfl, cat_bytes]
    rw [hP] at lP
    rw [hPb]
    have hPH := Lib.hid hP
    have lb2 : ¬ 9223372036854775807 < P.length + 1 := by omega
    clear hP hPb lb hlen
    cases q with
    | true =>
      have hl : Hid (Ent.line ⟨wk, kd, cl, od, nw, dn⟩ = (P ++ [45], true)) := Lib.hid (by
        unfold Ent.line Ent.fine Ent.words
        rw [hq.out, ← hPH.out]
        simp [c1a, show wk < 16 by omega, join_cons2, Lib.join_one])
      clear hq
      go_wp2_with (fail)
      go_ret2
      rw [hl.out]
      exact ⟨rfl, X2.out.tr (by (repeat (first | assumption | exact Ext.rf _ | apply Ext.drew | apply Ext.drewN | apply Ext.alloc)))⟩
    | false =>
      by_cases k0 : (1 ≤ kd ∧ kd ≤ 4) ∧ 0 ≤ cl
      · obtain ⟨⟨k1, k4⟩, k3⟩ := k0
        have hl : Hid (Ent.line ⟨wk, kd, cl, od, nw, dn⟩ = (Lib.join [Lib.itoa wk, kindT kd, Lib.itoa cl, Lib.itoa od, Lib.itoa nw, yesT dn] [32], true)) := Lib.hid (by
          unfold Ent.line Ent.fine Ent.words
          rw [hq.out]
          simp [c1a, show wk < 16 by omega, k1, k4, k3])
        have hlc : (Lib.itoa cl).length ≤ 21 := Lib.itoa_length_le cl h3.1 h3.2
        have hlo : (Lib.itoa od).length ≤ 21 := Lib.itoa_length_le od h4.1 h4.2
        have hln : (Lib.itoa nw).length ≤ 21 := Lib.itoa_length_le nw h5.1 h5.2
        simp only [join_cons2, Lib.join_one] at hl
        rw [hPH.out] at hl
        clear hq hPH lb2
        have hcase : kd = 1 ∨ kd = 2 ∨ kd = 3 ∨ kd = 4 := by omega
        clear k1 k4
        rcases hcase with rfl | rfl | rfl | rfl
        · cases dn with
          | true =>
            go_wp2_with (fail)
            refine wp_region_any (by kernel_rfl) ?_
            change wpAny _ _ _ _ _ _ _ (World.drew _)
            refine wpAny_T (i := 0) (op := Op.move (Operand.tmp 4)) (t := 9) (d := some 37) (v := ?_) rfl (by decide +kernel) (by decide +kernel) (by decide +kernel) (fun _ _ _ h => h) ?_ ?_
            case refine_2 => (intro _; unfold exec2; go_simp; try with_reducible rfl)
            try simp only [Act.put, List.setIfInBounds_toArray, List.set_cons_zero, List.set_cons_succ]
            refine wpAny_T (i := 2) (op := Op.fieldAddr 39 (Operand.tmp 1) 1) (t := 0) (d := some 39) (v := ?_) rfl (by decide +kernel) (by decide +kernel) (by decide +kernel) (fun _ _ _ h => h) ?_ ?_
            case refine_2 => (intro _; unfold exec2; go_simp; try with_reducible rfl)
            try simp only [Act.put, List.setIfInBounds_toArray, List.set_cons_zero, List.set_cons_succ]
            refine wpAny_T (i := 9) (op := Op.fieldAddr 39 (Operand.tmp 1) 2) (t := 0) (d := some 46) (v := ?_) rfl (by decide +kernel) (by decide +kernel) (by decide +kernel) (fun _ _ _ h => h) ?_ ?_
            case refine_2 => (intro _; unfold exec2; go_simp; try with_reducible rfl)
            try simp only [Act.put, List.setIfInBounds_toArray, List.set_cons_zero, List.set_cons_succ]
            refine wpAny_T (i := 14) (op := Op.fieldAddr 39 (Operand.tmp 1) 3) (t := 0) (d := some 51) (v := ?_) rfl (by decide +kernel) (by decide +kernel) (by decide +kernel) (fun _ _ _ h => h) ?_ ?_
            case refine_2 => (intro _; unfold exec2; go_simp; try with_reducible rfl)
            try simp only [Act.put, List.setIfInBounds_toArray, List.set_cons_zero, List.set_cons_succ]
            refine wpAny_T (i := 19) (op := Op.fieldAddr 39 (Operand.tmp 1) 4) (t := 0) (d := some 56) (v := ?_) rfl (by decide +kernel) (by decide +kernel) (by decide +kernel) (fun _ _ _ h => h) ?_ ?_
            case refine_2 => (intro _; unfold exec2; go_simp; try with_reducible rfl)
            try simp only [Act.put, List.setIfInBounds_toArray, List.set_cons_zero, List.set_cons_succ]
            refine wpAny_T (i := 24) (op := Op.move (Operand.tmp 5)) (t := 9) (d := some 61) (v := ?_) rfl (by decide +kernel) (by decide +kernel) (by decide +kernel) (fun _ _ _ h => h) ?_ ?_
            case refine_2 => (intro _; unfold exec2; go_simp; try with_reducible rfl)
            try simp only [Act.put, List.setIfInBounds_toArray, List.set_cons_zero, List.set_cons_succ]
            refine wpAny_core2 (n := 2) [(1, some 38), (3, some 40), (4, some 41), (5, some 42), (6, some 43), (7, some 44), (8, some 45), (10, some 47), (11, some 48), (12, some 49), (13, some 50), (15, some 52), (16, some 53), (17, some 54), (18, some 55), (20, some 57), (21, some 58), (22, some 59), (23, some 60), (25, some 62)] (Ext w2) (VF (fun | 3 => some (.int .i64 1) | 4 => some (.int .i64 0) | 6 => some (.string ⟨([114, 101, 97, 100]).toArray⟩) | 7 => some (.string ⟨(P ++ [114, 101, 97, 100]).toArray⟩) | 8 => some (.string ⟨((P ++ [114, 101, 97, 100]) ++ [32]).toArray⟩) | 10 => some (.int .i64 cl) | 11 => some (.string ⟨(Lib.itoa cl).toArray⟩) | 12 => some (.string ⟨(((P ++ [114, 101, 97, 100]) ++ [32]) ++ Lib.itoa cl).toArray⟩) | 13 => some (.string ⟨((((P ++ [114, 101, 97, 100]) ++ [32]) ++ Lib.itoa cl) ++ [32]).toArray⟩) | 15 => some (.int .i64 od) | 16 => some (.string ⟨(Lib.itoa od).toArray⟩) | 17 => some (.string ⟨(((((P ++ [114, 101, 97, 100]) ++ [32]) ++ Lib.itoa cl) ++ [32]) ++ Lib.itoa od).toArray⟩) | 18 => some (.string ⟨((((((P ++ [114, 101, 97, 100]) ++ [32]) ++ Lib.itoa cl) ++ [32]) ++ Lib.itoa od) ++ [32]).toArray⟩) | 20 => some (.int .i64 nw) | 21 => some (.string ⟨(Lib.itoa nw).toArray⟩) | 22 => some (.string ⟨(((((((P ++ [114, 101, 97, 100]) ++ [32]) ++ Lib.itoa cl) ++ [32]) ++ Lib.itoa od) ++ [32]) ++ Lib.itoa nw).toArray⟩) | 23 => some (.string ⟨((((((((P ++ [114, 101, 97, 100]) ++ [32]) ++ Lib.itoa cl) ++ [32]) ++ Lib.itoa od) ++ [32]) ++ Lib.itoa nw) ++ [32]).toArray⟩) | 25 => some (.string ⟨(((((((((P ++ [114, 101, 97, 100]) ++ [32]) ++ Lib.itoa cl) ++ [32]) ++ Lib.itoa od) ++ [32]) ++ Lib.itoa nw) ++ [32]) ++ [121, 101, 115]).toArray⟩) | _ => none) (fun i v W => (i = 1 → ∃ z, v = .slice (some ⟨z, 0, none⟩) 4 4 ∧ Blk W z 9 #[.string ⟨#[114, 101, 97, 100]⟩, .string ⟨#[119, 114, 105, 116, 101]⟩, .string ⟨#[115, 119, 97, 112]⟩, .string ⟨#[97, 100, 100]⟩]) ∧ (i = 5 → ∃ z, v = .pointer (some ⟨z, 0, none⟩) ∧ Blk W z 9 #[.string ⟨#[114, 101, 97, 100]⟩, .string ⟨#[119, 114, 105, 116, 101]⟩, .string ⟨#[115, 119, 97, 112]⟩, .string ⟨#[97, 100, 100]⟩]))) Ext #[true, true, true, true, true, true, true, true, true, true, true, true, true, true, true, true, true, true, true, true, true, true, true, true, true, true, false, false] (by decide +kernel) (VF.stab ?_) ?_ ?_ (by first | exact (Ext.rf _).drew | exact Ext.rf _)
            · intro j v W W' _ gz hx
              obtain ⟨g0, g1⟩ := gz
              exact ⟨fun h => (g0 h).imp fun z hz => ⟨hz.1, hz.2.ext hx⟩, fun h => (g1 h).imp fun z hz => ⟨hz.1, hz.2.ext hx⟩⟩
            · intro pS hpm uS wS hRW hD K hK
              simp only [List.mem_cons, List.not_mem_nil, or_false] at hpm
              rcases hpm with rfl | rfl | rfl | rfl | rfl | rfl | rfl | rfl | rfl | rfl | rfl | rfl | rfl | rfl | rfl | rfl | rfl | rfl | rfl | rfl
              · ( exact op_run (op := Op.buildSlice 64 4 #[(0, Operand.const (Value.string { data := #[114, 101, 97, 100] })), (1, Operand.const (Value.string { data := #[119, 114, 105, 116, 101] })), (2, Operand.const (Value.string { data := #[115, 119, 97, 112] })), (3, Operand.const (Value.string { data := #[97, 100, 100] }))]) (t := 64) (d := some 38) rfl _ (by unfold exec2; go_simp; try rfl) (hK _ _ (VF.mg rfl ⟨(fun _ => ⟨_, rfl, .new rfl⟩), (fun h => absurd h (by decide))⟩) (hRW.alloc _) ((Ext.rf _).alloc _)))
              · ( have rX := keepEL hRW zB d1; exact op_ld (T := 3) (x := Operand.tmp 39) (t := 3) (d := some 40) rfl (.pointer (some ⟨w.heap.size, 1, none⟩)) (by kernel_rfl) (.int .i64 1) (by go_simp) (hK _ _ (VF.mk rfl) hRW (Ext.rf _)))
              · (have e3 : uS 3 = .int .i64 1 := (hD 3 (depIn (by kernel_rfl))).k rfl; exact op_run (op := Op.binOp BinOp.sub 3 (Operand.tmp 40) (Operand.const (Value.int IntKind.i64 1)) 3) (t := 3) (d := some 41) rfl (.int .i64 0) (by simp only [putAll, Act.put, List.setIfInBounds_toArray, List.set_cons_zero, List.set_cons_succ]; unfold exec2; (try go_simp); (try simp only [e3]); (try go_simp); (try rfl); (try (exact IntWalk.i64_in _ (by omega)))) (hK _ _ (VF.mk rfl) hRW (Ext.rf _)))
              · (have e4 : uS 4 = .int .i64 0 := (hD 4 (depIn (by kernel_rfl))).k rfl; obtain ⟨z, ez, bz⟩ := ((hD 1 (depIn (by kernel_rfl))).g rfl).1 rfl; exact op_ix (T := 64) (x := Operand.tmp 38) (y := Operand.tmp 41) (t := 0) (d := some 42) rfl (.slice (some ⟨z, 0, none⟩) 4 4) (.int .i64 0) (Eq.trans (b := uS 1) (by kernel_rfl) ez) (Eq.trans (b := uS 4) (by kernel_rfl) e4) (.pointer (some ⟨z, 0, none⟩)) (by go_simp) (hK _ _ (VF.mg rfl ⟨(fun h => absurd h (by decide)), (fun _ => ⟨z, rfl, bz⟩)⟩) hRW (Ext.rf _)))
              · (obtain ⟨z, ez, bz⟩ := ((hD 5 (depIn (by kernel_rfl))).g rfl).2 rfl; have rX : wS.cell? ⟨z, 0, none⟩ = some (.string ⟨([114, 101, 97, 100]).toArray⟩) := bz.cell 0; exact op_ld (T := 9) (x := Operand.tmp 42) (t := 9) (d := some 43) rfl (.pointer (some ⟨z, 0, none⟩)) (Eq.trans (b := uS 5) (by kernel_rfl) ez) (.string ⟨([114, 101, 97, 100]).toArray⟩) (by go_simp) (hK _ _ (VF.mk rfl) hRW (Ext.rf _)))
              · (have e6 : uS 6 = .string ⟨([114, 101, 97, 100]).toArray⟩ := (hD 6 (depIn (by kernel_rfl))).k rfl; exact op_cat (t := 9) (d := some 44) rfl (P) ([114, 101, 97, 100]) (by kernel_rfl) (Eq.trans (b := uS 6) (by kernel_rfl) e6) (by simp only [List.length_append, List.length_cons, List.length_nil]; omega) (hK _ _ (VF.mk rfl) hRW (Ext.rf _)))
              · (have e7 : uS 7 = .string ⟨(P ++ [114, 101, 97, 100]).toArray⟩ := (hD 7 (depIn (by kernel_rfl))).k rfl; exact op_cat (t := 9) (d := some 45) rfl ((P ++ [114, 101, 97, 100])) ([32]) (Eq.trans (b := uS 7) (by kernel_rfl) e7) (by kernel_rfl) (by simp only [List.length_append, List.length_cons, List.length_nil]; omega) (hK _ _ (VF.mk rfl) hRW (Ext.rf _)))
              · ( have rX := keepEL hRW zB d2; exact op_ld (T := 3) (x := Operand.tmp 46) (t := 3) (d := some 47) rfl (.pointer (some ⟨w.heap.size, 2, none⟩)) (by kernel_rfl) (.int .i64 cl) (by go_simp) (hK _ _ (VF.mk rfl) hRW (Ext.rf _)))
              · (have e10 : uS 10 = .int .i64 cl := (hD 10 (depIn (by kernel_rfl))).k rfl; exact op_call (f := 29) (xs := #[Operand.tmp 47]) (ts := #[3]) (t := 9) (d := some 48) rfl #[.int .i64 cl] (by go_simp) (Eq.trans (b := #[uS 10]) (by kernel_rfl) (by rw [e10])) _ (rwrite_any cl h3.1 h3.2 _) (by rintro e w9 ⟨rfl, xx⟩; exact ⟨_, rfl, hK _ _ (VF.mk rfl) (hRW.tr xx) xx⟩))
              · (have e8 : uS 8 = .string ⟨((P ++ [114, 101, 97, 100]) ++ [32]).toArray⟩ := (hD 8 (depIn (by kernel_rfl))).k rfl; have e11 : uS 11 = .string ⟨(Lib.itoa cl).toArray⟩ := (hD 11 (depIn (by kernel_rfl))).k rfl; exact op_cat (t := 9) (d := some 49) rfl (((P ++ [114, 101, 97, 100]) ++ [32])) (Lib.itoa cl) (Eq.trans (b := uS 8) (by kernel_rfl) e8) (Eq.trans (b := uS 11) (by kernel_rfl) e11) (by simp only [List.length_append, List.length_cons, List.length_nil]; omega) (hK _ _ (VF.mk rfl) hRW (Ext.rf _)))
              · (have e12 : uS 12 = .string ⟨(((P ++ [114, 101, 97, 100]) ++ [32]) ++ Lib.itoa cl).toArray⟩ := (hD 12 (depIn (by kernel_rfl))).k rfl; exact op_cat (t := 9) (d := some 50) rfl ((((P ++ [114, 101, 97, 100]) ++ [32]) ++ Lib.itoa cl)) ([32]) (Eq.trans (b := uS 12) (by kernel_rfl) e12) (by kernel_rfl) (by simp only [List.length_append, List.length_cons, List.length_nil]; omega) (hK _ _ (VF.mk rfl) hRW (Ext.rf _)))
              · ( have rX := keepEL hRW zB d3; exact op_ld (T := 3) (x := Operand.tmp 51) (t := 3) (d := some 52) rfl (.pointer (some ⟨w.heap.size, 3, none⟩)) (by kernel_rfl) (.int .i64 od) (by go_simp) (hK _ _ (VF.mk rfl) hRW (Ext.rf _)))
              · (have e15 : uS 15 = .int .i64 od := (hD 15 (depIn (by kernel_rfl))).k rfl; exact op_call (f := 29) (xs := #[Operand.tmp 52]) (ts := #[3]) (t := 9) (d := some 53) rfl #[.int .i64 od] (by go_simp) (Eq.trans (b := #[uS 15]) (by kernel_rfl) (by rw [e15])) _ (rwrite_any od h4.1 h4.2 _) (by rintro e w9 ⟨rfl, xx⟩; exact ⟨_, rfl, hK _ _ (VF.mk rfl) (hRW.tr xx) xx⟩))
              · (have e13 : uS 13 = .string ⟨((((P ++ [114, 101, 97, 100]) ++ [32]) ++ Lib.itoa cl) ++ [32]).toArray⟩ := (hD 13 (depIn (by kernel_rfl))).k rfl; have e16 : uS 16 = .string ⟨(Lib.itoa od).toArray⟩ := (hD 16 (depIn (by kernel_rfl))).k rfl; exact op_cat (t := 9) (d := some 54) rfl (((((P ++ [114, 101, 97, 100]) ++ [32]) ++ Lib.itoa cl) ++ [32])) (Lib.itoa od) (Eq.trans (b := uS 13) (by kernel_rfl) e13) (Eq.trans (b := uS 16) (by kernel_rfl) e16) (by simp only [List.length_append, List.length_cons, List.length_nil]; omega) (hK _ _ (VF.mk rfl) hRW (Ext.rf _)))
              · (have e17 : uS 17 = .string ⟨(((((P ++ [114, 101, 97, 100]) ++ [32]) ++ Lib.itoa cl) ++ [32]) ++ Lib.itoa od).toArray⟩ := (hD 17 (depIn (by kernel_rfl))).k rfl; exact op_cat (t := 9) (d := some 55) rfl ((((((P ++ [114, 101, 97, 100]) ++ [32]) ++ Lib.itoa cl) ++ [32]) ++ Lib.itoa od)) ([32]) (Eq.trans (b := uS 17) (by kernel_rfl) e17) (by kernel_rfl) (by simp only [List.length_append, List.length_cons, List.length_nil]; omega) (hK _ _ (VF.mk rfl) hRW (Ext.rf _)))
              · ( have rX := keepEL hRW zB d4; exact op_ld (T := 3) (x := Operand.tmp 56) (t := 3) (d := some 57) rfl (.pointer (some ⟨w.heap.size, 4, none⟩)) (by kernel_rfl) (.int .i64 nw) (by go_simp) (hK _ _ (VF.mk rfl) hRW (Ext.rf _)))
              · (have e20 : uS 20 = .int .i64 nw := (hD 20 (depIn (by kernel_rfl))).k rfl; exact op_call (f := 29) (xs := #[Operand.tmp 57]) (ts := #[3]) (t := 9) (d := some 58) rfl #[.int .i64 nw] (by go_simp) (Eq.trans (b := #[uS 20]) (by kernel_rfl) (by rw [e20])) _ (rwrite_any nw h5.1 h5.2 _) (by rintro e w9 ⟨rfl, xx⟩; exact ⟨_, rfl, hK _ _ (VF.mk rfl) (hRW.tr xx) xx⟩))
              · (have e18 : uS 18 = .string ⟨((((((P ++ [114, 101, 97, 100]) ++ [32]) ++ Lib.itoa cl) ++ [32]) ++ Lib.itoa od) ++ [32]).toArray⟩ := (hD 18 (depIn (by kernel_rfl))).k rfl; have e21 : uS 21 = .string ⟨(Lib.itoa nw).toArray⟩ := (hD 21 (depIn (by kernel_rfl))).k rfl; exact op_cat (t := 9) (d := some 59) rfl (((((((P ++ [114, 101, 97, 100]) ++ [32]) ++ Lib.itoa cl) ++ [32]) ++ Lib.itoa od) ++ [32])) (Lib.itoa nw) (Eq.trans (b := uS 18) (by kernel_rfl) e18) (Eq.trans (b := uS 21) (by kernel_rfl) e21) (by simp only [List.length_append, List.length_cons, List.length_nil]; omega) (hK _ _ (VF.mk rfl) hRW (Ext.rf _)))
              · (have e22 : uS 22 = .string ⟨(((((((P ++ [114, 101, 97, 100]) ++ [32]) ++ Lib.itoa cl) ++ [32]) ++ Lib.itoa od) ++ [32]) ++ Lib.itoa nw).toArray⟩ := (hD 22 (depIn (by kernel_rfl))).k rfl; exact op_cat (t := 9) (d := some 60) rfl ((((((((P ++ [114, 101, 97, 100]) ++ [32]) ++ Lib.itoa cl) ++ [32]) ++ Lib.itoa od) ++ [32]) ++ Lib.itoa nw)) ([32]) (Eq.trans (b := uS 22) (by kernel_rfl) e22) (by kernel_rfl) (by simp only [List.length_append, List.length_cons, List.length_nil]; omega) (hK _ _ (VF.mk rfl) hRW (Ext.rf _)))
              · (have e23 : uS 23 = .string ⟨((((((((P ++ [114, 101, 97, 100]) ++ [32]) ++ Lib.itoa cl) ++ [32]) ++ Lib.itoa od) ++ [32]) ++ Lib.itoa nw) ++ [32]).toArray⟩ := (hD 23 (depIn (by kernel_rfl))).k rfl; exact op_cat (t := 9) (d := some 62) rfl (((((((((P ++ [114, 101, 97, 100]) ++ [32]) ++ Lib.itoa cl) ++ [32]) ++ Lib.itoa od) ++ [32]) ++ Lib.itoa nw) ++ [32])) ([121, 101, 115]) (Eq.trans (b := uS 23) (by kernel_rfl) e23) (by kernel_rfl) (by simp only [List.length_append, List.length_cons, List.length_nil]; omega) (hK _ _ (VF.mk rfl) hRW (Ext.rf _)))
            intro u w3 hR3 hV
            have h3 := (hV (3, some 40) (by simp)).k rfl
            have h4 := (hV (4, some 41) (by simp)).k rfl
            have h6 := (hV (6, some 43) (by simp)).k rfl
            have h7 := (hV (7, some 44) (by simp)).k rfl
            have h8 := (hV (8, some 45) (by simp)).k rfl
            have h10 := (hV (10, some 47) (by simp)).k rfl
            have h11 := (hV (11, some 48) (by simp)).k rfl
            have h12 := (hV (12, some 49) (by simp)).k rfl
            have h13 := (hV (13, some 50) (by simp)).k rfl
            have h15 := (hV (15, some 52) (by simp)).k rfl
            have h16 := (hV (16, some 53) (by simp)).k rfl
            have h17 := (hV (17, some 54) (by simp)).k rfl
            have h18 := (hV (18, some 55) (by simp)).k rfl
            have h20 := (hV (20, some 57) (by simp)).k rfl
            have h21 := (hV (21, some 58) (by simp)).k rfl
            have h22 := (hV (22, some 59) (by simp)).k rfl
            have h23 := (hV (23, some 60) (by simp)).k rfl
            have h25 := (hV (25, some 62) (by simp)).k rfl
            simp only [putAll, h3, h4, h6, h7, h8, h10, h11, h12, h13, h15, h16, h17, h18, h20, h21, h22, h23, h25]
            clear hV h3 h4 h6 h7 h8 h10 h11 h12 h13 h15 h16 h17 h18 h20 h21 h22 h23 h25
            try simp only [Act.put, List.setIfInBounds_toArray, List.set_cons_zero, List.set_cons_succ]
            have X3 := Lib.hid (X2.out.tr hR3)
            clear hR3
            try simp only [Act.put, List.setIfInBounds_toArray, List.set_cons_zero, List.set_cons_succ]
            refine wpAny_T (i := 26) (op := Op.assign (Operand.tmp 62)) (t := 9) (d := some 2) (v := ?_) rfl (by decide +kernel) (by decide +kernel) (by decide +kernel) (fun _ _ _ h => h) ?_ ?_
            case refine_2 => (intro _; unfold exec2; go_simp; try with_reducible rfl)
            try simp only [Act.put, List.setIfInBounds_toArray, List.set_cons_zero, List.set_cons_succ]
            refine wpAny_T (i := 27) (op := Op.assign (Operand.const (Value.bool true))) (t := 4) (d := some 3) (v := ?_) rfl (by decide +kernel) (by decide +kernel) (by decide +kernel) (fun _ _ _ h => h) ?_ ?_
            case refine_2 => (intro _; unfold exec2; go_simp; try with_reducible rfl)
            try simp only [Act.put, List.setIfInBounds_toArray, List.set_cons_zero, List.set_cons_succ]
            refine wpAny_done (by kernel_rfl) ?_ _
            go_simp
            go_wp2_with (fail)
            go_ret2
            rw [hl.out]
            exact ⟨by simp [txS, kindT, yesT, tRead, tWrite, tSwap, tAdd], X3.out⟩
          | false =>
            go_wp2_with (fail)
            refine wp_region_any (by kernel_rfl) ?_
            change wpAny _ _ _ _ _ _ _ (World.drew _)
            refine wpAny_T (i := 0) (op := Op.move (Operand.tmp 4)) (t := 9) (d := some 37) (v := ?_) rfl (by decide +kernel) (by decide +kernel) (by decide +kernel) (fun _ _ _ h => h) ?_ ?_
            case refine_2 => (intro _; unfold exec2; go_simp; try with_reducible rfl)
            try simp only [Act.put, List.setIfInBounds_toArray, List.set_cons_zero, List.set_cons_succ]
            refine wpAny_T (i := 2) (op := Op.fieldAddr 39 (Operand.tmp 1) 1) (t := 0) (d := some 39) (v := ?_) rfl (by decide +kernel) (by decide +kernel) (by decide +kernel) (fun _ _ _ h => h) ?_ ?_
            case refine_2 => (intro _; unfold exec2; go_simp; try with_reducible rfl)
            try simp only [Act.put, List.setIfInBounds_toArray, List.set_cons_zero, List.set_cons_succ]
            refine wpAny_T (i := 9) (op := Op.fieldAddr 39 (Operand.tmp 1) 2) (t := 0) (d := some 46) (v := ?_) rfl (by decide +kernel) (by decide +kernel) (by decide +kernel) (fun _ _ _ h => h) ?_ ?_
            case refine_2 => (intro _; unfold exec2; go_simp; try with_reducible rfl)
            try simp only [Act.put, List.setIfInBounds_toArray, List.set_cons_zero, List.set_cons_succ]
            refine wpAny_T (i := 14) (op := Op.fieldAddr 39 (Operand.tmp 1) 3) (t := 0) (d := some 51) (v := ?_) rfl (by decide +kernel) (by decide +kernel) (by decide +kernel) (fun _ _ _ h => h) ?_ ?_
            case refine_2 => (intro _; unfold exec2; go_simp; try with_reducible rfl)
            try simp only [Act.put, List.setIfInBounds_toArray, List.set_cons_zero, List.set_cons_succ]
            refine wpAny_T (i := 19) (op := Op.fieldAddr 39 (Operand.tmp 1) 4) (t := 0) (d := some 56) (v := ?_) rfl (by decide +kernel) (by decide +kernel) (by decide +kernel) (fun _ _ _ h => h) ?_ ?_
            case refine_2 => (intro _; unfold exec2; go_simp; try with_reducible rfl)
            try simp only [Act.put, List.setIfInBounds_toArray, List.set_cons_zero, List.set_cons_succ]
            refine wpAny_T (i := 24) (op := Op.move (Operand.tmp 5)) (t := 9) (d := some 61) (v := ?_) rfl (by decide +kernel) (by decide +kernel) (by decide +kernel) (fun _ _ _ h => h) ?_ ?_
            case refine_2 => (intro _; unfold exec2; go_simp; try with_reducible rfl)
            try simp only [Act.put, List.setIfInBounds_toArray, List.set_cons_zero, List.set_cons_succ]
            refine wpAny_core2 (n := 2) [(1, some 38), (3, some 40), (4, some 41), (5, some 42), (6, some 43), (7, some 44), (8, some 45), (10, some 47), (11, some 48), (12, some 49), (13, some 50), (15, some 52), (16, some 53), (17, some 54), (18, some 55), (20, some 57), (21, some 58), (22, some 59), (23, some 60), (25, some 62)] (Ext w2) (VF (fun | 3 => some (.int .i64 1) | 4 => some (.int .i64 0) | 6 => some (.string ⟨([114, 101, 97, 100]).toArray⟩) | 7 => some (.string ⟨(P ++ [114, 101, 97, 100]).toArray⟩) | 8 => some (.string ⟨((P ++ [114, 101, 97, 100]) ++ [32]).toArray⟩) | 10 => some (.int .i64 cl) | 11 => some (.string ⟨(Lib.itoa cl).toArray⟩) | 12 => some (.string ⟨(((P ++ [114, 101, 97, 100]) ++ [32]) ++ Lib.itoa cl).toArray⟩) | 13 => some (.string ⟨((((P ++ [114, 101, 97, 100]) ++ [32]) ++ Lib.itoa cl) ++ [32]).toArray⟩) | 15 => some (.int .i64 od) | 16 => some (.string ⟨(Lib.itoa od).toArray⟩) | 17 => some (.string ⟨(((((P ++ [114, 101, 97, 100]) ++ [32]) ++ Lib.itoa cl) ++ [32]) ++ Lib.itoa od).toArray⟩) | 18 => some (.string ⟨((((((P ++ [114, 101, 97, 100]) ++ [32]) ++ Lib.itoa cl) ++ [32]) ++ Lib.itoa od) ++ [32]).toArray⟩) | 20 => some (.int .i64 nw) | 21 => some (.string ⟨(Lib.itoa nw).toArray⟩) | 22 => some (.string ⟨(((((((P ++ [114, 101, 97, 100]) ++ [32]) ++ Lib.itoa cl) ++ [32]) ++ Lib.itoa od) ++ [32]) ++ Lib.itoa nw).toArray⟩) | 23 => some (.string ⟨((((((((P ++ [114, 101, 97, 100]) ++ [32]) ++ Lib.itoa cl) ++ [32]) ++ Lib.itoa od) ++ [32]) ++ Lib.itoa nw) ++ [32]).toArray⟩) | 25 => some (.string ⟨(((((((((P ++ [114, 101, 97, 100]) ++ [32]) ++ Lib.itoa cl) ++ [32]) ++ Lib.itoa od) ++ [32]) ++ Lib.itoa nw) ++ [32]) ++ [110, 111]).toArray⟩) | _ => none) (fun i v W => (i = 1 → ∃ z, v = .slice (some ⟨z, 0, none⟩) 4 4 ∧ Blk W z 9 #[.string ⟨#[114, 101, 97, 100]⟩, .string ⟨#[119, 114, 105, 116, 101]⟩, .string ⟨#[115, 119, 97, 112]⟩, .string ⟨#[97, 100, 100]⟩]) ∧ (i = 5 → ∃ z, v = .pointer (some ⟨z, 0, none⟩) ∧ Blk W z 9 #[.string ⟨#[114, 101, 97, 100]⟩, .string ⟨#[119, 114, 105, 116, 101]⟩, .string ⟨#[115, 119, 97, 112]⟩, .string ⟨#[97, 100, 100]⟩]))) Ext #[true, true, true, true, true, true, true, true, true, true, true, true, true, true, true, true, true, true, true, true, true, true, true, true, true, true, false, false] (by decide +kernel) (VF.stab ?_) ?_ ?_ (by first | exact (Ext.rf _).drew | exact Ext.rf _)
            · intro j v W W' _ gz hx
              obtain ⟨g0, g1⟩ := gz
              exact ⟨fun h => (g0 h).imp fun z hz => ⟨hz.1, hz.2.ext hx⟩, fun h => (g1 h).imp fun z hz => ⟨hz.1, hz.2.ext hx⟩⟩
            · intro pS hpm uS wS hRW hD K hK
              simp only [List.mem_cons, List.not_mem_nil, or_false] at hpm
              rcases hpm with rfl | rfl | rfl | rfl | rfl | rfl | rfl | rfl | rfl | rfl | rfl | rfl | rfl | rfl | rfl | rfl | rfl | rfl | rfl | rfl
              · ( exact op_run (op := Op.buildSlice 64 4 #[(0, Operand.const (Value.string { data := #[114, 101, 97, 100] })), (1, Operand.const (Value.string { data := #[119, 114, 105, 116, 101] })), (2, Operand.const (Value.string { data := #[115, 119, 97, 112] })), (3, Operand.const (Value.string { data := #[97, 100, 100] }))]) (t := 64) (d := some 38) rfl _ (by unfold exec2; go_simp; try rfl) (hK _ _ (VF.mg rfl ⟨(fun _ => ⟨_, rfl, .new rfl⟩), (fun h => absurd h (by decide))⟩) (hRW.alloc _) ((Ext.rf _).alloc _)))
              · ( have rX := keepEL hRW zB d1; exact op_ld (T := 3) (x := Operand.tmp 39) (t := 3) (d := some 40) rfl (.pointer (some ⟨w.heap.size, 1, none⟩)) (by kernel_rfl) (.int .i64 1) (by go_simp) (hK _ _ (VF.mk rfl) hRW (Ext.rf _)))
              · (have e3 : uS 3 = .int .i64 1 := (hD 3 (depIn (by kernel_rfl))).k rfl; exact op_run (op := Op.binOp BinOp.sub 3 (Operand.tmp 40) (Operand.const (Value.int IntKind.i64 1)) 3) (t := 3) (d := some 41) rfl (.int .i64 0) (by simp only [putAll, Act.put, List.setIfInBounds_toArray, List.set_cons_zero, List.set_cons_succ]; unfold exec2; (try go_simp); (try simp only [e3]); (try go_simp); (try rfl); (try (exact IntWalk.i64_in _ (by omega)))) (hK _ _ (VF.mk rfl) hRW (Ext.rf _)))
              · (have e4 : uS 4 = .int .i64 0 := (hD 4 (depIn (by kernel_rfl))).k rfl; obtain ⟨z, ez, bz⟩ := ((hD 1 (depIn (by kernel_rfl))).g rfl).1 rfl; exact op_ix (T := 64) (x := Operand.tmp 38) (y := Operand.tmp 41) (t := 0) (d := some 42) rfl (.slice (some ⟨z, 0, none⟩) 4 4) (.int .i64 0) (Eq.trans (b := uS 1) (by kernel_rfl) ez) (Eq.trans (b := uS 4) (by kernel_rfl) e4) (.pointer (some ⟨z, 0, none⟩)) (by go_simp) (hK _ _ (VF.mg rfl ⟨(fun h => absurd h (by decide)), (fun _ => ⟨z, rfl, bz⟩)⟩) hRW (Ext.rf _)))
              · (obtain ⟨z, ez, bz⟩ := ((hD 5 (depIn (by kernel_rfl))).g rfl).2 rfl; have rX : wS.cell? ⟨z, 0, none⟩ = some (.string ⟨([114, 101, 97, 100]).toArray⟩) := bz.cell 0; exact op_ld (T := 9) (x := Operand.tmp 42) (t := 9) (d := some 43) rfl (.pointer (some ⟨z, 0, none⟩)) (Eq.trans (b := uS 5) (by kernel_rfl) ez) (.string ⟨([114, 101, 97, 100]).toArray⟩) (by go_simp) (hK _ _ (VF.mk rfl) hRW (Ext.rf _)))
              · (have e6 : uS 6 = .string ⟨([114, 101, 97, 100]).toArray⟩ := (hD 6 (depIn (by kernel_rfl))).k rfl; exact op_cat (t := 9) (d := some 44) rfl (P) ([114, 101, 97, 100]) (by kernel_rfl) (Eq.trans (b := uS 6) (by kernel_rfl) e6) (by simp only [List.length_append, List.length_cons, List.length_nil]; omega) (hK _ _ (VF.mk rfl) hRW (Ext.rf _)))
              · (have e7 : uS 7 = .string ⟨(P ++ [114, 101, 97, 100]).toArray⟩ := (hD 7 (depIn (by kernel_rfl))).k rfl; exact op_cat (t := 9) (d := some 45) rfl ((P ++ [114, 101, 97, 100])) ([32]) (Eq.trans (b := uS 7) (by kernel_rfl) e7) (by kernel_rfl) (by simp only [List.length_append, List.length_cons, List.length_nil]; omega) (hK _ _ (VF.mk rfl) hRW (Ext.rf _)))
              · ( have rX := keepEL hRW zB d2; exact op_ld (T := 3) (x := Operand.tmp 46) (t := 3) (d := some 47) rfl (.pointer (some ⟨w.heap.size, 2, none⟩)) (by kernel_rfl) (.int .i64 cl) (by go_simp) (hK _ _ (VF.mk rfl) hRW (Ext.rf _)))
              · (have e10 : uS 10 = .int .i64 cl := (hD 10 (depIn (by kernel_rfl))).k rfl; exact op_call (f := 29) (xs := #[Operand.tmp 47]) (ts := #[3]) (t := 9) (d := some 48) rfl #[.int .i64 cl] (by go_simp) (Eq.trans (b := #[uS 10]) (by kernel_rfl) (by rw [e10])) _ (rwrite_any cl h3.1 h3.2 _) (by rintro e w9 ⟨rfl, xx⟩; exact ⟨_, rfl, hK _ _ (VF.mk rfl) (hRW.tr xx) xx⟩))
              · (have e8 : uS 8 = .string ⟨((P ++ [114, 101, 97, 100]) ++ [32]).toArray⟩ := (hD 8 (depIn (by kernel_rfl))).k rfl; have e11 : uS 11 = .string ⟨(Lib.itoa cl).toArray⟩ := (hD 11 (depIn (by kernel_rfl))).k rfl; exact op_cat (t := 9) (d := some 49) rfl (((P ++ [114, 101, 97, 100]) ++ [32])) (Lib.itoa cl) (Eq.trans (b := uS 8) (by kernel_rfl) e8) (Eq.trans (b := uS 11) (by kernel_rfl) e11) (by simp only [List.length_append, List.length_cons, List.length_nil]; omega) (hK _ _ (VF.mk rfl) hRW (Ext.rf _)))
              · (have e12 : uS 12 = .string ⟨(((P ++ [114, 101, 97, 100]) ++ [32]) ++ Lib.itoa cl).toArray⟩ := (hD 12 (depIn (by kernel_rfl))).k rfl; exact op_cat (t := 9) (d := some 50) rfl ((((P ++ [114, 101, 97, 100]) ++ [32]) ++ Lib.itoa cl)) ([32]) (Eq.trans (b := uS 12) (by kernel_rfl) e12) (by kernel_rfl) (by simp only [List.length_append, List.length_cons, List.length_nil]; omega) (hK _ _ (VF.mk rfl) hRW (Ext.rf _)))
              · ( have rX := keepEL hRW zB d3; exact op_ld (T := 3) (x := Operand.tmp 51) (t := 3) (d := some 52) rfl (.pointer (some ⟨w.heap.size, 3, none⟩)) (by kernel_rfl) (.int .i64 od) (by go_simp) (hK _ _ (VF.mk rfl) hRW (Ext.rf _)))
              · (have e15 : uS 15 = .int .i64 od := (hD 15 (depIn (by kernel_rfl))).k rfl; exact op_call (f := 29) (xs := #[Operand.tmp 52]) (ts := #[3]) (t := 9) (d := some 53) rfl #[.int .i64 od] (by go_simp) (Eq.trans (b := #[uS 15]) (by kernel_rfl) (by rw [e15])) _ (rwrite_any od h4.1 h4.2 _) (by rintro e w9 ⟨rfl, xx⟩; exact ⟨_, rfl, hK _ _ (VF.mk rfl) (hRW.tr xx) xx⟩))
              · (have e13 : uS 13 = .string ⟨((((P ++ [114, 101, 97, 100]) ++ [32]) ++ Lib.itoa cl) ++ [32]).toArray⟩ := (hD 13 (depIn (by kernel_rfl))).k rfl; have e16 : uS 16 = .string ⟨(Lib.itoa od).toArray⟩ := (hD 16 (depIn (by kernel_rfl))).k rfl; exact op_cat (t := 9) (d := some 54) rfl (((((P ++ [114, 101, 97, 100]) ++ [32]) ++ Lib.itoa cl) ++ [32])) (Lib.itoa od) (Eq.trans (b := uS 13) (by kernel_rfl) e13) (Eq.trans (b := uS 16) (by kernel_rfl) e16) (by simp only [List.length_append, List.length_cons, List.length_nil]; omega) (hK _ _ (VF.mk rfl) hRW (Ext.rf _)))
              · (have e17 : uS 17 = .string ⟨(((((P ++ [114, 101, 97, 100]) ++ [32]) ++ Lib.itoa cl) ++ [32]) ++ Lib.itoa od).toArray⟩ := (hD 17 (depIn (by kernel_rfl))).k rfl; exact op_cat (t := 9) (d := some 55) rfl ((((((P ++ [114, 101, 97, 100]) ++ [32]) ++ Lib.itoa cl) ++ [32]) ++ Lib.itoa od)) ([32]) (Eq.trans (b := uS 17) (by kernel_rfl) e17) (by kernel_rfl) (by simp only [List.length_append, List.length_cons, List.length_nil]; omega) (hK _ _ (VF.mk rfl) hRW (Ext.rf _)))
              · ( have rX := keepEL hRW zB d4; exact op_ld (T := 3) (x := Operand.tmp 56) (t := 3) (d := some 57) rfl (.pointer (some ⟨w.heap.size, 4, none⟩)) (by kernel_rfl) (.int .i64 nw) (by go_simp) (hK _ _ (VF.mk rfl) hRW (Ext.rf _)))
              · (have e20 : uS 20 = .int .i64 nw := (hD 20 (depIn (by kernel_rfl))).k rfl; exact op_call (f := 29) (xs := #[Operand.tmp 57]) (ts := #[3]) (t := 9) (d := some 58) rfl #[.int .i64 nw] (by go_simp) (Eq.trans (b := #[uS 20]) (by kernel_rfl) (by rw [e20])) _ (rwrite_any nw h5.1 h5.2 _) (by rintro e w9 ⟨rfl, xx⟩; exact ⟨_, rfl, hK _ _ (VF.mk rfl) (hRW.tr xx) xx⟩))
              · (have e18 : uS 18 = .string ⟨((((((P ++ [114, 101, 97, 100]) ++ [32]) ++ Lib.itoa cl) ++ [32]) ++ Lib.itoa od) ++ [32]).toArray⟩ := (hD 18 (depIn (by kernel_rfl))).k rfl; have e21 : uS 21 = .string ⟨(Lib.itoa nw).toArray⟩ := (hD 21 (depIn (by kernel_rfl))).k rfl; exact op_cat (t := 9) (d := some 59) rfl (((((((P ++ [114, 101, 97, 100]) ++ [32]) ++ Lib.itoa cl) ++ [32]) ++ Lib.itoa od) ++ [32])) (Lib.itoa nw) (Eq.trans (b := uS 18) (by kernel_rfl) e18) (Eq.trans (b := uS 21) (by kernel_rfl) e21) (by simp only [List.length_append, List.length_cons, List.length_nil]; omega) (hK _ _ (VF.mk rfl) hRW (Ext.rf _)))
              · (have e22 : uS 22 = .string ⟨(((((((P ++ [114, 101, 97, 100]) ++ [32]) ++ Lib.itoa cl) ++ [32]) ++ Lib.itoa od) ++ [32]) ++ Lib.itoa nw).toArray⟩ := (hD 22 (depIn (by kernel_rfl))).k rfl; exact op_cat (t := 9) (d := some 60) rfl ((((((((P ++ [114, 101, 97, 100]) ++ [32]) ++ Lib.itoa cl) ++ [32]) ++ Lib.itoa od) ++ [32]) ++ Lib.itoa nw)) ([32]) (Eq.trans (b := uS 22) (by kernel_rfl) e22) (by kernel_rfl) (by simp only [List.length_append, List.length_cons, List.length_nil]; omega) (hK _ _ (VF.mk rfl) hRW (Ext.rf _)))
              · (have e23 : uS 23 = .string ⟨((((((((P ++ [114, 101, 97, 100]) ++ [32]) ++ Lib.itoa cl) ++ [32]) ++ Lib.itoa od) ++ [32]) ++ Lib.itoa nw) ++ [32]).toArray⟩ := (hD 23 (depIn (by kernel_rfl))).k rfl; exact op_cat (t := 9) (d := some 62) rfl (((((((((P ++ [114, 101, 97, 100]) ++ [32]) ++ Lib.itoa cl) ++ [32]) ++ Lib.itoa od) ++ [32]) ++ Lib.itoa nw) ++ [32])) ([110, 111]) (Eq.trans (b := uS 23) (by kernel_rfl) e23) (by kernel_rfl) (by simp only [List.length_append, List.length_cons, List.length_nil]; omega) (hK _ _ (VF.mk rfl) hRW (Ext.rf _)))
            intro u w3 hR3 hV
            have h3 := (hV (3, some 40) (by simp)).k rfl
            have h4 := (hV (4, some 41) (by simp)).k rfl
            have h6 := (hV (6, some 43) (by simp)).k rfl
            have h7 := (hV (7, some 44) (by simp)).k rfl
            have h8 := (hV (8, some 45) (by simp)).k rfl
            have h10 := (hV (10, some 47) (by simp)).k rfl
            have h11 := (hV (11, some 48) (by simp)).k rfl
            have h12 := (hV (12, some 49) (by simp)).k rfl
            have h13 := (hV (13, some 50) (by simp)).k rfl
            have h15 := (hV (15, some 52) (by simp)).k rfl
            have h16 := (hV (16, some 53) (by simp)).k rfl
            have h17 := (hV (17, some 54) (by simp)).k rfl
            have h18 := (hV (18, some 55) (by simp)).k rfl
            have h20 := (hV (20, some 57) (by simp)).k rfl
            have h21 := (hV (21, some 58) (by simp)).k rfl
            have h22 := (hV (22, some 59) (by simp)).k rfl
            have h23 := (hV (23, some 60) (by simp)).k rfl
            have h25 := (hV (25, some 62) (by simp)).k rfl
            simp only [putAll, h3, h4, h6, h7, h8, h10, h11, h12, h13, h15, h16, h17, h18, h20, h21, h22, h23, h25]
            clear hV h3 h4 h6 h7 h8 h10 h11 h12 h13 h15 h16 h17 h18 h20 h21 h22 h23 h25
            try simp only [Act.put, List.setIfInBounds_toArray, List.set_cons_zero, List.set_cons_succ]
            have X3 := Lib.hid (X2.out.tr hR3)
            clear hR3
            try simp only [Act.put, List.setIfInBounds_toArray, List.set_cons_zero, List.set_cons_succ]
            refine wpAny_T (i := 26) (op := Op.assign (Operand.tmp 62)) (t := 9) (d := some 2) (v := ?_) rfl (by decide +kernel) (by decide +kernel) (by decide +kernel) (fun _ _ _ h => h) ?_ ?_
            case refine_2 => (intro _; unfold exec2; go_simp; try with_reducible rfl)
            try simp only [Act.put, List.setIfInBounds_toArray, List.set_cons_zero, List.set_cons_succ]
            refine wpAny_T (i := 27) (op := Op.assign (Operand.const (Value.bool true))) (t := 4) (d := some 3) (v := ?_) rfl (by decide +kernel) (by decide +kernel) (by decide +kernel) (fun _ _ _ h => h) ?_ ?_
            case refine_2 => (intro _; unfold exec2; go_simp; try with_reducible rfl)
            try simp only [Act.put, List.setIfInBounds_toArray, List.set_cons_zero, List.set_cons_succ]
            refine wpAny_done (by kernel_rfl) ?_ _
            go_simp
            go_wp2_with (fail)
            go_ret2
            rw [hl.out]
            exact ⟨by simp [txS, kindT, yesT, tRead, tWrite, tSwap, tAdd], X3.out⟩
        · cases dn with
          | true =>
            go_wp2_with (fail)
            refine wp_region_any (by kernel_rfl) ?_
            change wpAny _ _ _ _ _ _ _ (World.drew _)
            refine wpAny_T (i := 0) (op := Op.move (Operand.tmp 4)) (t := 9) (d := some 37) (v := ?_) rfl (by decide +kernel) (by decide +kernel) (by decide +kernel) (fun _ _ _ h => h) ?_ ?_
            case refine_2 => (intro _; unfold exec2; go_simp; try with_reducible rfl)
            try simp only [Act.put, List.setIfInBounds_toArray, List.set_cons_zero, List.set_cons_succ]
            refine wpAny_T (i := 2) (op := Op.fieldAddr 39 (Operand.tmp 1) 1) (t := 0) (d := some 39) (v := ?_) rfl (by decide +kernel) (by decide +kernel) (by decide +kernel) (fun _ _ _ h => h) ?_ ?_
            case refine_2 => (intro _; unfold exec2; go_simp; try with_reducible rfl)
            try simp only [Act.put, List.setIfInBounds_toArray, List.set_cons_zero, List.set_cons_succ]
            refine wpAny_T (i := 9) (op := Op.fieldAddr 39 (Operand.tmp 1) 2) (t := 0) (d := some 46) (v := ?_) rfl (by decide +kernel) (by decide +kernel) (by decide +kernel) (fun _ _ _ h => h) ?_ ?_
            case refine_2 => (intro _; unfold exec2; go_simp; try with_reducible rfl)
            try simp only [Act.put, List.setIfInBounds_toArray, List.set_cons_zero, List.set_cons_succ]
            refine wpAny_T (i := 14) (op := Op.fieldAddr 39 (Operand.tmp 1) 3) (t := 0) (d := some 51) (v := ?_) rfl (by decide +kernel) (by decide +kernel) (by decide +kernel) (fun _ _ _ h => h) ?_ ?_
            case refine_2 => (intro _; unfold exec2; go_simp; try with_reducible rfl)
            try simp only [Act.put, List.setIfInBounds_toArray, List.set_cons_zero, List.set_cons_succ]
            refine wpAny_T (i := 19) (op := Op.fieldAddr 39 (Operand.tmp 1) 4) (t := 0) (d := some 56) (v := ?_) rfl (by decide +kernel) (by decide +kernel) (by decide +kernel) (fun _ _ _ h => h) ?_ ?_
            case refine_2 => (intro _; unfold exec2; go_simp; try with_reducible rfl)
            try simp only [Act.put, List.setIfInBounds_toArray, List.set_cons_zero, List.set_cons_succ]
            refine wpAny_T (i := 24) (op := Op.move (Operand.tmp 5)) (t := 9) (d := some 61) (v := ?_) rfl (by decide +kernel) (by decide +kernel) (by decide +kernel) (fun _ _ _ h => h) ?_ ?_
            case refine_2 => (intro _; unfold exec2; go_simp; try with_reducible rfl)
            try simp only [Act.put, List.setIfInBounds_toArray, List.set_cons_zero, List.set_cons_succ]
            refine wpAny_core2 (n := 2) [(1, some 38), (3, some 40), (4, some 41), (5, some 42), (6, some 43), (7, some 44), (8, some 45), (10, some 47), (11, some 48), (12, some 49), (13, some 50), (15, some 52), (16, some 53), (17, some 54), (18, some 55), (20, some 57), (21, some 58), (22, some 59), (23, some 60), (25, some 62)] (Ext w2) (VF (fun | 3 => some (.int .i64 2) | 4 => some (.int .i64 1) | 6 => some (.string ⟨([119, 114, 105, 116, 101]).toArray⟩) | 7 => some (.string ⟨(P ++ [119, 114, 105, 116, 101]).toArray⟩) | 8 => some (.string ⟨((P ++ [119, 114, 105, 116, 101]) ++ [32]).toArray⟩) | 10 => some (.int .i64 cl) | 11 => some (.string ⟨(Lib.itoa cl).toArray⟩) | 12 => some (.string ⟨(((P ++ [119, 114, 105, 116, 101]) ++ [32]) ++ Lib.itoa cl).toArray⟩) | 13 => some (.string ⟨((((P ++ [119, 114, 105, 116, 101]) ++ [32]) ++ Lib.itoa cl) ++ [32]).toArray⟩) | 15 => some (.int .i64 od) | 16 => some (.string ⟨(Lib.itoa od).toArray⟩) | 17 => some (.string ⟨(((((P ++ [119, 114, 105, 116, 101]) ++ [32]) ++ Lib.itoa cl) ++ [32]) ++ Lib.itoa od).toArray⟩) | 18 => some (.string ⟨((((((P ++ [119, 114, 105, 116, 101]) ++ [32]) ++ Lib.itoa cl) ++ [32]) ++ Lib.itoa od) ++ [32]).toArray⟩) | 20 => some (.int .i64 nw) | 21 => some (.string ⟨(Lib.itoa nw).toArray⟩) | 22 => some (.string ⟨(((((((P ++ [119, 114, 105, 116, 101]) ++ [32]) ++ Lib.itoa cl) ++ [32]) ++ Lib.itoa od) ++ [32]) ++ Lib.itoa nw).toArray⟩) | 23 => some (.string ⟨((((((((P ++ [119, 114, 105, 116, 101]) ++ [32]) ++ Lib.itoa cl) ++ [32]) ++ Lib.itoa od) ++ [32]) ++ Lib.itoa nw) ++ [32]).toArray⟩) | 25 => some (.string ⟨(((((((((P ++ [119, 114, 105, 116, 101]) ++ [32]) ++ Lib.itoa cl) ++ [32]) ++ Lib.itoa od) ++ [32]) ++ Lib.itoa nw) ++ [32]) ++ [121, 101, 115]).toArray⟩) | _ => none) (fun i v W => (i = 1 → ∃ z, v = .slice (some ⟨z, 0, none⟩) 4 4 ∧ Blk W z 9 #[.string ⟨#[114, 101, 97, 100]⟩, .string ⟨#[119, 114, 105, 116, 101]⟩, .string ⟨#[115, 119, 97, 112]⟩, .string ⟨#[97, 100, 100]⟩]) ∧ (i = 5 → ∃ z, v = .pointer (some ⟨z, 1, none⟩) ∧ Blk W z 9 #[.string ⟨#[114, 101, 97, 100]⟩, .string ⟨#[119, 114, 105, 116, 101]⟩, .string ⟨#[115, 119, 97, 112]⟩, .string ⟨#[97, 100, 100]⟩]))) Ext #[true, true, true, true, true, true, true, true, true, true, true, true, true, true, true, true, true, true, true, true, true, true, true, true, true, true, false, false] (by decide +kernel) (VF.stab ?_) ?_ ?_ (by first | exact (Ext.rf _).drew | exact Ext.rf _)
            · intro j v W W' _ gz hx
              obtain ⟨g0, g1⟩ := gz
              exact ⟨fun h => (g0 h).imp fun z hz => ⟨hz.1, hz.2.ext hx⟩, fun h => (g1 h).imp fun z hz => ⟨hz.1, hz.2.ext hx⟩⟩
            · intro pS hpm uS wS hRW hD K hK
              simp only [List.mem_cons, List.not_mem_nil, or_false] at hpm
              rcases hpm with rfl | rfl | rfl | rfl | rfl | rfl | rfl | rfl | rfl | rfl | rfl | rfl | rfl | rfl | rfl | rfl | rfl | rfl | rfl | rfl
              · ( exact op_run (op := Op.buildSlice 64 4 #[(0, Operand.const (Value.string { data := #[114, 101, 97, 100] })), (1, Operand.const (Value.string { data := #[119, 114, 105, 116, 101] })), (2, Operand.const (Value.string { data := #[115, 119, 97, 112] })), (3, Operand.const (Value.string { data := #[97, 100, 100] }))]) (t := 64) (d := some 38) rfl _ (by unfold exec2; go_simp; try rfl) (hK _ _ (VF.mg rfl ⟨(fun _ => ⟨_, rfl, .new rfl⟩), (fun h => absurd h (by decide))⟩) (hRW.alloc _) ((Ext.rf _).alloc _)))
              · ( have rX := keepEL hRW zB d1; exact op_ld (T := 3) (x := Operand.tmp 39) (t := 3) (d := some 40) rfl (.pointer (some ⟨w.heap.size, 1, none⟩)) (by kernel_rfl) (.int .i64 2) (by go_simp) (hK _ _ (VF.mk rfl) hRW (Ext.rf _)))
              · (have e3 : uS 3 = .int .i64 2 := (hD 3 (depIn (by kernel_rfl))).k rfl; exact op_run (op := Op.binOp BinOp.sub 3 (Operand.tmp 40) (Operand.const (Value.int IntKind.i64 1)) 3) (t := 3) (d := some 41) rfl (.int .i64 1) (by simp only [putAll, Act.put, List.setIfInBounds_toArray, List.set_cons_zero, List.set_cons_succ]; unfold exec2; (try go_simp); (try simp only [e3]); (try go_simp); (try rfl); (try (exact IntWalk.i64_in _ (by omega)))) (hK _ _ (VF.mk rfl) hRW (Ext.rf _)))
              · (have e4 : uS 4 = .int .i64 1 := (hD 4 (depIn (by kernel_rfl))).k rfl; obtain ⟨z, ez, bz⟩ := ((hD 1 (depIn (by kernel_rfl))).g rfl).1 rfl; exact op_ix (T := 64) (x := Operand.tmp 38) (y := Operand.tmp 41) (t := 0) (d := some 42) rfl (.slice (some ⟨z, 0, none⟩) 4 4) (.int .i64 1) (Eq.trans (b := uS 1) (by kernel_rfl) ez) (Eq.trans (b := uS 4) (by kernel_rfl) e4) (.pointer (some ⟨z, 1, none⟩)) (by go_simp) (hK _ _ (VF.mg rfl ⟨(fun h => absurd h (by decide)), (fun _ => ⟨z, rfl, bz⟩)⟩) hRW (Ext.rf _)))
              · (obtain ⟨z, ez, bz⟩ := ((hD 5 (depIn (by kernel_rfl))).g rfl).2 rfl; have rX : wS.cell? ⟨z, 1, none⟩ = some (.string ⟨([119, 114, 105, 116, 101]).toArray⟩) := bz.cell 1; exact op_ld (T := 9) (x := Operand.tmp 42) (t := 9) (d := some 43) rfl (.pointer (some ⟨z, 1, none⟩)) (Eq.trans (b := uS 5) (by kernel_rfl) ez) (.string ⟨([119, 114, 105, 116, 101]).toArray⟩) (by go_simp) (hK _ _ (VF.mk rfl) hRW (Ext.rf _)))
              · (have e6 : uS 6 = .string ⟨([119, 114, 105, 116, 101]).toArray⟩ := (hD 6 (depIn (by kernel_rfl))).k rfl; exact op_cat (t := 9) (d := some 44) rfl (P) ([119, 114, 105, 116, 101]) (by kernel_rfl) (Eq.trans (b := uS 6) (by kernel_rfl) e6) (by simp only [List.length_append, List.length_cons, List.length_nil]; omega) (hK _ _ (VF.mk rfl) hRW (Ext.rf _)))
              · (have e7 : uS 7 = .string ⟨(P ++ [119, 114, 105, 116, 101]).toArray⟩ := (hD 7 (depIn (by kernel_rfl))).k rfl; exact op_cat (t := 9) (d := some 45) rfl ((P ++ [119, 114, 105, 116, 101])) ([32]) (Eq.trans (b := uS 7) (by kernel_rfl) e7) (by kernel_rfl) (by simp only [List.length_append, List.length_cons, List.length_nil]; omega) (hK _ _ (VF.mk rfl) hRW (Ext.rf _)))
              · ( have rX := keepEL hRW zB d2; exact op_ld (T := 3) (x := Operand.tmp 46) (t := 3) (d := some 47) rfl (.pointer (some ⟨w.heap.size, 2, none⟩)) (by kernel_rfl) (.int .i64 cl) (by go_simp) (hK _ _ (VF.mk rfl) hRW (Ext.rf _)))
              · (have e10 : uS 10 = .int .i64 cl := (hD 10 (depIn (by kernel_rfl))).k rfl; exact op_call (f := 29) (xs := #[Operand.tmp 47]) (ts := #[3]) (t := 9) (d := some 48) rfl #[.int .i64 cl] (by go_simp) (Eq.trans (b := #[uS 10]) (by kernel_rfl) (by rw [e10])) _ (rwrite_any cl h3.1 h3.2 _) (by rintro e w9 ⟨rfl, xx⟩; exact ⟨_, rfl, hK _ _ (VF.mk rfl) (hRW.tr xx) xx⟩))
              · (have e8 : uS 8 = .string ⟨((P ++ [119, 114, 105, 116, 101]) ++ [32]).toArray⟩ := (hD 8 (depIn (by kernel_rfl))).k rfl; have e11 : uS 11 = .string ⟨(Lib.itoa cl).toArray⟩ := (hD 11 (depIn (by kernel_rfl))).k rfl; exact op_cat (t := 9) (d := some 49) rfl (((P ++ [119, 114, 105, 116, 101]) ++ [32])) (Lib.itoa cl) (Eq.trans (b := uS 8) (by kernel_rfl) e8) (Eq.trans (b := uS 11) (by kernel_rfl) e11) (by simp only [List.length_append, List.length_cons, List.length_nil]; omega) (hK _ _ (VF.mk rfl) hRW (Ext.rf _)))
              · (have e12 : uS 12 = .string ⟨(((P ++ [119, 114, 105, 116, 101]) ++ [32]) ++ Lib.itoa cl).toArray⟩ := (hD 12 (depIn (by kernel_rfl))).k rfl; exact op_cat (t := 9) (d := some 50) rfl ((((P ++ [119, 114, 105, 116, 101]) ++ [32]) ++ Lib.itoa cl)) ([32]) (Eq.trans (b := uS 12) (by kernel_rfl) e12) (by kernel_rfl) (by simp only [List.length_append, List.length_cons, List.length_nil]; omega) (hK _ _ (VF.mk rfl) hRW (Ext.rf _)))
              · ( have rX := keepEL hRW zB d3; exact op_ld (T := 3) (x := Operand.tmp 51) (t := 3) (d := some 52) rfl (.pointer (some ⟨w.heap.size, 3, none⟩)) (by kernel_rfl) (.int .i64 od) (by go_simp) (hK _ _ (VF.mk rfl) hRW (Ext.rf _)))
              · (have e15 : uS 15 = .int .i64 od := (hD 15 (depIn (by kernel_rfl))).k rfl; exact op_call (f := 29) (xs := #[Operand.tmp 52]) (ts := #[3]) (t := 9) (d := some 53) rfl #[.int .i64 od] (by go_simp) (Eq.trans (b := #[uS 15]) (by kernel_rfl) (by rw [e15])) _ (rwrite_any od h4.1 h4.2 _) (by rintro e w9 ⟨rfl, xx⟩; exact ⟨_, rfl, hK _ _ (VF.mk rfl) (hRW.tr xx) xx⟩))
              · (have e13 : uS 13 = .string ⟨((((P ++ [119, 114, 105, 116, 101]) ++ [32]) ++ Lib.itoa cl) ++ [32]).toArray⟩ := (hD 13 (depIn (by kernel_rfl))).k rfl; have e16 : uS 16 = .string ⟨(Lib.itoa od).toArray⟩ := (hD 16 (depIn (by kernel_rfl))).k rfl; exact op_cat (t := 9) (d := some 54) rfl (((((P ++ [119, 114, 105, 116, 101]) ++ [32]) ++ Lib.itoa cl) ++ [32])) (Lib.itoa od) (Eq.trans (b := uS 13) (by kernel_rfl) e13) (Eq.trans (b := uS 16) (by kernel_rfl) e16) (by simp only [List.length_append, List.length_cons, List.length_nil]; omega) (hK _ _ (VF.mk rfl) hRW (Ext.rf _)))
              · (have e17 : uS 17 = .string ⟨(((((P ++ [119, 114, 105, 116, 101]) ++ [32]) ++ Lib.itoa cl) ++ [32]) ++ Lib.itoa od).toArray⟩ := (hD 17 (depIn (by kernel_rfl))).k rfl; exact op_cat (t := 9) (d := some 55) rfl ((((((P ++ [119, 114, 105, 116, 101]) ++ [32]) ++ Lib.itoa cl) ++ [32]) ++ Lib.itoa od)) ([32]) (Eq.trans (b := uS 17) (by kernel_rfl) e17) (by kernel_rfl) (by simp only [List.length_append, List.length_cons, List.length_nil]; omega) (hK _ _ (VF.mk rfl) hRW (Ext.rf _)))
              · ( have rX := keepEL hRW zB d4; exact op_ld (T := 3) (x := Operand.tmp 56) (t := 3) (d := some 57) rfl (.pointer (some ⟨w.heap.size, 4, none⟩)) (by kernel_rfl) (.int .i64 nw) (by go_simp) (hK _ _ (VF.mk rfl) hRW (Ext.rf _)))
              · (have e20 : uS 20 = .int .i64 nw := (hD 20 (depIn (by kernel_rfl))).k rfl; exact op_call (f := 29) (xs := #[Operand.tmp 57]) (ts := #[3]) (t := 9) (d := some 58) rfl #[.int .i64 nw] (by go_simp) (Eq.trans (b := #[uS 20]) (by kernel_rfl) (by rw [e20])) _ (rwrite_any nw h5.1 h5.2 _) (by rintro e w9 ⟨rfl, xx⟩; exact ⟨_, rfl, hK _ _ (VF.mk rfl) (hRW.tr xx) xx⟩))
              · (have e18 : uS 18 = .string ⟨((((((P ++ [119, 114, 105, 116, 101]) ++ [32]) ++ Lib.itoa cl) ++ [32]) ++ Lib.itoa od) ++ [32]).toArray⟩ := (hD 18 (depIn (by kernel_rfl))).k rfl; have e21 : uS 21 = .string ⟨(Lib.itoa nw).toArray⟩ := (hD 21 (depIn (by kernel_rfl))).k rfl; exact op_cat (t := 9) (d := some 59) rfl (((((((P ++ [119, 114, 105, 116, 101]) ++ [32]) ++ Lib.itoa cl) ++ [32]) ++ Lib.itoa od) ++ [32])) (Lib.itoa nw) (Eq.trans (b := uS 18) (by kernel_rfl) e18) (Eq.trans (b := uS 21) (by kernel_rfl) e21) (by simp only [List.length_append, List.length_cons, List.length_nil]; omega) (hK _ _ (VF.mk rfl) hRW (Ext.rf _)))
              · (have e22 : uS 22 = .string ⟨(((((((P ++ [119, 114, 105, 116, 101]) ++ [32]) ++ Lib.itoa cl) ++ [32]) ++ Lib.itoa od) ++ [32]) ++ Lib.itoa nw).toArray⟩ := (hD 22 (depIn (by kernel_rfl))).k rfl; exact op_cat (t := 9) (d := some 60) rfl ((((((((P ++ [119, 114, 105, 116, 101]) ++ [32]) ++ Lib.itoa cl) ++ [32]) ++ Lib.itoa od) ++ [32]) ++ Lib.itoa nw)) ([32]) (Eq.trans (b := uS 22) (by kernel_rfl) e22) (by kernel_rfl) (by simp only [List.length_append, List.length_cons, List.length_nil]; omega) (hK _ _ (VF.mk rfl) hRW (Ext.rf _)))
              · (have e23 : uS 23 = .string ⟨((((((((P ++ [119, 114, 105, 116, 101]) ++ [32]) ++ Lib.itoa cl) ++ [32]) ++ Lib.itoa od) ++ [32]) ++ Lib.itoa nw) ++ [32]).toArray⟩ := (hD 23 (depIn (by kernel_rfl))).k rfl; exact op_cat (t := 9) (d := some 62) rfl (((((((((P ++ [119, 114, 105, 116, 101]) ++ [32]) ++ Lib.itoa cl) ++ [32]) ++ Lib.itoa od) ++ [32]) ++ Lib.itoa nw) ++ [32])) ([121, 101, 115]) (Eq.trans (b := uS 23) (by kernel_rfl) e23) (by kernel_rfl) (by simp only [List.length_append, List.length_cons, List.length_nil]; omega) (hK _ _ (VF.mk rfl) hRW (Ext.rf _)))
            intro u w3 hR3 hV
            have h3 := (hV (3, some 40) (by simp)).k rfl
            have h4 := (hV (4, some 41) (by simp)).k rfl
            have h6 := (hV (6, some 43) (by simp)).k rfl
            have h7 := (hV (7, some 44) (by simp)).k rfl
            have h8 := (hV (8, some 45) (by simp)).k rfl
            have h10 := (hV (10, some 47) (by simp)).k rfl
            have h11 := (hV (11, some 48) (by simp)).k rfl
            have h12 := (hV (12, some 49) (by simp)).k rfl
            have h13 := (hV (13, some 50) (by simp)).k rfl
            have h15 := (hV (15, some 52) (by simp)).k rfl
            have h16 := (hV (16, some 53) (by simp)).k rfl
            have h17 := (hV (17, some 54) (by simp)).k rfl
            have h18 := (hV (18, some 55) (by simp)).k rfl
            have h20 := (hV (20, some 57) (by simp)).k rfl
            have h21 := (hV (21, some 58) (by simp)).k rfl
            have h22 := (hV (22, some 59) (by simp)).k rfl
            have h23 := (hV (23, some 60) (by simp)).k rfl
            have h25 := (hV (25, some 62) (by simp)).k rfl
            simp only [putAll, h3, h4, h6, h7, h8, h10, h11, h12, h13, h15, h16, h17, h18, h20, h21, h22, h23, h25]
            clear hV h3 h4 h6 h7 h8 h10 h11 h12 h13 h15 h16 h17 h18 h20 h21 h22 h23 h25
            try simp only [Act.put, List.setIfInBounds_toArray, List.set_cons_zero, List.set_cons_succ]
            have X3 := Lib.hid (X2.out.tr hR3)
            clear hR3
            try simp only [Act.put, List.setIfInBounds_toArray, List.set_cons_zero, List.set_cons_succ]
            refine wpAny_T (i := 26) (op := Op.assign (Operand.tmp 62)) (t := 9) (d := some 2) (v := ?_) rfl (by decide +kernel) (by decide +kernel) (by decide +kernel) (fun _ _ _ h => h) ?_ ?_
            case refine_2 => (intro _; unfold exec2; go_simp; try with_reducible rfl)
            try simp only [Act.put, List.setIfInBounds_toArray, List.set_cons_zero, List.set_cons_succ]
            refine wpAny_T (i := 27) (op := Op.assign (Operand.const (Value.bool true))) (t := 4) (d := some 3) (v := ?_) rfl (by decide +kernel) (by decide +kernel) (by decide +kernel) (fun _ _ _ h => h) ?_ ?_
            case refine_2 => (intro _; unfold exec2; go_simp; try with_reducible rfl)
            try simp only [Act.put, List.setIfInBounds_toArray, List.set_cons_zero, List.set_cons_succ]
            refine wpAny_done (by kernel_rfl) ?_ _
            go_simp
            go_wp2_with (fail)
            go_ret2
            rw [hl.out]
            exact ⟨by simp [txS, kindT, yesT, tRead, tWrite, tSwap, tAdd], X3.out⟩
          | false =>
            go_wp2_with (fail)
            refine wp_region_any (by kernel_rfl) ?_
            change wpAny _ _ _ _ _ _ _ (World.drew _)
            refine wpAny_T (i := 0) (op := Op.move (Operand.tmp 4)) (t := 9) (d := some 37) (v := ?_) rfl (by decide +kernel) (by decide +kernel) (by decide +kernel) (fun _ _ _ h => h) ?_ ?_
            case refine_2 => (intro _; unfold exec2; go_simp; try with_reducible rfl)
            try simp only [Act.put, List.setIfInBounds_toArray, List.set_cons_zero, List.set_cons_succ]
            refine wpAny_T (i := 2) (op := Op.fieldAddr 39 (Operand.tmp 1) 1) (t := 0) (d := some 39) (v := ?_) rfl (by decide +kernel) (by decide +kernel) (by decide +kernel) (fun _ _ _ h => h) ?_ ?_
            case refine_2 => (intro _; unfold exec2; go_simp; try with_reducible rfl)
            try simp only [Act.put, List.setIfInBounds_toArray, List.set_cons_zero, List.set_cons_succ]
            refine wpAny_T (i := 9) (op := Op.fieldAddr 39 (Operand.tmp 1) 2) (t := 0) (d := some 46) (v := ?_) rfl (by decide +kernel) (by decide +kernel) (by decide +kernel) (fun _ _ _ h => h) ?_ ?_
            case refine_2 => (intro _; unfold exec2; go_simp; try with_reducible rfl)
            try simp only [Act.put, List.setIfInBounds_toArray, List.set_cons_zero, List.set_cons_succ]
            refine wpAny_T (i := 14) (op := Op.fieldAddr 39 (Operand.tmp 1) 3) (t := 0) (d := some 51) (v := ?_) rfl (by decide +kernel) (by decide +kernel) (by decide +kernel) (fun _ _ _ h => h) ?_ ?_
            case refine_2 => (intro _; unfold exec2; go_simp; try with_reducible rfl)
            try simp only [Act.put, List.setIfInBounds_toArray, List.set_cons_zero, List.set_cons_succ]
            refine wpAny_T (i := 19) (op := Op.fieldAddr 39 (Operand.tmp 1) 4) (t := 0) (d := some 56) (v := ?_) rfl (by decide +kernel) (by decide +kernel) (by decide +kernel) (fun _ _ _ h => h) ?_ ?_
            case refine_2 => (intro _; unfold exec2; go_simp; try with_reducible rfl)
            try simp only [Act.put, List.setIfInBounds_toArray, List.set_cons_zero, List.set_cons_succ]
            refine wpAny_T (i := 24) (op := Op.move (Operand.tmp 5)) (t := 9) (d := some 61) (v := ?_) rfl (by decide +kernel) (by decide +kernel) (by decide +kernel) (fun _ _ _ h => h) ?_ ?_
            case refine_2 => (intro _; unfold exec2; go_simp; try with_reducible rfl)
            try simp only [Act.put, List.setIfInBounds_toArray, List.set_cons_zero, List.set_cons_succ]
            refine wpAny_core2 (n := 2) [(1, some 38), (3, some 40), (4, some 41), (5, some 42), (6, some 43), (7, some 44), (8, some 45), (10, some 47), (11, some 48), (12, some 49), (13, some 50), (15, some 52), (16, some 53), (17, some 54), (18, some 55), (20, some 57), (21, some 58), (22, some 59), (23, some 60), (25, some 62)] (Ext w2) (VF (fun | 3 => some (.int .i64 2) | 4 => some (.int .i64 1) | 6 => some (.string ⟨([119, 114, 105, 116, 101]).toArray⟩) | 7 => some (.string ⟨(P ++ [119, 114, 105, 116, 101]).toArray⟩) | 8 => some (.string ⟨((P ++ [119, 114, 105, 116, 101]) ++ [32]).toArray⟩) | 10 => some (.int .i64 cl) | 11 => some (.string ⟨(Lib.itoa cl).toArray⟩) | 12 => some (.string ⟨(((P ++ [119, 114, 105, 116, 101]) ++ [32]) ++ Lib.itoa cl).toArray⟩) | 13 => some (.string ⟨((((P ++ [119, 114, 105, 116, 101]) ++ [32]) ++ Lib.itoa cl) ++ [32]).toArray⟩) | 15 => some (.int .i64 od) | 16 => some (.string ⟨(Lib.itoa od).toArray⟩) | 17 => some (.string ⟨(((((P ++ [119, 114, 105, 116, 101]) ++ [32]) ++ Lib.itoa cl) ++ [32]) ++ Lib.itoa od).toArray⟩) | 18 => some (.string ⟨((((((P ++ [119, 114, 105, 116, 101]) ++ [32]) ++ Lib.itoa cl) ++ [32]) ++ Lib.itoa od) ++ [32]).toArray⟩) | 20 => some (.int .i64 nw) | 21 => some (.string ⟨(Lib.itoa nw).toArray⟩) | 22 => some (.string ⟨(((((((P ++ [119, 114, 105, 116, 101]) ++ [32]) ++ Lib.itoa cl) ++ [32]) ++ Lib.itoa od) ++ [32]) ++ Lib.itoa nw).toArray⟩) | 23 => some (.string ⟨((((((((P ++ [119, 114, 105, 116, 101]) ++ [32]) ++ Lib.itoa cl) ++ [32]) ++ Lib.itoa od) ++ [32]) ++ Lib.itoa nw) ++ [32]).toArray⟩) | 25 => some (.string ⟨(((((((((P ++ [119, 114, 105, 116, 101]) ++ [32]) ++ Lib.itoa cl) ++ [32]) ++ Lib.itoa od) ++ [32]) ++ Lib.itoa nw) ++ [32]) ++ [110, 111]).toArray⟩) | _ => none) (fun i v W => (i = 1 → ∃ z, v = .slice (some ⟨z, 0, none⟩) 4 4 ∧ Blk W z 9 #[.string ⟨#[114, 101, 97, 100]⟩, .string ⟨#[119, 114, 105, 116, 101]⟩, .string ⟨#[115, 119, 97, 112]⟩, .string ⟨#[97, 100, 100]⟩]) ∧ (i = 5 → ∃ z, v = .pointer (some ⟨z, 1, none⟩) ∧ Blk W z 9 #[.string ⟨#[114, 101, 97, 100]⟩, .string ⟨#[119, 114, 105, 116, 101]⟩, .string ⟨#[115, 119, 97, 112]⟩, .string ⟨#[97, 100, 100]⟩]))) Ext #[true, true, true, true, true, true, true, true, true, true, true, true, true, true, true, true, true, true, true, true, true, true, true, true, true, true, false, false] (by decide +kernel) (VF.stab ?_) ?_ ?_ (by first | exact (Ext.rf _).drew | exact Ext.rf _)
            · intro j v W W' _ gz hx
              obtain ⟨g0, g1⟩ := gz
              exact ⟨fun h => (g0 h).imp fun z hz => ⟨hz.1, hz.2.ext hx⟩, fun h => (g1 h).imp fun z hz => ⟨hz.1, hz.2.ext hx⟩⟩
            · intro pS hpm uS wS hRW hD K hK
              simp only [List.mem_cons, List.not_mem_nil, or_false] at hpm
              rcases hpm with rfl | rfl | rfl | rfl | rfl | rfl | rfl | rfl | rfl | rfl | rfl | rfl | rfl | rfl | rfl | rfl | rfl | rfl | rfl | rfl
              · ( exact op_run (op := Op.buildSlice 64 4 #[(0, Operand.const (Value.string { data := #[114, 101, 97, 100] })), (1, Operand.const (Value.string { data := #[119, 114, 105, 116, 101] })), (2, Operand.const (Value.string { data := #[115, 119, 97, 112] })), (3, Operand.const (Value.string { data := #[97, 100, 100] }))]) (t := 64) (d := some 38) rfl _ (by unfold exec2; go_simp; try rfl) (hK _ _ (VF.mg rfl ⟨(fun _ => ⟨_, rfl, .new rfl⟩), (fun h => absurd h (by decide))⟩) (hRW.alloc _) ((Ext.rf _).alloc _)))
              · ( have rX := keepEL hRW zB d1; exact op_ld (T := 3) (x := Operand.tmp 39) (t := 3) (d := some 40) rfl (.pointer (some ⟨w.heap.size, 1, none⟩)) (by kernel_rfl) (.int .i64 2) (by go_simp) (hK _ _ (VF.mk rfl) hRW (Ext.rf _)))
              · (have e3 : uS 3 = .int .i64 2 := (hD 3 (depIn (by kernel_rfl))).k rfl; exact op_run (op := Op.binOp BinOp.sub 3 (Operand.tmp 40) (Operand.const (Value.int IntKind.i64 1)) 3) (t := 3) (d := some 41) rfl (.int .i64 1) (by simp only [putAll, Act.put, List.setIfInBounds_toArray, List.set_cons_zero, List.set_cons_succ]; unfold exec2; (try go_simp); (try simp only [e3]); (try go_simp); (try rfl); (try (exact IntWalk.i64_in _ (by omega)))) (hK _ _ (VF.mk rfl) hRW (Ext.rf _)))
              · (have e4 : uS 4 = .int .i64 1 := (hD 4 (depIn (by kernel_rfl))).k rfl; obtain ⟨z, ez, bz⟩ := ((hD 1 (depIn (by kernel_rfl))).g rfl).1 rfl; exact op_ix (T := 64) (x := Operand.tmp 38) (y := Operand.tmp 41) (t := 0) (d := some 42) rfl (.slice (some ⟨z, 0, none⟩) 4 4) (.int .i64 1) (Eq.trans (b := uS 1) (by kernel_rfl) ez) (Eq.trans (b := uS 4) (by kernel_rfl) e4) (.pointer (some ⟨z, 1, none⟩)) (by go_simp) (hK _ _ (VF.mg rfl ⟨(fun h => absurd h (by decide)), (fun _ => ⟨z, rfl, bz⟩)⟩) hRW (Ext.rf _)))
              · (obtain ⟨z, ez, bz⟩ := ((hD 5 (depIn (by kernel_rfl))).g rfl).2 rfl; have rX : wS.cell? ⟨z, 1, none⟩ = some (.string ⟨([119, 114, 105, 116, 101]).toArray⟩) := bz.cell 1; exact op_ld (T := 9) (x := Operand.tmp 42) (t := 9) (d := some 43) rfl (.pointer (some ⟨z, 1, none⟩)) (Eq.trans (b := uS 5) (by kernel_rfl) ez) (.string ⟨([119, 114, 105, 116, 101]).toArray⟩) (by go_simp) (hK _ _ (VF.mk rfl) hRW (Ext.rf _)))
              · (have e6 : uS 6 = .string ⟨([119, 114, 105, 116, 101]).toArray⟩ := (hD 6 (depIn (by kernel_rfl))).k rfl; exact op_cat (t := 9) (d := some 44) rfl (P) ([119, 114, 105, 116, 101]) (by kernel_rfl) (Eq.trans (b := uS 6) (by kernel_rfl) e6) (by simp only [List.length_append, List.length_cons, List.length_nil]; omega) (hK _ _ (VF.mk rfl) hRW (Ext.rf _)))
              · (have e7 : uS 7 = .string ⟨(P ++ [119, 114, 105, 116, 101]).toArray⟩ := (hD 7 (depIn (by kernel_rfl))).k rfl; exact op_cat (t := 9) (d := some 45) rfl ((P ++ [119, 114, 105, 116, 101])) ([32]) (Eq.trans (b := uS 7) (by kernel_rfl) e7) (by kernel_rfl) (by simp only [List.length_append, List.length_cons, List.length_nil]; omega) (hK _ _ (VF.mk rfl) hRW (Ext.rf _)))
              · ( have rX := keepEL hRW zB d2; exact op_ld (T := 3) (x := Operand.tmp 46) (t := 3) (d := some 47) rfl (.pointer (some ⟨w.heap.size, 2, none⟩)) (by kernel_rfl) (.int .i64 cl) (by go_simp) (hK _ _ (VF.mk rfl) hRW (Ext.rf _)))
              · (have e10 : uS 10 = .int .i64 cl := (hD 10 (depIn (by kernel_rfl))).k rfl; exact op_call (f := 29) (xs := #[Operand.tmp 47]) (ts := #[3]) (t := 9) (d := some 48) rfl #[.int .i64 cl] (by go_simp) (Eq.trans (b := #[uS 10]) (by kernel_rfl) (by rw [e10])) _ (rwrite_any cl h3.1 h3.2 _) (by rintro e w9 ⟨rfl, xx⟩; exact ⟨_, rfl, hK _ _ (VF.mk rfl) (hRW.tr xx) xx⟩))
              · (have e8 : uS 8 = .string ⟨((P ++ [119, 114, 105, 116, 101]) ++ [32]).toArray⟩ := (hD 8 (depIn (by kernel_rfl))).k rfl; have e11 : uS 11 = .string ⟨(Lib.itoa cl).toArray⟩ := (hD 11 (depIn (by kernel_rfl))).k rfl; exact op_cat (t := 9) (d := some 49) rfl (((P ++ [119, 114, 105, 116, 101]) ++ [32])) (Lib.itoa cl) (Eq.trans (b := uS 8) (by kernel_rfl) e8) (Eq.trans (b := uS 11) (by kernel_rfl) e11) (by simp only [List.length_append, List.length_cons, List.length_nil]; omega) (hK _ _ (VF.mk rfl) hRW (Ext.rf _)))
              · (have e12 : uS 12 = .string ⟨(((P ++ [119, 114, 105, 116, 101]) ++ [32]) ++ Lib.itoa cl).toArray⟩ := (hD 12 (depIn (by kernel_rfl))).k rfl; exact op_cat (t := 9) (d := some 50) rfl ((((P ++ [119, 114, 105, 116, 101]) ++ [32]) ++ Lib.itoa cl)) ([32]) (Eq.trans (b := uS 12) (by kernel_rfl) e12) (by kernel_rfl) (by simp only [List.length_append, List.length_cons, List.length_nil]; omega) (hK _ _ (VF.mk rfl) hRW (Ext.rf _)))
              · ( have rX := keepEL hRW zB d3; exact op_ld (T := 3) (x := Operand.tmp 51) (t := 3) (d := some 52) rfl (.pointer (some ⟨w.heap.size, 3, none⟩)) (by kernel_rfl) (.int .i64 od) (by go_simp) (hK _ _ (VF.mk rfl) hRW (Ext.rf _)))
              · (have e15 : uS 15 = .int .i64 od := (hD 15 (depIn (by kernel_rfl))).k rfl; exact op_call (f := 29) (xs := #[Operand.tmp 52]) (ts := #[3]) (t := 9) (d := some 53) rfl #[.int .i64 od] (by go_simp) (Eq.trans (b := #[uS 15]) (by kernel_rfl) (by rw [e15])) _ (rwrite_any od h4.1 h4.2 _) (by rintro e w9 ⟨rfl, xx⟩; exact ⟨_, rfl, hK _ _ (VF.mk rfl) (hRW.tr xx) xx⟩))
              · (have e13 : uS 13 = .string ⟨((((P ++ [119, 114, 105, 116, 101]) ++ [32]) ++ Lib.itoa cl) ++ [32]).toArray⟩ := (hD 13 (depIn (by kernel_rfl))).k rfl; have e16 : uS 16 = .string ⟨(Lib.itoa od).toArray⟩ := (hD 16 (depIn (by kernel_rfl))).k rfl; exact op_cat (t := 9) (d := some 54) rfl (((((P ++ [119, 114, 105, 116, 101]) ++ [32]) ++ Lib.itoa cl) ++ [32])) (Lib.itoa od) (Eq.trans (b := uS 13) (by kernel_rfl) e13) (Eq.trans (b := uS 16) (by kernel_rfl) e16) (by simp only [List.length_append, List.length_cons, List.length_nil]; omega) (hK _ _ (VF.mk rfl) hRW (Ext.rf _)))
              · (have e17 : uS 17 = .string ⟨(((((P ++ [119, 114, 105, 116, 101]) ++ [32]) ++ Lib.itoa cl) ++ [32]) ++ Lib.itoa od).toArray⟩ := (hD 17 (depIn (by kernel_rfl))).k rfl; exact op_cat (t := 9) (d := some 55) rfl ((((((P ++ [119, 114, 105, 116, 101]) ++ [32]) ++ Lib.itoa cl) ++ [32]) ++ Lib.itoa od)) ([32]) (Eq.trans (b := uS 17) (by kernel_rfl) e17) (by kernel_rfl) (by simp only [List.length_append, List.length_cons, List.length_nil]; omega) (hK _ _ (VF.mk rfl) hRW (Ext.rf _)))
              · ( have rX := keepEL hRW zB d4; exact op_ld (T := 3) (x := Operand.tmp 56) (t := 3) (d := some 57) rfl (.pointer (some ⟨w.heap.size, 4, none⟩)) (by kernel_rfl) (.int .i64 nw) (by go_simp) (hK _ _ (VF.mk rfl) hRW (Ext.rf _)))
              · (have e20 : uS 20 = .int .i64 nw := (hD 20 (depIn (by kernel_rfl))).k rfl; exact op_call (f := 29) (xs := #[Operand.tmp 57]) (ts := #[3]) (t := 9) (d := some 58) rfl #[.int .i64 nw] (by go_simp) (Eq.trans (b := #[uS 20]) (by kernel_rfl) (by rw [e20])) _ (rwrite_any nw h5.1 h5.2 _) (by rintro e w9 ⟨rfl, xx⟩; exact ⟨_, rfl, hK _ _ (VF.mk rfl) (hRW.tr xx) xx⟩))
              · (have e18 : uS 18 = .string ⟨((((((P ++ [119, 114, 105, 116, 101]) ++ [32]) ++ Lib.itoa cl) ++ [32]) ++ Lib.itoa od) ++ [32]).toArray⟩ := (hD 18 (depIn (by kernel_rfl))).k rfl; have e21 : uS 21 = .string ⟨(Lib.itoa nw).toArray⟩ := (hD 21 (depIn (by kernel_rfl))).k rfl; exact op_cat (t := 9) (d := some 59) rfl (((((((P ++ [119, 114, 105, 116, 101]) ++ [32]) ++ Lib.itoa cl) ++ [32]) ++ Lib.itoa od) ++ [32])) (Lib.itoa nw) (Eq.trans (b := uS 18) (by kernel_rfl) e18) (Eq.trans (b := uS 21) (by kernel_rfl) e21) (by simp only [List.length_append, List.length_cons, List.length_nil]; omega) (hK _ _ (VF.mk rfl) hRW (Ext.rf _)))
              · (have e22 : uS 22 = .string ⟨(((((((P ++ [119, 114, 105, 116, 101]) ++ [32]) ++ Lib.itoa cl) ++ [32]) ++ Lib.itoa od) ++ [32]) ++ Lib.itoa nw).toArray⟩ := (hD 22 (depIn (by kernel_rfl))).k rfl; exact op_cat (t := 9) (d := some 60) rfl ((((((((P ++ [119, 114, 105, 116, 101]) ++ [32]) ++ Lib.itoa cl) ++ [32]) ++ Lib.itoa od) ++ [32]) ++ Lib.itoa nw)) ([32]) (Eq.trans (b := uS 22) (by kernel_rfl) e22) (by kernel_rfl) (by simp only [List.length_append, List.length_cons, List.length_nil]; omega) (hK _ _ (VF.mk rfl) hRW (Ext.rf _)))
              · (have e23 : uS 23 = .string ⟨((((((((P ++ [119, 114, 105, 116, 101]) ++ [32]) ++ Lib.itoa cl) ++ [32]) ++ Lib.itoa od) ++ [32]) ++ Lib.itoa nw) ++ [32]).toArray⟩ := (hD 23 (depIn (by kernel_rfl))).k rfl; exact op_cat (t := 9) (d := some 62) rfl (((((((((P ++ [119, 114, 105, 116, 101]) ++ [32]) ++ Lib.itoa cl) ++ [32]) ++ Lib.itoa od) ++ [32]) ++ Lib.itoa nw) ++ [32])) ([110, 111]) (Eq.trans (b := uS 23) (by kernel_rfl) e23) (by kernel_rfl) (by simp only [List.length_append, List.length_cons, List.length_nil]; omega) (hK _ _ (VF.mk rfl) hRW (Ext.rf _)))
            intro u w3 hR3 hV
            have h3 := (hV (3, some 40) (by simp)).k rfl
            have h4 := (hV (4, some 41) (by simp)).k rfl
            have h6 := (hV (6, some 43) (by simp)).k rfl
            have h7 := (hV (7, some 44) (by simp)).k rfl
            have h8 := (hV (8, some 45) (by simp)).k rfl
            have h10 := (hV (10, some 47) (by simp)).k rfl
            have h11 := (hV (11, some 48) (by simp)).k rfl
            have h12 := (hV (12, some 49) (by simp)).k rfl
            have h13 := (hV (13, some 50) (by simp)).k rfl
            have h15 := (hV (15, some 52) (by simp)).k rfl
            have h16 := (hV (16, some 53) (by simp)).k rfl
            have h17 := (hV (17, some 54) (by simp)).k rfl
            have h18 := (hV (18, some 55) (by simp)).k rfl
            have h20 := (hV (20, some 57) (by simp)).k rfl
            have h21 := (hV (21, some 58) (by simp)).k rfl
            have h22 := (hV (22, some 59) (by simp)).k rfl
            have h23 := (hV (23, some 60) (by simp)).k rfl
            have h25 := (hV (25, some 62) (by simp)).k rfl
            simp only [putAll, h3, h4, h6, h7, h8, h10, h11, h12, h13, h15, h16, h17, h18, h20, h21, h22, h23, h25]
            clear hV h3 h4 h6 h7 h8 h10 h11 h12 h13 h15 h16 h17 h18 h20 h21 h22 h23 h25
            try simp only [Act.put, List.setIfInBounds_toArray, List.set_cons_zero, List.set_cons_succ]
            have X3 := Lib.hid (X2.out.tr hR3)
            clear hR3
            try simp only [Act.put, List.setIfInBounds_toArray, List.set_cons_zero, List.set_cons_succ]
            refine wpAny_T (i := 26) (op := Op.assign (Operand.tmp 62)) (t := 9) (d := some 2) (v := ?_) rfl (by decide +kernel) (by decide +kernel) (by decide +kernel) (fun _ _ _ h => h) ?_ ?_
            case refine_2 => (intro _; unfold exec2; go_simp; try with_reducible rfl)
            try simp only [Act.put, List.setIfInBounds_toArray, List.set_cons_zero, List.set_cons_succ]
            refine wpAny_T (i := 27) (op := Op.assign (Operand.const (Value.bool true))) (t := 4) (d := some 3) (v := ?_) rfl (by decide +kernel) (by decide +kernel) (by decide +kernel) (fun _ _ _ h => h) ?_ ?_
            case refine_2 => (intro _; unfold exec2; go_simp; try with_reducible rfl)
            try simp only [Act.put, List.setIfInBounds_toArray, List.set_cons_zero, List.set_cons_succ]
            refine wpAny_done (by kernel_rfl) ?_ _
            go_simp
            go_wp2_with (fail)
            go_ret2
            rw [hl.out]
            exact ⟨by simp [txS, kindT, yesT, tRead, tWrite, tSwap, tAdd], X3.out⟩
        · cases dn with
          | true =>
            go_wp2_with (fail)
            refine wp_region_any (by kernel_rfl) ?_
            change wpAny _ _ _ _ _ _ _ (World.drew _)
            refine wpAny_T (i := 0) (op := Op.move (Operand.tmp 4)) (t := 9) (d := some 37) (v := ?_) rfl (by decide +kernel) (by decide +kernel) (by decide +kernel) (fun _ _ _ h => h) ?_ ?_
            case refine_2 => (intro _; unfold exec2; go_simp; try with_reducible rfl)
            try simp only [Act.put, List.setIfInBounds_toArray, List.set_cons_zero, List.set_cons_succ]
            refine wpAny_T (i := 2) (op := Op.fieldAddr 39 (Operand.tmp 1) 1) (t := 0) (d := some 39) (v := ?_) rfl (by decide +kernel) (by decide +kernel) (by decide +kernel) (fun _ _ _ h => h) ?_ ?_
            case refine_2 => (intro _; unfold exec2; go_simp; try with_reducible rfl)
            try simp only [Act.put, List.setIfInBounds_toArray, List.set_cons_zero, List.set_cons_succ]
            refine wpAny_T (i := 9) (op := Op.fieldAddr 39 (Operand.tmp 1) 2) (t := 0) (d := some 46) (v := ?_) rfl (by decide +kernel) (by decide +kernel) (by decide +kernel) (fun _ _ _ h => h) ?_ ?_
            case refine_2 => (intro _; unfold exec2; go_simp; try with_reducible rfl)
            try simp only [Act.put, List.setIfInBounds_toArray, List.set_cons_zero, List.set_cons_succ]
            refine wpAny_T (i := 14) (op := Op.fieldAddr 39 (Operand.tmp 1) 3) (t := 0) (d := some 51) (v := ?_) rfl (by decide +kernel) (by decide +kernel) (by decide +kernel) (fun _ _ _ h => h) ?_ ?_
            case refine_2 => (intro _; unfold exec2; go_simp; try with_reducible rfl)
            try simp only [Act.put, List.setIfInBounds_toArray, List.set_cons_zero, List.set_cons_succ]
            refine wpAny_T (i := 19) (op := Op.fieldAddr 39 (Operand.tmp 1) 4) (t := 0) (d := some 56) (v := ?_) rfl (by decide +kernel) (by decide +kernel) (by decide +kernel) (fun _ _ _ h => h) ?_ ?_
            case refine_2 => (intro _; unfold exec2; go_simp; try with_reducible rfl)
            try simp only [Act.put, List.setIfInBounds_toArray, List.set_cons_zero, List.set_cons_succ]
            refine wpAny_T (i := 24) (op := Op.move (Operand.tmp 5)) (t := 9) (d := some 61) (v := ?_) rfl (by decide +kernel) (by decide +kernel) (by decide +kernel) (fun _ _ _ h => h) ?_ ?_
            case refine_2 => (intro _; unfold exec2; go_simp; try with_reducible rfl)
            try simp only [Act.put, List.setIfInBounds_toArray, List.set_cons_zero, List.set_cons_succ]
            refine wpAny_core2 (n := 2) [(1, some 38), (3, some 40), (4, some 41), (5, some 42), (6, some 43), (7, some 44), (8, some 45), (10, some 47), (11, some 48), (12, some 49), (13, some 50), (15, some 52), (16, some 53), (17, some 54), (18, some 55), (20, some 57), (21, some 58), (22, some 59), (23, some 60), (25, some 62)] (Ext w2) (VF (fun | 3 => some (.int .i64 3) | 4 => some (.int .i64 2) | 6 => some (.string ⟨([115, 119, 97, 112]).toArray⟩) | 7 => some (.string ⟨(P ++ [115, 119, 97, 112]).toArray⟩) | 8 => some (.string ⟨((P ++ [115, 119, 97, 112]) ++ [32]).toArray⟩) | 10 => some (.int .i64 cl) | 11 => some (.string ⟨(Lib.itoa cl).toArray⟩) | 12 => some (.string ⟨(((P ++ [115, 119, 97, 112]) ++ [32]) ++ Lib.itoa cl).toArray⟩) | 13 => some (.string ⟨((((P ++ [115, 119, 97, 112]) ++ [32]) ++ Lib.itoa cl) ++ [32]).toArray⟩) | 15 => some (.int .i64 od) | 16 => some (.string ⟨(Lib.itoa od).toArray⟩) | 17 => some (.string ⟨(((((P ++ [115, 119, 97, 112]) ++ [32]) ++ Lib.itoa cl) ++ [32]) ++ Lib.itoa od).toArray⟩) | 18 => some (.string ⟨((((((P ++ [115, 119, 97, 112]) ++ [32]) ++ Lib.itoa cl) ++ [32]) ++ Lib.itoa od) ++ [32]).toArray⟩) | 20 => some (.int .i64 nw) | 21 => some (.string ⟨(Lib.itoa nw).toArray⟩) | 22 => some (.string ⟨(((((((P ++ [115, 119, 97, 112]) ++ [32]) ++ Lib.itoa cl) ++ [32]) ++ Lib.itoa od) ++ [32]) ++ Lib.itoa nw).toArray⟩) | 23 => some (.string ⟨((((((((P ++ [115, 119, 97, 112]) ++ [32]) ++ Lib.itoa cl) ++ [32]) ++ Lib.itoa od) ++ [32]) ++ Lib.itoa nw) ++ [32]).toArray⟩) | 25 => some (.string ⟨(((((((((P ++ [115, 119, 97, 112]) ++ [32]) ++ Lib.itoa cl) ++ [32]) ++ Lib.itoa od) ++ [32]) ++ Lib.itoa nw) ++ [32]) ++ [121, 101, 115]).toArray⟩) | _ => none) (fun i v W => (i = 1 → ∃ z, v = .slice (some ⟨z, 0, none⟩) 4 4 ∧ Blk W z 9 #[.string ⟨#[114, 101, 97, 100]⟩, .string ⟨#[119, 114, 105, 116, 101]⟩, .string ⟨#[115, 119, 97, 112]⟩, .string ⟨#[97, 100, 100]⟩]) ∧ (i = 5 → ∃ z, v = .pointer (some ⟨z, 2, none⟩) ∧ Blk W z 9 #[.string ⟨#[114, 101, 97, 100]⟩, .string ⟨#[119, 114, 105, 116, 101]⟩, .string ⟨#[115, 119, 97, 112]⟩, .string ⟨#[97, 100, 100]⟩]))) Ext #[true, true, true, true, true, true, true, true, true, true, true, true, true, true, true, true, true, true, true, true, true, true, true, true, true, true, false, false] (by decide +kernel) (VF.stab ?_) ?_ ?_ (by first | exact (Ext.rf _).drew | exact Ext.rf _)
            · intro j v W W' _ gz hx
              obtain ⟨g0, g1⟩ := gz
              exact ⟨fun h => (g0 h).imp fun z hz => ⟨hz.1, hz.2.ext hx⟩, fun h => (g1 h).imp fun z hz => ⟨hz.1, hz.2.ext hx⟩⟩
            · intro pS hpm uS wS hRW hD K hK
              simp only [List.mem_cons, List.not_mem_nil, or_false] at hpm
              rcases hpm with rfl | rfl | rfl | rfl | rfl | rfl | rfl | rfl | rfl | rfl | rfl | rfl | rfl | rfl | rfl | rfl | rfl | rfl | rfl | rfl
              · ( exact op_run (op := Op.buildSlice 64 4 #[(0, Operand.const (Value.string { data := #[114, 101, 97, 100] })), (1, Operand.const (Value.string { data := #[119, 114, 105, 116, 101] })), (2, Operand.const (Value.string { data := #[115, 119, 97, 112] })), (3, Operand.const (Value.string { data := #[97, 100, 100] }))]) (t := 64) (d := some 38) rfl _ (by unfold exec2; go_simp; try rfl) (hK _ _ (VF.mg rfl ⟨(fun _ => ⟨_, rfl, .new rfl⟩), (fun h => absurd h (by decide))⟩) (hRW.alloc _) ((Ext.rf _).alloc _)))
              · ( have rX := keepEL hRW zB d1; exact op_ld (T := 3) (x := Operand.tmp 39) (t := 3) (d := some 40) rfl (.pointer (some ⟨w.heap.size, 1, none⟩)) (by kernel_rfl) (.int .i64 3) (by go_simp) (hK _ _ (VF.mk rfl) hRW (Ext.rf _)))
              · (have e3 : uS 3 = .int .i64 3 := (hD 3 (depIn (by kernel_rfl))).k rfl; exact op_run (op := Op.binOp BinOp.sub 3 (Operand.tmp 40) (Operand.const (Value.int IntKind.i64 1)) 3) (t := 3) (d := some 41) rfl (.int .i64 2) (by simp only [putAll, Act.put, List.setIfInBounds_toArray, List.set_cons_zero, List.set_cons_succ]; unfold exec2; (try go_simp); (try simp only [e3]); (try go_simp); (try rfl); (try (exact IntWalk.i64_in _ (by omega)))) (hK _ _ (VF.mk rfl) hRW (Ext.rf _)))
              · (have e4 : uS 4 = .int .i64 2 := (hD 4 (depIn (by kernel_rfl))).k rfl; obtain ⟨z, ez, bz⟩ := ((hD 1 (depIn (by kernel_rfl))).g rfl).1 rfl; exact op_ix (T := 64) (x := Operand.tmp 38) (y := Operand.tmp 41) (t := 0) (d := some 42) rfl (.slice (some ⟨z, 0, none⟩) 4 4) (.int .i64 2) (Eq.trans (b := uS 1) (by kernel_rfl) ez) (Eq.trans (b := uS 4) (by kernel_rfl) e4) (.pointer (some ⟨z, 2, none⟩)) (by go_simp) (hK _ _ (VF.mg rfl ⟨(fun h => absurd h (by decide)), (fun _ => ⟨z, rfl, bz⟩)⟩) hRW (Ext.rf _)))
              · (obtain ⟨z, ez, bz⟩ := ((hD 5 (depIn (by kernel_rfl))).g rfl).2 rfl; have rX : wS.cell? ⟨z, 2, none⟩ = some (.string ⟨([115, 119, 97, 112]).toArray⟩) := bz.cell 2; exact op_ld (T := 9) (x := Operand.tmp 42) (t := 9) (d := some 43) rfl (.pointer (some ⟨z, 2, none⟩)) (Eq.trans (b := uS 5) (by kernel_rfl) ez) (.string ⟨([115, 119, 97, 112]).toArray⟩) (by go_simp) (hK _ _ (VF.mk rfl) hRW (Ext.rf _)))
              · (have e6 : uS 6 = .string ⟨([115, 119, 97, 112]).toArray⟩ := (hD 6 (depIn (by kernel_rfl))).k rfl; exact op_cat (t := 9) (d := some 44) rfl (P) ([115, 119, 97, 112]) (by kernel_rfl) (Eq.trans (b := uS 6) (by kernel_rfl) e6) (by simp only [List.length_append, List.length_cons, List.length_nil]; omega) (hK _ _ (VF.mk rfl) hRW (Ext.rf _)))
              · (have e7 : uS 7 = .string ⟨(P ++ [115, 119, 97, 112]).toArray⟩ := (hD 7 (depIn (by kernel_rfl))).k rfl; exact op_cat (t := 9) (d := some 45) rfl ((P ++ [115, 119, 97, 112])) ([32]) (Eq.trans (b := uS 7) (by kernel_rfl) e7) (by kernel_rfl) (by simp only [List.length_append, List.length_cons, List.length_nil]; omega) (hK _ _ (VF.mk rfl) hRW (Ext.rf _)))
              · ( have rX := keepEL hRW zB d2; exact op_ld (T := 3) (x := Operand.tmp 46) (t := 3) (d := some 47) rfl (.pointer (some ⟨w.heap.size, 2, none⟩)) (by kernel_rfl) (.int .i64 cl) (by go_simp) (hK _ _ (VF.mk rfl) hRW (Ext.rf _)))
              · (have e10 : uS 10 = .int .i64 cl := (hD 10 (depIn (by kernel_rfl))).k rfl; exact op_call (f := 29) (xs := #[Operand.tmp 47]) (ts := #[3]) (t := 9) (d := some 48) rfl #[.int .i64 cl] (by go_simp) (Eq.trans (b := #[uS 10]) (by kernel_rfl) (by rw [e10])) _ (rwrite_any cl h3.1 h3.2 _) (by rintro e w9 ⟨rfl, xx⟩; exact ⟨_, rfl, hK _ _ (VF.mk rfl) (hRW.tr xx) xx⟩))
              · (have e8 : uS 8 = .string ⟨((P ++ [115, 119, 97, 112]) ++ [32]).toArray⟩ := (hD 8 (depIn (by kernel_rfl))).k rfl; have e11 : uS 11 = .string ⟨(Lib.itoa cl).toArray⟩ := (hD 11 (depIn (by kernel_rfl))).k rfl; exact op_cat (t := 9) (d := some 49) rfl (((P ++ [115, 119, 97, 112]) ++ [32])) (Lib.itoa cl) (Eq.trans (b := uS 8) (by kernel_rfl) e8) (Eq.trans (b := uS 11) (by kernel_rfl) e11) (by simp only [List.length_append, List.length_cons, List.length_nil]; omega) (hK _ _ (VF.mk rfl) hRW (Ext.rf _)))
              · (have e12 : uS 12 = .string ⟨(((P ++ [115, 119, 97, 112]) ++ [32]) ++ Lib.itoa cl).toArray⟩ := (hD 12 (depIn (by kernel_rfl))).k rfl; exact op_cat (t := 9) (d := some 50) rfl ((((P ++ [115, 119, 97, 112]) ++ [32]) ++ Lib.itoa cl)) ([32]) (Eq.trans (b := uS 12) (by kernel_rfl) e12) (by kernel_rfl) (by simp only [List.length_append, List.length_cons, List.length_nil]; omega) (hK _ _ (VF.mk rfl) hRW (Ext.rf _)))
              · ( have rX := keepEL hRW zB d3; exact op_ld (T := 3) (x := Operand.tmp 51) (t := 3) (d := some 52) rfl (.pointer (some ⟨w.heap.size, 3, none⟩)) (by kernel_rfl) (.int .i64 od) (by go_simp) (hK _ _ (VF.mk rfl) hRW (Ext.rf _)))
              · (have e15 : uS 15 = .int .i64 od := (hD 15 (depIn (by kernel_rfl))).k rfl; exact op_call (f := 29) (xs := #[Operand.tmp 52]) (ts := #[3]) (t := 9) (d := some 53) rfl #[.int .i64 od] (by go_simp) (Eq.trans (b := #[uS 15]) (by kernel_rfl) (by rw [e15])) _ (rwrite_any od h4.1 h4.2 _) (by rintro e w9 ⟨rfl, xx⟩; exact ⟨_, rfl, hK _ _ (VF.mk rfl) (hRW.tr xx) xx⟩))
              · (have e13 : uS 13 = .string ⟨((((P ++ [115, 119, 97, 112]) ++ [32]) ++ Lib.itoa cl) ++ [32]).toArray⟩ := (hD 13 (depIn (by kernel_rfl))).k rfl; have e16 : uS 16 = .string ⟨(Lib.itoa od).toArray⟩ := (hD 16 (depIn (by kernel_rfl))).k rfl; exact op_cat (t := 9) (d := some 54) rfl (((((P ++ [115, 119, 97, 112]) ++ [32]) ++ Lib.itoa cl) ++ [32])) (Lib.itoa od) (Eq.trans (b := uS 13) (by kernel_rfl) e13) (Eq.trans (b := uS 16) (by kernel_rfl) e16) (by simp only [List.length_append, List.length_cons, List.length_nil]; omega) (hK _ _ (VF.mk rfl) hRW (Ext.rf _)))
              · (have e17 : uS 17 = .string ⟨(((((P ++ [115, 119, 97, 112]) ++ [32]) ++ Lib.itoa cl) ++ [32]) ++ Lib.itoa od).toArray⟩ := (hD 17 (depIn (by kernel_rfl))).k rfl; exact op_cat (t := 9) (d := some 55) rfl ((((((P ++ [115, 119, 97, 112]) ++ [32]) ++ Lib.itoa cl) ++ [32]) ++ Lib.itoa od)) ([32]) (Eq.trans (b := uS 17) (by kernel_rfl) e17) (by kernel_rfl) (by simp only [List.length_append, List.length_cons, List.length_nil]; omega) (hK _ _ (VF.mk rfl) hRW (Ext.rf _)))
              · ( have rX := keepEL hRW zB d4; exact op_ld (T := 3) (x := Operand.tmp 56) (t := 3) (d := some 57) rfl (.pointer (some ⟨w.heap.size, 4, none⟩)) (by kernel_rfl) (.int .i64 nw) (by go_simp) (hK _ _ (VF.mk rfl) hRW (Ext.rf _)))
              · (have e20 : uS 20 = .int .i64 nw := (hD 20 (depIn (by kernel_rfl))).k rfl; exact op_call (f := 29) (xs := #[Operand.tmp 57]) (ts := #[3]) (t := 9) (d := some 58) rfl #[.int .i64 nw] (by go_simp) (Eq.trans (b := #[uS 20]) (by kernel_rfl) (by rw [e20])) _ (rwrite_any nw h5.1 h5.2 _) (by rintro e w9 ⟨rfl, xx⟩; exact ⟨_, rfl, hK _ _ (VF.mk rfl) (hRW.tr xx) xx⟩))
              · (have e18 : uS 18 = .string ⟨((((((P ++ [115, 119, 97, 112]) ++ [32]) ++ Lib.itoa cl) ++ [32]) ++ Lib.itoa od) ++ [32]).toArray⟩ := (hD 18 (depIn (by kernel_rfl))).k rfl; have e21 : uS 21 = .string ⟨(Lib.itoa nw).toArray⟩ := (hD 21 (depIn (by kernel_rfl))).k rfl; exact op_cat (t := 9) (d := some 59) rfl (((((((P ++ [115, 119, 97, 112]) ++ [32]) ++ Lib.itoa cl) ++ [32]) ++ Lib.itoa od) ++ [32])) (Lib.itoa nw) (Eq.trans (b := uS 18) (by kernel_rfl) e18) (Eq.trans (b := uS 21) (by kernel_rfl) e21) (by simp only [List.length_append, List.length_cons, List.length_nil]; omega) (hK _ _ (VF.mk rfl) hRW (Ext.rf _)))
              · (have e22 : uS 22 = .string ⟨(((((((P ++ [115, 119, 97, 112]) ++ [32]) ++ Lib.itoa cl) ++ [32]) ++ Lib.itoa od) ++ [32]) ++ Lib.itoa nw).toArray⟩ := (hD 22 (depIn (by kernel_rfl))).k rfl; exact op_cat (t := 9) (d := some 60) rfl ((((((((P ++ [115, 119, 97, 112]) ++ [32]) ++ Lib.itoa cl) ++ [32]) ++ Lib.itoa od) ++ [32]) ++ Lib.itoa nw)) ([32]) (Eq.trans (b := uS 22) (by kernel_rfl) e22) (by kernel_rfl) (by simp only [List.length_append, List.length_cons, List.length_nil]; omega) (hK _ _ (VF.mk rfl) hRW (Ext.rf _)))
              · (have e23 : uS 23 = .string ⟨((((((((P ++ [115, 119, 97, 112]) ++ [32]) ++ Lib.itoa cl) ++ [32]) ++ Lib.itoa od) ++ [32]) ++ Lib.itoa nw) ++ [32]).toArray⟩ := (hD 23 (depIn (by kernel_rfl))).k rfl; exact op_cat (t := 9) (d := some 62) rfl (((((((((P ++ [115, 119, 97, 112]) ++ [32]) ++ Lib.itoa cl) ++ [32]) ++ Lib.itoa od) ++ [32]) ++ Lib.itoa nw) ++ [32])) ([121, 101, 115]) (Eq.trans (b := uS 23) (by kernel_rfl) e23) (by kernel_rfl) (by simp only [List.length_append, List.length_cons, List.length_nil]; omega) (hK _ _ (VF.mk rfl) hRW (Ext.rf _)))
            intro u w3 hR3 hV
            have h3 := (hV (3, some 40) (by simp)).k rfl
            have h4 := (hV (4, some 41) (by simp)).k rfl
            have h6 := (hV (6, some 43) (by simp)).k rfl
            have h7 := (hV (7, some 44) (by simp)).k rfl
            have h8 := (hV (8, some 45) (by simp)).k rfl
            have h10 := (hV (10, some 47) (by simp)).k rfl
            have h11 := (hV (11, some 48) (by simp)).k rfl
            have h12 := (hV (12, some 49) (by simp)).k rfl
            have h13 := (hV (13, some 50) (by simp)).k rfl
            have h15 := (hV (15, some 52) (by simp)).k rfl
            have h16 := (hV (16, some 53) (by simp)).k rfl
            have h17 := (hV (17, some 54) (by simp)).k rfl
            have h18 := (hV (18, some 55) (by simp)).k rfl
            have h20 := (hV (20, some 57) (by simp)).k rfl
            have h21 := (hV (21, some 58) (by simp)).k rfl
            have h22 := (hV (22, some 59) (by simp)).k rfl
            have h23 := (hV (23, some 60) (by simp)).k rfl
            have h25 := (hV (25, some 62) (by simp)).k rfl
            simp only [putAll, h3, h4, h6, h7, h8, h10, h11, h12, h13, h15, h16, h17, h18, h20, h21, h22, h23, h25]
            clear hV h3 h4 h6 h7 h8 h10 h11 h12 h13 h15 h16 h17 h18 h20 h21 h22 h23 h25
            try simp only [Act.put, List.setIfInBounds_toArray, List.set_cons_zero, List.set_cons_succ]
            have X3 := Lib.hid (X2.out.tr hR3)
            clear hR3
            try simp only [Act.put, List.setIfInBounds_toArray, List.set_cons_zero, List.set_cons_succ]
            refine wpAny_T (i := 26) (op := Op.assign (Operand.tmp 62)) (t := 9) (d := some 2) (v := ?_) rfl (by decide +kernel) (by decide +kernel) (by decide +kernel) (fun _ _ _ h => h) ?_ ?_
            case refine_2 => (intro _; unfold exec2; go_simp; try with_reducible rfl)
            try simp only [Act.put, List.setIfInBounds_toArray, List.set_cons_zero, List.set_cons_succ]
            refine wpAny_T (i := 27) (op := Op.assign (Operand.const (Value.bool true))) (t := 4) (d := some 3) (v := ?_) rfl (by decide +kernel) (by decide +kernel) (by decide +kernel) (fun _ _ _ h => h) ?_ ?_
            case refine_2 => (intro _; unfold exec2; go_simp; try with_reducible rfl)
            try simp only [Act.put, List.setIfInBounds_toArray, List.set_cons_zero, List.set_cons_succ]
            refine wpAny_done (by kernel_rfl) ?_ _
            go_simp
            go_wp2_with (fail)
            go_ret2
            rw [hl.out]
            exact ⟨by simp [txS, kindT, yesT, tRead, tWrite, tSwap, tAdd], X3.out⟩
          | false =>
            go_wp2_with (fail)
            refine wp_region_any (by kernel_rfl) ?_
            change wpAny _ _ _ _ _ _ _ (World.drew _)
            refine wpAny_T (i := 0) (op := Op.move (Operand.tmp 4)) (t := 9) (d := some 37) (v := ?_) rfl (by decide +kernel) (by decide +kernel) (by decide +kernel) (fun _ _ _ h => h) ?_ ?_
            case refine_2 => (intro _; unfold exec2; go_simp; try with_reducible rfl)
            try simp only [Act.put, List.setIfInBounds_toArray, List.set_cons_zero, List.set_cons_succ]
            refine wpAny_T (i := 2) (op := Op.fieldAddr 39 (Operand.tmp 1) 1) (t := 0) (d := some 39) (v := ?_) rfl (by decide +kernel) (by decide +kernel) (by decide +kernel) (fun _ _ _ h => h) ?_ ?_
            case refine_2 => (intro _; unfold exec2; go_simp; try with_reducible rfl)
            try simp only [Act.put, List.setIfInBounds_toArray, List.set_cons_zero, List.set_cons_succ]
            refine wpAny_T (i := 9) (op := Op.fieldAddr 39 (Operand.tmp 1) 2) (t := 0) (d := some 46) (v := ?_) rfl (by decide +kernel) (by decide +kernel) (by decide +kernel) (fun _ _ _ h => h) ?_ ?_
            case refine_2 => (intro _; unfold exec2; go_simp; try with_reducible rfl)
            try simp only [Act.put, List.setIfInBounds_toArray, List.set_cons_zero, List.set_cons_succ]
            refine wpAny_T (i := 14) (op := Op.fieldAddr 39 (Operand.tmp 1) 3) (t := 0) (d := some 51) (v := ?_) rfl (by decide +kernel) (by decide +kernel) (by decide +kernel) (fun _ _ _ h => h) ?_ ?_
            case refine_2 => (intro _; unfold exec2; go_simp; try with_reducible rfl)
            try simp only [Act.put, List.setIfInBounds_toArray, List.set_cons_zero, List.set_cons_succ]
            refine wpAny_T (i := 19) (op := Op.fieldAddr 39 (Operand.tmp 1) 4) (t := 0) (d := some 56) (v := ?_) rfl (by decide +kernel) (by decide +kernel) (by decide +kernel) (fun _ _ _ h => h) ?_ ?_
            case refine_2 => (intro _; unfold exec2; go_simp; try with_reducible rfl)
            try simp only [Act.put, List.setIfInBounds_toArray, List.set_cons_zero, List.set_cons_succ]
            refine wpAny_T (i := 24) (op := Op.move (Operand.tmp 5)) (t := 9) (d := some 61) (v := ?_) rfl (by decide +kernel) (by decide +kernel) (by decide +kernel) (fun _ _ _ h => h) ?_ ?_
            case refine_2 => (intro _; unfold exec2; go_simp; try with_reducible rfl)
            try simp only [Act.put, List.setIfInBounds_toArray, List.set_cons_zero, List.set_cons_succ]
            refine wpAny_core2 (n := 2) [(1, some 38), (3, some 40), (4, some 41), (5, some 42), (6, some 43), (7, some 44), (8, some 45), (10, some 47), (11, some 48), (12, some 49), (13, some 50), (15, some 52), (16, some 53), (17, some 54), (18, some 55), (20, some 57), (21, some 58), (22, some 59), (23, some 60), (25, some 62)] (Ext w2) (VF (fun | 3 => some (.int .i64 3) | 4 => some (.int .i64 2) | 6 => some (.string ⟨([115, 119, 97, 112]).toArray⟩) | 7 => some (.string ⟨(P ++ [115, 119, 97, 112]).toArray⟩) | 8 => some (.string ⟨((P ++ [115, 119, 97, 112]) ++ [32]).toArray⟩) | 10 => some (.int .i64 cl) | 11 => some (.string ⟨(Lib.itoa cl).toArray⟩) | 12 => some (.string ⟨(((P ++ [115, 119, 97, 112]) ++ [32]) ++ Lib.itoa cl).toArray⟩) | 13 => some (.string ⟨((((P ++ [115, 119, 97, 112]) ++ [32]) ++ Lib.itoa cl) ++ [32]).toArray⟩) | 15 => some (.int .i64 od) | 16 => some (.string ⟨(Lib.itoa od).toArray⟩) | 17 => some (.string ⟨(((((P ++ [115, 119, 97, 112]) ++ [32]) ++ Lib.itoa cl) ++ [32]) ++ Lib.itoa od).toArray⟩) | 18 => some (.string ⟨((((((P ++ [115, 119, 97, 112]) ++ [32]) ++ Lib.itoa cl) ++ [32]) ++ Lib.itoa od) ++ [32]).toArray⟩) | 20 => some (.int .i64 nw) | 21 => some (.string ⟨(Lib.itoa nw).toArray⟩) | 22 => some (.string ⟨(((((((P ++ [115, 119, 97, 112]) ++ [32]) ++ Lib.itoa cl) ++ [32]) ++ Lib.itoa od) ++ [32]) ++ Lib.itoa nw).toArray⟩) | 23 => some (.string ⟨((((((((P ++ [115, 119, 97, 112]) ++ [32]) ++ Lib.itoa cl) ++ [32]) ++ Lib.itoa od) ++ [32]) ++ Lib.itoa nw) ++ [32]).toArray⟩) | 25 => some (.string ⟨(((((((((P ++ [115, 119, 97, 112]) ++ [32]) ++ Lib.itoa cl) ++ [32]) ++ Lib.itoa od) ++ [32]) ++ Lib.itoa nw) ++ [32]) ++ [110, 111]).toArray⟩) | _ => none) (fun i v W => (i = 1 → ∃ z, v = .slice (some ⟨z, 0, none⟩) 4 4 ∧ Blk W z 9 #[.string ⟨#[114, 101, 97, 100]⟩, .string ⟨#[119, 114, 105, 116, 101]⟩, .string ⟨#[115, 119, 97, 112]⟩, .string ⟨#[97, 100, 100]⟩]) ∧ (i = 5 → ∃ z, v = .pointer (some ⟨z, 2, none⟩) ∧ Blk W z 9 #[.string ⟨#[114, 101, 97, 100]⟩, .string ⟨#[119, 114, 105, 116, 101]⟩, .string ⟨#[115, 119, 97, 112]⟩, .string ⟨#[97, 100, 100]⟩]))) Ext #[true, true, true, true, true, true, true, true, true, true, true, true, true, true, true, true, true, true, true, true, true, true, true, true, true, true, false, false] (by decide +kernel) (VF.stab ?_) ?_ ?_ (by first | exact (Ext.rf _).drew | exact Ext.rf _)
            · intro j v W W' _ gz hx
              obtain ⟨g0, g1⟩ := gz
              exact ⟨fun h => (g0 h).imp fun z hz => ⟨hz.1, hz.2.ext hx⟩, fun h => (g1 h).imp fun z hz => ⟨hz.1, hz.2.ext hx⟩⟩
            · intro pS hpm uS wS hRW hD K hK
              simp only [List.mem_cons, List.not_mem_nil, or_false] at hpm
              rcases hpm with rfl | rfl | rfl | rfl | rfl | rfl | rfl | rfl | rfl | rfl | rfl | rfl | rfl | rfl | rfl | rfl | rfl | rfl | rfl | rfl
              · ( exact op_run (op := Op.buildSlice 64 4 #[(0, Operand.const (Value.string { data := #[114, 101, 97, 100] })), (1, Operand.const (Value.string { data := #[119, 114, 105, 116, 101] })), (2, Operand.const (Value.string { data := #[115, 119, 97, 112] })), (3, Operand.const (Value.string { data := #[97, 100, 100] }))]) (t := 64) (d := some 38) rfl _ (by unfold exec2; go_simp; try rfl) (hK _ _ (VF.mg rfl ⟨(fun _ => ⟨_, rfl, .new rfl⟩), (fun h => absurd h (by decide))⟩) (hRW.alloc _) ((Ext.rf _).alloc _)))
              · ( have rX := keepEL hRW zB d1; exact op_ld (T := 3) (x := Operand.tmp 39) (t := 3) (d := some 40) rfl (.pointer (some ⟨w.heap.size, 1, none⟩)) (by kernel_rfl) (.int .i64 3) (by go_simp) (hK _ _ (VF.mk rfl) hRW (Ext.rf _)))
              · (have e3 : uS 3 = .int .i64 3 := (hD 3 (depIn (by kernel_rfl))).k rfl; exact op_run (op := Op.binOp BinOp.sub 3 (Operand.tmp 40) (Operand.const (Value.int IntKind.i64 1)) 3) (t := 3) (d := some 41) rfl (.int .i64 2) (by simp only [putAll, Act.put, List.setIfInBounds_toArray, List.set_cons_zero, List.set_cons_succ]; unfold exec2; (try go_simp); (try simp only [e3]); (try go_simp); (try rfl); (try (exact IntWalk.i64_in _ (by omega)))) (hK _ _ (VF.mk rfl) hRW (Ext.rf _)))
              · (have e4 : uS 4 = .int .i64 2 := (hD 4 (depIn (by kernel_rfl))).k rfl; obtain ⟨z, ez, bz⟩ := ((hD 1 (depIn (by kernel_rfl))).g rfl).1 rfl; exact op_ix (T := 64) (x := Operand.tmp 38) (y := Operand.tmp 41) (t := 0) (d := some 42) rfl (.slice (some ⟨z, 0, none⟩) 4 4) (.int .i64 2) (Eq.trans (b := uS 1) (by kernel_rfl) ez) (Eq.trans (b := uS 4) (by kernel_rfl) e4) (.pointer (some ⟨z, 2, none⟩)) (by go_simp) (hK _ _ (VF.mg rfl ⟨(fun h => absurd h (by decide)), (fun _ => ⟨z, rfl, bz⟩)⟩) hRW (Ext.rf _)))
              · (obtain ⟨z, ez, bz⟩ := ((hD 5 (depIn (by kernel_rfl))).g rfl).2 rfl; have rX : wS.cell? ⟨z, 2, none⟩ = some (.string ⟨([115, 119, 97, 112]).toArray⟩) := bz.cell 2; exact op_ld (T := 9) (x := Operand.tmp 42) (t := 9) (d := some 43) rfl (.pointer (some ⟨z, 2, none⟩)) (Eq.trans (b := uS 5) (by kernel_rfl) ez) (.string ⟨([115, 119, 97, 112]).toArray⟩) (by go_simp) (hK _ _ (VF.mk rfl) hRW (Ext.rf _)))
              · (have e6 : uS 6 = .string ⟨([115, 119, 97, 112]).toArray⟩ := (hD 6 (depIn (by kernel_rfl))).k rfl; exact op_cat (t := 9) (d := some 44) rfl (P) ([115, 119, 97, 112]) (by kernel_rfl) (Eq.trans (b := uS 6) (by kernel_rfl) e6) (by simp only [List.length_append, List.length_cons, List.length_nil]; omega) (hK _ _ (VF.mk rfl) hRW (Ext.rf _)))
              · (have e7 : uS 7 = .string ⟨(P ++ [115, 119, 97, 112]).toArray⟩ := (hD 7 (depIn (by kernel_rfl))).k rfl; exact op_cat (t := 9) (d := some 45) rfl ((P ++ [115, 119, 97, 112])) ([32]) (Eq.trans (b := uS 7) (by kernel_rfl) e7) (by kernel_rfl) (by simp only [List.length_append, List.length_cons, List.length_nil]; omega) (hK _ _ (VF.mk rfl) hRW (Ext.rf _)))
              · ( have rX := keepEL hRW zB d2; exact op_ld (T := 3) (x := Operand.tmp 46) (t := 3) (d := some 47) rfl (.pointer (some ⟨w.heap.size, 2, none⟩)) (by kernel_rfl) (.int .i64 cl) (by go_simp) (hK _ _ (VF.mk rfl) hRW (Ext.rf _)))
              · (have e10 : uS 10 = .int .i64 cl := (hD 10 (depIn (by kernel_rfl))).k rfl; exact op_call (f := 29) (xs := #[Operand.tmp 47]) (ts := #[3]) (t := 9) (d := some 48) rfl #[.int .i64 cl] (by go_simp) (Eq.trans (b := #[uS 10]) (by kernel_rfl) (by rw [e10])) _ (rwrite_any cl h3.1 h3.2 _) (by rintro e w9 ⟨rfl, xx⟩; exact ⟨_, rfl, hK _ _ (VF.mk rfl) (hRW.tr xx) xx⟩))
              · (have e8 : uS 8 = .string ⟨((P ++ [115, 119, 97, 112]) ++ [32]).toArray⟩ := (hD 8 (depIn (by kernel_rfl))).k rfl; have e11 : uS 11 = .string ⟨(Lib.itoa cl).toArray⟩ := (hD 11 (depIn (by kernel_rfl))).k rfl; exact op_cat (t := 9) (d := some 49) rfl (((P ++ [115, 119, 97, 112]) ++ [32])) (Lib.itoa cl) (Eq.trans (b := uS 8) (by kernel_rfl) e8) (Eq.trans (b := uS 11) (by kernel_rfl) e11) (by simp only [List.length_append, List.length_cons, List.length_nil]; omega) (hK _ _ (VF.mk rfl) hRW (Ext.rf _)))
              · (have e12 : uS 12 = .string ⟨(((P ++ [115, 119, 97, 112]) ++ [32]) ++ Lib.itoa cl).toArray⟩ := (hD 12 (depIn (by kernel_rfl))).k rfl; exact op_cat (t := 9) (d := some 50) rfl ((((P ++ [115, 119, 97, 112]) ++ [32]) ++ Lib.itoa cl)) ([32]) (Eq.trans (b := uS 12) (by kernel_rfl) e12) (by kernel_rfl) (by simp only [List.length_append, List.length_cons, List.length_nil]; omega) (hK _ _ (VF.mk rfl) hRW (Ext.rf _)))
              · ( have rX := keepEL hRW zB d3; exact op_ld (T := 3) (x := Operand.tmp 51) (t := 3) (d := some 52) rfl (.pointer (some ⟨w.heap.size, 3, none⟩)) (by kernel_rfl) (.int .i64 od) (by go_simp) (hK _ _ (VF.mk rfl) hRW (Ext.rf _)))
              · (have e15 : uS 15 = .int .i64 od := (hD 15 (depIn (by kernel_rfl))).k rfl; exact op_call (f := 29) (xs := #[Operand.tmp 52]) (ts := #[3]) (t := 9) (d := some 53) rfl #[.int .i64 od] (by go_simp) (Eq.trans (b := #[uS 15]) (by kernel_rfl) (by rw [e15])) _ (rwrite_any od h4.1 h4.2 _) (by rintro e w9 ⟨rfl, xx⟩; exact ⟨_, rfl, hK _ _ (VF.mk rfl) (hRW.tr xx) xx⟩))
              · (have e13 : uS 13 = .string ⟨((((P ++ [115, 119, 97, 112]) ++ [32]) ++ Lib.itoa cl) ++ [32]).toArray⟩ := (hD 13 (depIn (by kernel_rfl))).k rfl; have e16 : uS 16 = .string ⟨(Lib.itoa od).toArray⟩ := (hD 16 (depIn (by kernel_rfl))).k rfl; exact op_cat (t := 9) (d := some 54) rfl (((((P ++ [115, 119, 97, 112]) ++ [32]) ++ Lib.itoa cl) ++ [32])) (Lib.itoa od) (Eq.trans (b := uS 13) (by kernel_rfl) e13) (Eq.trans (b := uS 16) (by kernel_rfl) e16) (by simp only [List.length_append, List.length_cons, List.length_nil]; omega) (hK _ _ (VF.mk rfl) hRW (Ext.rf _)))
              · (have e17 : uS 17 = .string ⟨(((((P ++ [115, 119, 97, 112]) ++ [32]) ++ Lib.itoa cl) ++ [32]) ++ Lib.itoa od).toArray⟩ := (hD 17 (depIn (by kernel_rfl))).k rfl; exact op_cat (t := 9) (d := some 55) rfl ((((((P ++ [115, 119, 97, 112]) ++ [32]) ++ Lib.itoa cl) ++ [32]) ++ Lib.itoa od)) ([32]) (Eq.trans (b := uS 17) (by kernel_rfl) e17) (by kernel_rfl) (by simp only [List.length_append, List.length_cons, List.length_nil]; omega) (hK _ _ (VF.mk rfl) hRW (Ext.rf _)))
              · ( have rX := keepEL hRW zB d4; exact op_ld (T := 3) (x := Operand.tmp 56) (t := 3) (d := some 57) rfl (.pointer (some ⟨w.heap.size, 4, none⟩)) (by kernel_rfl) (.int .i64 nw) (by go_simp) (hK _ _ (VF.mk rfl) hRW (Ext.rf _)))
              · (have e20 : uS 20 = .int .i64 nw := (hD 20 (depIn (by kernel_rfl))).k rfl; exact op_call (f := 29) (xs := #[Operand.tmp 57]) (ts := #[3]) (t := 9) (d := some 58) rfl #[.int .i64 nw] (by go_simp) (Eq.trans (b := #[uS 20]) (by kernel_rfl) (by rw [e20])) _ (rwrite_any nw h5.1 h5.2 _) (by rintro e w9 ⟨rfl, xx⟩; exact ⟨_, rfl, hK _ _ (VF.mk rfl) (hRW.tr xx) xx⟩))
              · (have e18 : uS 18 = .string ⟨((((((P ++ [115, 119, 97, 112]) ++ [32]) ++ Lib.itoa cl) ++ [32]) ++ Lib.itoa od) ++ [32]).toArray⟩ := (hD 18 (depIn (by kernel_rfl))).k rfl; have e21 : uS 21 = .string ⟨(Lib.itoa nw).toArray⟩ := (hD 21 (depIn (by kernel_rfl))).k rfl; exact op_cat (t := 9) (d := some 59) rfl (((((((P ++ [115, 119, 97, 112]) ++ [32]) ++ Lib.itoa cl) ++ [32]) ++ Lib.itoa od) ++ [32])) (Lib.itoa nw) (Eq.trans (b := uS 18) (by kernel_rfl) e18) (Eq.trans (b := uS 21) (by kernel_rfl) e21) (by simp only [List.length_append, List.length_cons, List.length_nil]; omega) (hK _ _ (VF.mk rfl) hRW (Ext.rf _)))
              · (have e22 : uS 22 = .string ⟨(((((((P ++ [115, 119, 97, 112]) ++ [32]) ++ Lib.itoa cl) ++ [32]) ++ Lib.itoa od) ++ [32]) ++ Lib.itoa nw).toArray⟩ := (hD 22 (depIn (by kernel_rfl))).k rfl; exact op_cat (t := 9) (d := some 60) rfl ((((((((P ++ [115, 119, 97, 112]) ++ [32]) ++ Lib.itoa cl) ++ [32]) ++ Lib.itoa od) ++ [32]) ++ Lib.itoa nw)) ([32]) (Eq.trans (b := uS 22) (by kernel_rfl) e22) (by kernel_rfl) (by simp only [List.length_append, List.length_cons, List.length_nil]; omega) (hK _ _ (VF.mk rfl) hRW (Ext.rf _)))
              · (have e23 : uS 23 = .string ⟨((((((((P ++ [115, 119, 97, 112]) ++ [32]) ++ Lib.itoa cl) ++ [32]) ++ Lib.itoa od) ++ [32]) ++ Lib.itoa nw) ++ [32]).toArray⟩ := (hD 23 (depIn (by kernel_rfl))).k rfl; exact op_cat (t := 9) (d := some 62) rfl (((((((((P ++ [115, 119, 97, 112]) ++ [32]) ++ Lib.itoa cl) ++ [32]) ++ Lib.itoa od) ++ [32]) ++ Lib.itoa nw) ++ [32])) ([110, 111]) (Eq.trans (b := uS 23) (by kernel_rfl) e23) (by kernel_rfl) (by simp only [List.length_append, List.length_cons, List.length_nil]; omega) (hK _ _ (VF.mk rfl) hRW (Ext.rf _)))
            intro u w3 hR3 hV
            have h3 := (hV (3, some 40) (by simp)).k rfl
            have h4 := (hV (4, some 41) (by simp)).k rfl
            have h6 := (hV (6, some 43) (by simp)).k rfl
            have h7 := (hV (7, some 44) (by simp)).k rfl
            have h8 := (hV (8, some 45) (by simp)).k rfl
            have h10 := (hV (10, some 47) (by simp)).k rfl
            have h11 := (hV (11, some 48) (by simp)).k rfl
            have h12 := (hV (12, some 49) (by simp)).k rfl
            have h13 := (hV (13, some 50) (by simp)).k rfl
            have h15 := (hV (15, some 52) (by simp)).k rfl
            have h16 := (hV (16, some 53) (by simp)).k rfl
            have h17 := (hV (17, some 54) (by simp)).k rfl
            have h18 := (hV (18, some 55) (by simp)).k rfl
            have h20 := (hV (20, some 57) (by simp)).k rfl
            have h21 := (hV (21, some 58) (by simp)).k rfl
            have h22 := (hV (22, some 59) (by simp)).k rfl
            have h23 := (hV (23, some 60) (by simp)).k rfl
            have h25 := (hV (25, some 62) (by simp)).k rfl
            simp only [putAll, h3, h4, h6, h7, h8, h10, h11, h12, h13, h15, h16, h17, h18, h20, h21, h22, h23, h25]
            clear hV h3 h4 h6 h7 h8 h10 h11 h12 h13 h15 h16 h17 h18 h20 h21 h22 h23 h25
            try simp only [Act.put, List.setIfInBounds_toArray, List.set_cons_zero, List.set_cons_succ]
            have X3 := Lib.hid (X2.out.tr hR3)
            clear hR3
            try simp only [Act.put, List.setIfInBounds_toArray, List.set_cons_zero, List.set_cons_succ]
            refine wpAny_T (i := 26) (op := Op.assign (Operand.tmp 62)) (t := 9) (d := some 2) (v := ?_) rfl (by decide +kernel) (by decide +kernel) (by decide +kernel) (fun _ _ _ h => h) ?_ ?_
            case refine_2 => (intro _; unfold exec2; go_simp; try with_reducible rfl)
            try simp only [Act.put, List.setIfInBounds_toArray, List.set_cons_zero, List.set_cons_succ]
            refine wpAny_T (i := 27) (op := Op.assign (Operand.const (Value.bool true))) (t := 4) (d := some 3) (v := ?_) rfl (by decide +kernel) (by decide +kernel) (by decide +kernel) (fun _ _ _ h => h) ?_ ?_
            case refine_2 => (intro _; unfold exec2; go_simp; try with_reducible rfl)
            try simp only [Act.put, List.setIfInBounds_toArray, List.set_cons_zero, List.set_cons_succ]
            refine wpAny_done (by kernel_rfl) ?_ _
            go_simp
            go_wp2_with (fail)
            go_ret2
            rw [hl.out]
            exact ⟨by simp [txS, kindT, yesT, tRead, tWrite, tSwap, tAdd], X3.out⟩
        · cases dn with
          | true =>
            go_wp2_with (fail)
            refine wp_region_any (by kernel_rfl) ?_
            change wpAny _ _ _ _ _ _ _ (World.drew _)
            refine wpAny_T (i := 0) (op := Op.move (Operand.tmp 4)) (t := 9) (d := some 37) (v := ?_) rfl (by decide +kernel) (by decide +kernel) (by decide +kernel) (fun _ _ _ h => h) ?_ ?_
            case refine_2 => (intro _; unfold exec2; go_simp; try with_reducible rfl)
            try simp only [Act.put, List.setIfInBounds_toArray, List.set_cons_zero, List.set_cons_succ]
            refine wpAny_T (i := 2) (op := Op.fieldAddr 39 (Operand.tmp 1) 1) (t := 0) (d := some 39) (v := ?_) rfl (by decide +kernel) (by decide +kernel) (by decide +kernel) (fun _ _ _ h => h) ?_ ?_
            case refine_2 => (intro _; unfold exec2; go_simp; try with_reducible rfl)
            try simp only [Act.put, List.setIfInBounds_toArray, List.set_cons_zero, List.set_cons_succ]
            refine wpAny_T (i := 9) (op := Op.fieldAddr 39 (Operand.tmp 1) 2) (t := 0) (d := some 46) (v := ?_) rfl (by decide +kernel) (by decide +kernel) (by decide +kernel) (fun _ _ _ h => h) ?_ ?_
            case refine_2 => (intro _; unfold exec2; go_simp; try with_reducible rfl)
            try simp only [Act.put, List.setIfInBounds_toArray, List.set_cons_zero, List.set_cons_succ]
            refine wpAny_T (i := 14) (op := Op.fieldAddr 39 (Operand.tmp 1) 3) (t := 0) (d := some 51) (v := ?_) rfl (by decide +kernel) (by decide +kernel) (by decide +kernel) (fun _ _ _ h => h) ?_ ?_
            case refine_2 => (intro _; unfold exec2; go_simp; try with_reducible rfl)
            try simp only [Act.put, List.setIfInBounds_toArray, List.set_cons_zero, List.set_cons_succ]
            refine wpAny_T (i := 19) (op := Op.fieldAddr 39 (Operand.tmp 1) 4) (t := 0) (d := some 56) (v := ?_) rfl (by decide +kernel) (by decide +kernel) (by decide +kernel) (fun _ _ _ h => h) ?_ ?_
            case refine_2 => (intro _; unfold exec2; go_simp; try with_reducible rfl)
            try simp only [Act.put, List.setIfInBounds_toArray, List.set_cons_zero, List.set_cons_succ]
            refine wpAny_T (i := 24) (op := Op.move (Operand.tmp 5)) (t := 9) (d := some 61) (v := ?_) rfl (by decide +kernel) (by decide +kernel) (by decide +kernel) (fun _ _ _ h => h) ?_ ?_
            case refine_2 => (intro _; unfold exec2; go_simp; try with_reducible rfl)
            try simp only [Act.put, List.setIfInBounds_toArray, List.set_cons_zero, List.set_cons_succ]
            refine wpAny_core2 (n := 2) [(1, some 38), (3, some 40), (4, some 41), (5, some 42), (6, some 43), (7, some 44), (8, some 45), (10, some 47), (11, some 48), (12, some 49), (13, some 50), (15, some 52), (16, some 53), (17, some 54), (18, some 55), (20, some 57), (21, some 58), (22, some 59), (23, some 60), (25, some 62)] (Ext w2) (VF (fun | 3 => some (.int .i64 4) | 4 => some (.int .i64 3) | 6 => some (.string ⟨([97, 100, 100]).toArray⟩) | 7 => some (.string ⟨(P ++ [97, 100, 100]).toArray⟩) | 8 => some (.string ⟨((P ++ [97, 100, 100]) ++ [32]).toArray⟩) | 10 => some (.int .i64 cl) | 11 => some (.string ⟨(Lib.itoa cl).toArray⟩) | 12 => some (.string ⟨(((P ++ [97, 100, 100]) ++ [32]) ++ Lib.itoa cl).toArray⟩) | 13 => some (.string ⟨((((P ++ [97, 100, 100]) ++ [32]) ++ Lib.itoa cl) ++ [32]).toArray⟩) | 15 => some (.int .i64 od) | 16 => some (.string ⟨(Lib.itoa od).toArray⟩) | 17 => some (.string ⟨(((((P ++ [97, 100, 100]) ++ [32]) ++ Lib.itoa cl) ++ [32]) ++ Lib.itoa od).toArray⟩) | 18 => some (.string ⟨((((((P ++ [97, 100, 100]) ++ [32]) ++ Lib.itoa cl) ++ [32]) ++ Lib.itoa od) ++ [32]).toArray⟩) | 20 => some (.int .i64 nw) | 21 => some (.string ⟨(Lib.itoa nw).toArray⟩) | 22 => some (.string ⟨(((((((P ++ [97, 100, 100]) ++ [32]) ++ Lib.itoa cl) ++ [32]) ++ Lib.itoa od) ++ [32]) ++ Lib.itoa nw).toArray⟩) | 23 => some (.string ⟨((((((((P ++ [97, 100, 100]) ++ [32]) ++ Lib.itoa cl) ++ [32]) ++ Lib.itoa od) ++ [32]) ++ Lib.itoa nw) ++ [32]).toArray⟩) | 25 => some (.string ⟨(((((((((P ++ [97, 100, 100]) ++ [32]) ++ Lib.itoa cl) ++ [32]) ++ Lib.itoa od) ++ [32]) ++ Lib.itoa nw) ++ [32]) ++ [121, 101, 115]).toArray⟩) | _ => none) (fun i v W => (i = 1 → ∃ z, v = .slice (some ⟨z, 0, none⟩) 4 4 ∧ Blk W z 9 #[.string ⟨#[114, 101, 97, 100]⟩, .string ⟨#[119, 114, 105, 116, 101]⟩, .string ⟨#[115, 119, 97, 112]⟩, .string ⟨#[97, 100, 100]⟩]) ∧ (i = 5 → ∃ z, v = .pointer (some ⟨z, 3, none⟩) ∧ Blk W z 9 #[.string ⟨#[114, 101, 97, 100]⟩, .string ⟨#[119, 114, 105, 116, 101]⟩, .string ⟨#[115, 119, 97, 112]⟩, .string ⟨#[97, 100, 100]⟩]))) Ext #[true, true, true, true, true, true, true, true, true, true, true, true, true, true, true, true, true, true, true, true, true, true, true, true, true, true, false, false] (by decide +kernel) (VF.stab ?_) ?_ ?_ (by first | exact (Ext.rf _).drew | exact Ext.rf _)
            · intro j v W W' _ gz hx
              obtain ⟨g0, g1⟩ := gz
              exact ⟨fun h => (g0 h).imp fun z hz => ⟨hz.1, hz.2.ext hx⟩, fun h => (g1 h).imp fun z hz => ⟨hz.1, hz.2.ext hx⟩⟩
            · intro pS hpm uS wS hRW hD K hK
              simp only [List.mem_cons, List.not_mem_nil, or_false] at hpm
              rcases hpm with rfl | rfl | rfl | rfl | rfl | rfl | rfl | rfl | rfl | rfl | rfl | rfl | rfl | rfl | rfl | rfl | rfl | rfl | rfl | rfl
              · ( exact op_run (op := Op.buildSlice 64 4 #[(0, Operand.const (Value.string { data := #[114, 101, 97, 100] })), (1, Operand.const (Value.string { data := #[119, 114, 105, 116, 101] })), (2, Operand.const (Value.string { data := #[115, 119, 97, 112] })), (3, Operand.const (Value.string { data := #[97, 100, 100] }))]) (t := 64) (d := some 38) rfl _ (by unfold exec2; go_simp; try rfl) (hK _ _ (VF.mg rfl ⟨(fun _ => ⟨_, rfl, .new rfl⟩), (fun h => absurd h (by decide))⟩) (hRW.alloc _) ((Ext.rf _).alloc _)))
              · ( have rX := keepEL hRW zB d1; exact op_ld (T := 3) (x := Operand.tmp 39) (t := 3) (d := some 40) rfl (.pointer (some ⟨w.heap.size, 1, none⟩)) (by kernel_rfl) (.int .i64 4) (by go_simp) (hK _ _ (VF.mk rfl) hRW (Ext.rf _)))
              · (have e3 : uS 3 = .int .i64 4 := (hD 3 (depIn (by kernel_rfl))).k rfl; exact op_run (op := Op.binOp BinOp.sub 3 (Operand.tmp 40) (Operand.const (Value.int IntKind.i64 1)) 3) (t := 3) (d := some 41) rfl (.int .i64 3) (by simp only [putAll, Act.put, List.setIfInBounds_toArray, List.set_cons_zero, List.set_cons_succ]; unfold exec2; (try go_simp); (try simp only [e3]); (try go_simp); (try rfl); (try (exact IntWalk.i64_in _ (by omega)))) (hK _ _ (VF.mk rfl) hRW (Ext.rf _)))
              · (have e4 : uS 4 = .int .i64 3 := (hD 4 (depIn (by kernel_rfl))).k rfl; obtain ⟨z, ez, bz⟩ := ((hD 1 (depIn (by kernel_rfl))).g rfl).1 rfl; exact op_ix (T := 64) (x := Operand.tmp 38) (y := Operand.tmp 41) (t := 0) (d := some 42) rfl (.slice (some ⟨z, 0, none⟩) 4 4) (.int .i64 3) (Eq.trans (b := uS 1) (by kernel_rfl) ez) (Eq.trans (b := uS 4) (by kernel_rfl) e4) (.pointer (some ⟨z, 3, none⟩)) (by go_simp) (hK _ _ (VF.mg rfl ⟨(fun h => absurd h (by decide)), (fun _ => ⟨z, rfl, bz⟩)⟩) hRW (Ext.rf _)))
              · (obtain ⟨z, ez, bz⟩ := ((hD 5 (depIn (by kernel_rfl))).g rfl).2 rfl; have rX : wS.cell? ⟨z, 3, none⟩ = some (.string ⟨([97, 100, 100]).toArray⟩) := bz.cell 3; exact op_ld (T := 9) (x := Operand.tmp 42) (t := 9) (d := some 43) rfl (.pointer (some ⟨z, 3, none⟩)) (Eq.trans (b := uS 5) (by kernel_rfl) ez) (.string ⟨([97, 100, 100]).toArray⟩) (by go_simp) (hK _ _ (VF.mk rfl) hRW (Ext.rf _)))
              · (have e6 : uS 6 = .string ⟨([97, 100, 100]).toArray⟩ := (hD 6 (depIn (by kernel_rfl))).k rfl; exact op_cat (t := 9) (d := some 44) rfl (P) ([97, 100, 100]) (by kernel_rfl) (Eq.trans (b := uS 6) (by kernel_rfl) e6) (by simp only [List.length_append, List.length_cons, List.length_nil]; omega) (hK _ _ (VF.mk rfl) hRW (Ext.rf _)))
              · (have e7 : uS 7 = .string ⟨(P ++ [97, 100, 100]).toArray⟩ := (hD 7 (depIn (by kernel_rfl))).k rfl; exact op_cat (t := 9) (d := some 45) rfl ((P ++ [97, 100, 100])) ([32]) (Eq.trans (b := uS 7) (by kernel_rfl) e7) (by kernel_rfl) (by simp only [List.length_append, List.length_cons, List.length_nil]; omega) (hK _ _ (VF.mk rfl) hRW (Ext.rf _)))
              · ( have rX := keepEL hRW zB d2; exact op_ld (T := 3) (x := Operand.tmp 46) (t := 3) (d := some 47) rfl (.pointer (some ⟨w.heap.size, 2, none⟩)) (by kernel_rfl) (.int .i64 cl) (by go_simp) (hK _ _ (VF.mk rfl) hRW (Ext.rf _)))
              · (have e10 : uS 10 = .int .i64 cl := (hD 10 (depIn (by kernel_rfl))).k rfl; exact op_call (f := 29) (xs := #[Operand.tmp 47]) (ts := #[3]) (t := 9) (d := some 48) rfl #[.int .i64 cl] (by go_simp) (Eq.trans (b := #[uS 10]) (by kernel_rfl) (by rw [e10])) _ (rwrite_any cl h3.1 h3.2 _) (by rintro e w9 ⟨rfl, xx⟩; exact ⟨_, rfl, hK _ _ (VF.mk rfl) (hRW.tr xx) xx⟩))
              · (have e8 : uS 8 = .string ⟨((P ++ [97, 100, 100]) ++ [32]).toArray⟩ := (hD 8 (depIn (by kernel_rfl))).k rfl; have e11 : uS 11 = .string ⟨(Lib.itoa cl).toArray⟩ := (hD 11 (depIn (by kernel_rfl))).k rfl; exact op_cat (t := 9) (d := some 49) rfl (((P ++ [97, 100, 100]) ++ [32])) (Lib.itoa cl) (Eq.trans (b := uS 8) (by kernel_rfl) e8) (Eq.trans (b := uS 11) (by kernel_rfl) e11) (by simp only [List.length_append, List.length_cons, List.length_nil]; omega) (hK _ _ (VF.mk rfl) hRW (Ext.rf _)))
              · (have e12 : uS 12 = .string ⟨(((P ++ [97, 100, 100]) ++ [32]) ++ Lib.itoa cl).toArray⟩ := (hD 12 (depIn (by kernel_rfl))).k rfl; exact op_cat (t := 9) (d := some 50) rfl ((((P ++ [97, 100, 100]) ++ [32]) ++ Lib.itoa cl)) ([32]) (Eq.trans (b := uS 12) (by kernel_rfl) e12) (by kernel_rfl) (by simp only [List.length_append, List.length_cons, List.length_nil]; omega) (hK _ _ (VF.mk rfl) hRW (Ext.rf _)))
              · ( have rX := keepEL hRW zB d3; exact op_ld (T := 3) (x := Operand.tmp 51) (t := 3) (d := some 52) rfl (.pointer (some ⟨w.heap.size, 3, none⟩)) (by kernel_rfl) (.int .i64 od) (by go_simp) (hK _ _ (VF.mk rfl) hRW (Ext.rf _)))
              · (have e15 : uS 15 = .int .i64 od := (hD 15 (depIn (by kernel_rfl))).k rfl; exact op_call (f := 29) (xs := #[Operand.tmp 52]) (ts := #[3]) (t := 9) (d := some 53) rfl #[.int .i64 od] (by go_simp) (Eq.trans (b := #[uS 15]) (by kernel_rfl) (by rw [e15])) _ (rwrite_any od h4.1 h4.2 _) (by rintro e w9 ⟨rfl, xx⟩; exact ⟨_, rfl, hK _ _ (VF.mk rfl) (hRW.tr xx) xx⟩))
              · (have e13 : uS 13 = .string ⟨((((P ++ [97, 100, 100]) ++ [32]) ++ Lib.itoa cl) ++ [32]).toArray⟩ := (hD 13 (depIn (by kernel_rfl))).k rfl; have e16 : uS 16 = .string ⟨(Lib.itoa od).toArray⟩ := (hD 16 (depIn (by kernel_rfl))).k rfl; exact op_cat (t := 9) (d := some 54) rfl (((((P ++ [97, 100, 100]) ++ [32]) ++ Lib.itoa cl) ++ [32])) (Lib.itoa od) (Eq.trans (b := uS 13) (by kernel_rfl) e13) (Eq.trans (b := uS 16) (by kernel_rfl) e16) (by simp only [List.length_append, List.length_cons, List.length_nil]; omega) (hK _ _ (VF.mk rfl) hRW (Ext.rf _)))
              · (have e17 : uS 17 = .string ⟨(((((P ++ [97, 100, 100]) ++ [32]) ++ Lib.itoa cl) ++ [32]) ++ Lib.itoa od).toArray⟩ := (hD 17 (depIn (by kernel_rfl))).k rfl; exact op_cat (t := 9) (d := some 55) rfl ((((((P ++ [97, 100, 100]) ++ [32]) ++ Lib.itoa cl) ++ [32]) ++ Lib.itoa od)) ([32]) (Eq.trans (b := uS 17) (by kernel_rfl) e17) (by kernel_rfl) (by simp only [List.length_append, List.length_cons, List.length_nil]; omega) (hK _ _ (VF.mk rfl) hRW (Ext.rf _)))
              · ( have rX := keepEL hRW zB d4; exact op_ld (T := 3) (x := Operand.tmp 56) (t := 3) (d := some 57) rfl (.pointer (some ⟨w.heap.size, 4, none⟩)) (by kernel_rfl) (.int .i64 nw) (by go_simp) (hK _ _ (VF.mk rfl) hRW (Ext.rf _)))
              · (have e20 : uS 20 = .int .i64 nw := (hD 20 (depIn (by kernel_rfl))).k rfl; exact op_call (f := 29) (xs := #[Operand.tmp 57]) (ts := #[3]) (t := 9) (d := some 58) rfl #[.int .i64 nw] (by go_simp) (Eq.trans (b := #[uS 20]) (by kernel_rfl) (by rw [e20])) _ (rwrite_any nw h5.1 h5.2 _) (by rintro e w9 ⟨rfl, xx⟩; exact ⟨_, rfl, hK _ _ (VF.mk rfl) (hRW.tr xx) xx⟩))
              · (have e18 : uS 18 = .string ⟨((((((P ++ [97, 100, 100]) ++ [32]) ++ Lib.itoa cl) ++ [32]) ++ Lib.itoa od) ++ [32]).toArray⟩ := (hD 18 (depIn (by kernel_rfl))).k rfl; have e21 : uS 21 = .string ⟨(Lib.itoa nw).toArray⟩ := (hD 21 (depIn (by kernel_rfl))).k rfl; exact op_cat (t := 9) (d := some 59) rfl (((((((P ++ [97, 100, 100]) ++ [32]) ++ Lib.itoa cl) ++ [32]) ++ Lib.itoa od) ++ [32])) (Lib.itoa nw) (Eq.trans (b := uS 18) (by kernel_rfl) e18) (Eq.trans (b := uS 21) (by kernel_rfl) e21) (by simp only [List.length_append, List.length_cons, List.length_nil]; omega) (hK _ _ (VF.mk rfl) hRW (Ext.rf _)))
              · (have e22 : uS 22 = .string ⟨(((((((P ++ [97, 100, 100]) ++ [32]) ++ Lib.itoa cl) ++ [32]) ++ Lib.itoa od) ++ [32]) ++ Lib.itoa nw).toArray⟩ := (hD 22 (depIn (by kernel_rfl))).k rfl; exact op_cat (t := 9) (d := some 60) rfl ((((((((P ++ [97, 100, 100]) ++ [32]) ++ Lib.itoa cl) ++ [32]) ++ Lib.itoa od) ++ [32]) ++ Lib.itoa nw)) ([32]) (Eq.trans (b := uS 22) (by kernel_rfl) e22) (by kernel_rfl) (by simp only [List.length_append, List.length_cons, List.length_nil]; omega) (hK _ _ (VF.mk rfl) hRW (Ext.rf _)))
              · (have e23 : uS 23 = .string ⟨((((((((P ++ [97, 100, 100]) ++ [32]) ++ Lib.itoa cl) ++ [32]) ++ Lib.itoa od) ++ [32]) ++ Lib.itoa nw) ++ [32]).toArray⟩ := (hD 23 (depIn (by kernel_rfl))).k rfl; exact op_cat (t := 9) (d := some 62) rfl (((((((((P ++ [97, 100, 100]) ++ [32]) ++ Lib.itoa cl) ++ [32]) ++ Lib.itoa od) ++ [32]) ++ Lib.itoa nw) ++ [32])) ([121, 101, 115]) (Eq.trans (b := uS 23) (by kernel_rfl) e23) (by kernel_rfl) (by simp only [List.length_append, List.length_cons, List.length_nil]; omega) (hK _ _ (VF.mk rfl) hRW (Ext.rf _)))
            intro u w3 hR3 hV
            have h3 := (hV (3, some 40) (by simp)).k rfl
            have h4 := (hV (4, some 41) (by simp)).k rfl
            have h6 := (hV (6, some 43) (by simp)).k rfl
            have h7 := (hV (7, some 44) (by simp)).k rfl
            have h8 := (hV (8, some 45) (by simp)).k rfl
            have h10 := (hV (10, some 47) (by simp)).k rfl
            have h11 := (hV (11, some 48) (by simp)).k rfl
            have h12 := (hV (12, some 49) (by simp)).k rfl
            have h13 := (hV (13, some 50) (by simp)).k rfl
            have h15 := (hV (15, some 52) (by simp)).k rfl
            have h16 := (hV (16, some 53) (by simp)).k rfl
            have h17 := (hV (17, some 54) (by simp)).k rfl
            have h18 := (hV (18, some 55) (by simp)).k rfl
            have h20 := (hV (20, some 57) (by simp)).k rfl
            have h21 := (hV (21, some 58) (by simp)).k rfl
            have h22 := (hV (22, some 59) (by simp)).k rfl
            have h23 := (hV (23, some 60) (by simp)).k rfl
            have h25 := (hV (25, some 62) (by simp)).k rfl
            simp only [putAll, h3, h4, h6, h7, h8, h10, h11, h12, h13, h15, h16, h17, h18, h20, h21, h22, h23, h25]
            clear hV h3 h4 h6 h7 h8 h10 h11 h12 h13 h15 h16 h17 h18 h20 h21 h22 h23 h25
            try simp only [Act.put, List.setIfInBounds_toArray, List.set_cons_zero, List.set_cons_succ]
            have X3 := Lib.hid (X2.out.tr hR3)
            clear hR3
            try simp only [Act.put, List.setIfInBounds_toArray, List.set_cons_zero, List.set_cons_succ]
            refine wpAny_T (i := 26) (op := Op.assign (Operand.tmp 62)) (t := 9) (d := some 2) (v := ?_) rfl (by decide +kernel) (by decide +kernel) (by decide +kernel) (fun _ _ _ h => h) ?_ ?_
            case refine_2 => (intro _; unfold exec2; go_simp; try with_reducible rfl)
            try simp only [Act.put, List.setIfInBounds_toArray, List.set_cons_zero, List.set_cons_succ]
            refine wpAny_T (i := 27) (op := Op.assign (Operand.const (Value.bool true))) (t := 4) (d := some 3) (v := ?_) rfl (by decide +kernel) (by decide +kernel) (by decide +kernel) (fun _ _ _ h => h) ?_ ?_
            case refine_2 => (intro _; unfold exec2; go_simp; try with_reducible rfl)
            try simp only [Act.put, List.setIfInBounds_toArray, List.set_cons_zero, List.set_cons_succ]
            refine wpAny_done (by kernel_rfl) ?_ _
            go_simp
            go_wp2_with (fail)
            go_ret2
            rw [hl.out]
            exact ⟨by simp [txS, kindT, yesT, tRead, tWrite, tSwap, tAdd], X3.out⟩
          | false =>
            go_wp2_with (fail)
            refine wp_region_any (by kernel_rfl) ?_
            change wpAny _ _ _ _ _ _ _ (World.drew _)
            refine wpAny_T (i := 0) (op := Op.move (Operand.tmp 4)) (t := 9) (d := some 37) (v := ?_) rfl (by decide +kernel) (by decide +kernel) (by decide +kernel) (fun _ _ _ h => h) ?_ ?_
            case refine_2 => (intro _; unfold exec2; go_simp; try with_reducible rfl)
            try simp only [Act.put, List.setIfInBounds_toArray, List.set_cons_zero, List.set_cons_succ]
            refine wpAny_T (i := 2) (op := Op.fieldAddr 39 (Operand.tmp 1) 1) (t := 0) (d := some 39) (v := ?_) rfl (by decide +kernel) (by decide +kernel) (by decide +kernel) (fun _ _ _ h => h) ?_ ?_
            case refine_2 => (intro _; unfold exec2; go_simp; try with_reducible rfl)
            try simp only [Act.put, List.setIfInBounds_toArray, List.set_cons_zero, List.set_cons_succ]
            refine wpAny_T (i := 9) (op := Op.fieldAddr 39 (Operand.tmp 1) 2) (t := 0) (d := some 46) (v := ?_) rfl (by decide +kernel) (by decide +kernel) (by decide +kernel) (fun _ _ _ h => h) ?_ ?_
            case refine_2 => (intro _; unfold exec2; go_simp; try with_reducible rfl)
            try simp only [Act.put, List.setIfInBounds_toArray, List.set_cons_zero, List.set_cons_succ]
            refine wpAny_T (i := 14) (op := Op.fieldAddr 39 (Operand.tmp 1) 3) (t := 0) (d := some 51) (v := ?_) rfl (by decide +kernel) (by decide +kernel) (by decide +kernel) (fun _ _ _ h => h) ?_ ?_
            case refine_2 => (intro _; unfold exec2; go_simp; try with_reducible rfl)
            try simp only [Act.put, List.setIfInBounds_toArray, List.set_cons_zero, List.set_cons_succ]
            refine wpAny_T (i := 19) (op := Op.fieldAddr 39 (Operand.tmp 1) 4) (t := 0) (d := some 56) (v := ?_) rfl (by decide +kernel) (by decide +kernel) (by decide +kernel) (fun _ _ _ h => h) ?_ ?_
            case refine_2 => (intro _; unfold exec2; go_simp; try with_reducible rfl)
            try simp only [Act.put, List.setIfInBounds_toArray, List.set_cons_zero, List.set_cons_succ]
            refine wpAny_T (i := 24) (op := Op.move (Operand.tmp 5)) (t := 9) (d := some 61) (v := ?_) rfl (by decide +kernel) (by decide +kernel) (by decide +kernel) (fun _ _ _ h => h) ?_ ?_
            case refine_2 => (intro _; unfold exec2; go_simp; try with_reducible rfl)
            try simp only [Act.put, List.setIfInBounds_toArray, List.set_cons_zero, List.set_cons_succ]
            refine wpAny_core2 (n := 2) [(1, some 38), (3, some 40), (4, some 41), (5, some 42), (6, some 43), (7, some 44), (8, some 45), (10, some 47), (11, some 48), (12, some 49), (13, some 50), (15, some 52), (16, some 53), (17, some 54), (18, some 55), (20, some 57), (21, some 58), (22, some 59), (23, some 60), (25, some 62)] (Ext w2) (VF (fun | 3 => some (.int .i64 4) | 4 => some (.int .i64 3) | 6 => some (.string ⟨([97, 100, 100]).toArray⟩) | 7 => some (.string ⟨(P ++ [97, 100, 100]).toArray⟩) | 8 => some (.string ⟨((P ++ [97, 100, 100]) ++ [32]).toArray⟩) | 10 => some (.int .i64 cl) | 11 => some (.string ⟨(Lib.itoa cl).toArray⟩) | 12 => some (.string ⟨(((P ++ [97, 100, 100]) ++ [32]) ++ Lib.itoa cl).toArray⟩) | 13 => some (.string ⟨((((P ++ [97, 100, 100]) ++ [32]) ++ Lib.itoa cl) ++ [32]).toArray⟩) | 15 => some (.int .i64 od) | 16 => some (.string ⟨(Lib.itoa od).toArray⟩) | 17 => some (.string ⟨(((((P ++ [97, 100, 100]) ++ [32]) ++ Lib.itoa cl) ++ [32]) ++ Lib.itoa od).toArray⟩) | 18 => some (.string ⟨((((((P ++ [97, 100, 100]) ++ [32]) ++ Lib.itoa cl) ++ [32]) ++ Lib.itoa od) ++ [32]).toArray⟩) | 20 => some (.int .i64 nw) | 21 => some (.string ⟨(Lib.itoa nw).toArray⟩) | 22 => some (.string ⟨(((((((P ++ [97, 100, 100]) ++ [32]) ++ Lib.itoa cl) ++ [32]) ++ Lib.itoa od) ++ [32]) ++ Lib.itoa nw).toArray⟩) | 23 => some (.string ⟨((((((((P ++ [97, 100, 100]) ++ [32]) ++ Lib.itoa cl) ++ [32]) ++ Lib.itoa od) ++ [32]) ++ Lib.itoa nw) ++ [32]).toArray⟩) | 25 => some (.string ⟨(((((((((P ++ [97, 100, 100]) ++ [32]) ++ Lib.itoa cl) ++ [32]) ++ Lib.itoa od) ++ [32]) ++ Lib.itoa nw) ++ [32]) ++ [110, 111]).toArray⟩) | _ => none) (fun i v W => (i = 1 → ∃ z, v = .slice (some ⟨z, 0, none⟩) 4 4 ∧ Blk W z 9 #[.string ⟨#[114, 101, 97, 100]⟩, .string ⟨#[119, 114, 105, 116, 101]⟩, .string ⟨#[115, 119, 97, 112]⟩, .string ⟨#[97, 100, 100]⟩]) ∧ (i = 5 → ∃ z, v = .pointer (some ⟨z, 3, none⟩) ∧ Blk W z 9 #[.string ⟨#[114, 101, 97, 100]⟩, .string ⟨#[119, 114, 105, 116, 101]⟩, .string ⟨#[115, 119, 97, 112]⟩, .string ⟨#[97, 100, 100]⟩]))) Ext #[true, true, true, true, true, true, true, true, true, true, true, true, true, true, true, true, true, true, true, true, true, true, true, true, true, true, false, false] (by decide +kernel) (VF.stab ?_) ?_ ?_ (by first | exact (Ext.rf _).drew | exact Ext.rf _)
            · intro j v W W' _ gz hx
              obtain ⟨g0, g1⟩ := gz
              exact ⟨fun h => (g0 h).imp fun z hz => ⟨hz.1, hz.2.ext hx⟩, fun h => (g1 h).imp fun z hz => ⟨hz.1, hz.2.ext hx⟩⟩
            · intro pS hpm uS wS hRW hD K hK
              simp only [List.mem_cons, List.not_mem_nil, or_false] at hpm
              rcases hpm with rfl | rfl | rfl | rfl | rfl | rfl | rfl | rfl | rfl | rfl | rfl | rfl | rfl | rfl | rfl | rfl | rfl | rfl | rfl | rfl
              · ( exact op_run (op := Op.buildSlice 64 4 #[(0, Operand.const (Value.string { data := #[114, 101, 97, 100] })), (1, Operand.const (Value.string { data := #[119, 114, 105, 116, 101] })), (2, Operand.const (Value.string { data := #[115, 119, 97, 112] })), (3, Operand.const (Value.string { data := #[97, 100, 100] }))]) (t := 64) (d := some 38) rfl _ (by unfold exec2; go_simp; try rfl) (hK _ _ (VF.mg rfl ⟨(fun _ => ⟨_, rfl, .new rfl⟩), (fun h => absurd h (by decide))⟩) (hRW.alloc _) ((Ext.rf _).alloc _)))
              · ( have rX := keepEL hRW zB d1; exact op_ld (T := 3) (x := Operand.tmp 39) (t := 3) (d := some 40) rfl (.pointer (some ⟨w.heap.size, 1, none⟩)) (by kernel_rfl) (.int .i64 4) (by go_simp) (hK _ _ (VF.mk rfl) hRW (Ext.rf _)))
              · (have e3 : uS 3 = .int .i64 4 := (hD 3 (depIn (by kernel_rfl))).k rfl; exact op_run (op := Op.binOp BinOp.sub 3 (Operand.tmp 40) (Operand.const (Value.int IntKind.i64 1)) 3) (t := 3) (d := some 41) rfl (.int .i64 3) (by simp only [putAll, Act.put, List.setIfInBounds_toArray, List.set_cons_zero, List.set_cons_succ]; unfold exec2; (try go_simp); (try simp only [e3]); (try go_simp); (try rfl); (try (exact IntWalk.i64_in _ (by omega)))) (hK _ _ (VF.mk rfl) hRW (Ext.rf _)))
              · (have e4 : uS 4 = .int .i64 3 := (hD 4 (depIn (by kernel_rfl))).k rfl; obtain ⟨z, ez, bz⟩ := ((hD 1 (depIn (by kernel_rfl))).g rfl).1 rfl; exact op_ix (T := 64) (x := Operand.tmp 38) (y := Operand.tmp 41) (t := 0) (d := some 42) rfl (.slice (some ⟨z, 0, none⟩) 4 4) (.int .i64 3) (Eq.trans (b := uS 1) (by kernel_rfl) ez) (Eq.trans (b := uS 4) (by kernel_rfl) e4) (.pointer (some ⟨z, 3, none⟩)) (by go_simp) (hK _ _ (VF.mg rfl ⟨(fun h => absurd h (by decide)), (fun _ => ⟨z, rfl, bz⟩)⟩) hRW (Ext.rf _)))
              · (obtain ⟨z, ez, bz⟩ := ((hD 5 (depIn (by kernel_rfl))).g rfl).2 rfl; have rX : wS.cell? ⟨z, 3, none⟩ = some (.string ⟨([97, 100, 100]).toArray⟩) := bz.cell 3; exact op_ld (T := 9) (x := Operand.tmp 42) (t := 9) (d := some 43) rfl (.pointer (some ⟨z, 3, none⟩)) (Eq.trans (b := uS 5) (by kernel_rfl) ez) (.string ⟨([97, 100, 100]).toArray⟩) (by go_simp) (hK _ _ (VF.mk rfl) hRW (Ext.rf _)))
              · (have e6 : uS 6 = .string ⟨([97, 100, 100]).toArray⟩ := (hD 6 (depIn (by kernel_rfl))).k rfl; exact op_cat (t := 9) (d := some 44) rfl (P) ([97, 100, 100]) (by kernel_rfl) (Eq.trans (b := uS 6) (by kernel_rfl) e6) (by simp only [List.length_append, List.length_cons, List.length_nil]; omega) (hK _ _ (VF.mk rfl) hRW (Ext.rf _)))
              · (have e7 : uS 7 = .string ⟨(P ++ [97, 100, 100]).toArray⟩ := (hD 7 (depIn (by kernel_rfl))).k rfl; exact op_cat (t := 9) (d := some 45) rfl ((P ++ [97, 100, 100])) ([32]) (Eq.trans (b := uS 7) (by kernel_rfl) e7) (by kernel_rfl) (by simp only [List.length_append, List.length_cons, List.length_nil]; omega) (hK _ _ (VF.mk rfl) hRW (Ext.rf _)))
              · ( have rX := keepEL hRW zB d2; exact op_ld (T := 3) (x := Operand.tmp 46) (t := 3) (d := some 47) rfl (.pointer (some ⟨w.heap.size, 2, none⟩)) (by kernel_rfl) (.int .i64 cl) (by go_simp) (hK _ _ (VF.mk rfl) hRW (Ext.rf _)))
              · (have e10 : uS 10 = .int .i64 cl := (hD 10 (depIn (by kernel_rfl))).k rfl; exact op_call (f := 29) (xs := #[Operand.tmp 47]) (ts := #[3]) (t := 9) (d := some 48) rfl #[.int .i64 cl] (by go_simp) (Eq.trans (b := #[uS 10]) (by kernel_rfl) (by rw [e10])) _ (rwrite_any cl h3.1 h3.2 _) (by rintro e w9 ⟨rfl, xx⟩; exact ⟨_, rfl, hK _ _ (VF.mk rfl) (hRW.tr xx) xx⟩))
              · (have e8 : uS 8 = .string ⟨((P ++ [97, 100, 100]) ++ [32]).toArray⟩ := (hD 8 (depIn (by kernel_rfl))).k rfl; have e11 : uS 11 = .string ⟨(Lib.itoa cl).toArray⟩ := (hD 11 (depIn (by kernel_rfl))).k rfl; exact op_cat (t := 9) (d := some 49) rfl (((P ++ [97, 100, 100]) ++ [32])) (Lib.itoa cl) (Eq.trans (b := uS 8) (by kernel_rfl) e8) (Eq.trans (b := uS 11) (by kernel_rfl) e11) (by simp only [List.length_append, List.length_cons, List.length_nil]; omega) (hK _ _ (VF.mk rfl) hRW (Ext.rf _)))
              · (have e12 : uS 12 = .string ⟨(((P ++ [97, 100, 100]) ++ [32]) ++ Lib.itoa cl).toArray⟩ := (hD 12 (depIn (by kernel_rfl))).k rfl; exact op_cat (t := 9) (d := some 50) rfl ((((P ++ [97, 100, 100]) ++ [32]) ++ Lib.itoa cl)) ([32]) (Eq.trans (b := uS 12) (by kernel_rfl) e12) (by kernel_rfl) (by simp only [List.length_append, List.length_cons, List.length_nil]; omega) (hK _ _ (VF.mk rfl) hRW (Ext.rf _)))
              · ( have rX := keepEL hRW zB d3; exact op_ld (T := 3) (x := Operand.tmp 51) (t := 3) (d := some 52) rfl (.pointer (some ⟨w.heap.size, 3, none⟩)) (by kernel_rfl) (.int .i64 od) (by go_simp) (hK _ _ (VF.mk rfl) hRW (Ext.rf _)))
              · (have e15 : uS 15 = .int .i64 od := (hD 15 (depIn (by kernel_rfl))).k rfl; exact op_call (f := 29) (xs := #[Operand.tmp 52]) (ts := #[3]) (t := 9) (d := some 53) rfl #[.int .i64 od] (by go_simp) (Eq.trans (b := #[uS 15]) (by kernel_rfl) (by rw [e15])) _ (rwrite_any od h4.1 h4.2 _) (by rintro e w9 ⟨rfl, xx⟩; exact ⟨_, rfl, hK _ _ (VF.mk rfl) (hRW.tr xx) xx⟩))
              · (have e13 : uS 13 = .string ⟨((((P ++ [97, 100, 100]) ++ [32]) ++ Lib.itoa cl) ++ [32]).toArray⟩ := (hD 13 (depIn (by kernel_rfl))).k rfl; have e16 : uS 16 = .string ⟨(Lib.itoa od).toArray⟩ := (hD 16 (depIn (by kernel_rfl))).k rfl; exact op_cat (t := 9) (d := some 54) rfl (((((P ++ [97, 100, 100]) ++ [32]) ++ Lib.itoa cl) ++ [32])) (Lib.itoa od) (Eq.trans (b := uS 13) (by kernel_rfl) e13) (Eq.trans (b := uS 16) (by kernel_rfl) e16) (by simp only [List.length_append, List.length_cons, List.length_nil]; omega) (hK _ _ (VF.mk rfl) hRW (Ext.rf _)))
              · (have e17 : uS 17 = .string ⟨(((((P ++ [97, 100, 100]) ++ [32]) ++ Lib.itoa cl) ++ [32]) ++ Lib.itoa od).toArray⟩ := (hD 17 (depIn (by kernel_rfl))).k rfl; exact op_cat (t := 9) (d := some 55) rfl ((((((P ++ [97, 100, 100]) ++ [32]) ++ Lib.itoa cl) ++ [32]) ++ Lib.itoa od)) ([32]) (Eq.trans (b := uS 17) (by kernel_rfl) e17) (by kernel_rfl) (by simp only [List.length_append, List.length_cons, List.length_nil]; omega) (hK _ _ (VF.mk rfl) hRW (Ext.rf _)))
              · ( have rX := keepEL hRW zB d4; exact op_ld (T := 3) (x := Operand.tmp 56) (t := 3) (d := some 57) rfl (.pointer (some ⟨w.heap.size, 4, none⟩)) (by kernel_rfl) (.int .i64 nw) (by go_simp) (hK _ _ (VF.mk rfl) hRW (Ext.rf _)))
              · (have e20 : uS 20 = .int .i64 nw := (hD 20 (depIn (by kernel_rfl))).k rfl; exact op_call (f := 29) (xs := #[Operand.tmp 57]) (ts := #[3]) (t := 9) (d := some 58) rfl #[.int .i64 nw] (by go_simp) (Eq.trans (b := #[uS 20]) (by kernel_rfl) (by rw [e20])) _ (rwrite_any nw h5.1 h5.2 _) (by rintro e w9 ⟨rfl, xx⟩; exact ⟨_, rfl, hK _ _ (VF.mk rfl) (hRW.tr xx) xx⟩))
              · (have e18 : uS 18 = .string ⟨((((((P ++ [97, 100, 100]) ++ [32]) ++ Lib.itoa cl) ++ [32]) ++ Lib.itoa od) ++ [32]).toArray⟩ := (hD 18 (depIn (by kernel_rfl))).k rfl; have e21 : uS 21 = .string ⟨(Lib.itoa nw).toArray⟩ := (hD 21 (depIn (by kernel_rfl))).k rfl; exact op_cat (t := 9) (d := some 59) rfl (((((((P ++ [97, 100, 100]) ++ [32]) ++ Lib.itoa cl) ++ [32]) ++ Lib.itoa od) ++ [32])) (Lib.itoa nw) (Eq.trans (b := uS 18) (by kernel_rfl) e18) (Eq.trans (b := uS 21) (by kernel_rfl) e21) (by simp only [List.length_append, List.length_cons, List.length_nil]; omega) (hK _ _ (VF.mk rfl) hRW (Ext.rf _)))
              · (have e22 : uS 22 = .string ⟨(((((((P ++ [97, 100, 100]) ++ [32]) ++ Lib.itoa cl) ++ [32]) ++ Lib.itoa od) ++ [32]) ++ Lib.itoa nw).toArray⟩ := (hD 22 (depIn (by kernel_rfl))).k rfl; exact op_cat (t := 9) (d := some 60) rfl ((((((((P ++ [97, 100, 100]) ++ [32]) ++ Lib.itoa cl) ++ [32]) ++ Lib.itoa od) ++ [32]) ++ Lib.itoa nw)) ([32]) (Eq.trans (b := uS 22) (by kernel_rfl) e22) (by kernel_rfl) (by simp only [List.length_append, List.length_cons, List.length_nil]; omega) (hK _ _ (VF.mk rfl) hRW (Ext.rf _)))
              · (have e23 : uS 23 = .string ⟨((((((((P ++ [97, 100, 100]) ++ [32]) ++ Lib.itoa cl) ++ [32]) ++ Lib.itoa od) ++ [32]) ++ Lib.itoa nw) ++ [32]).toArray⟩ := (hD 23 (depIn (by kernel_rfl))).k rfl; exact op_cat (t := 9) (d := some 62) rfl (((((((((P ++ [97, 100, 100]) ++ [32]) ++ Lib.itoa cl) ++ [32]) ++ Lib.itoa od) ++ [32]) ++ Lib.itoa nw) ++ [32])) ([110, 111]) (Eq.trans (b := uS 23) (by kernel_rfl) e23) (by kernel_rfl) (by simp only [List.length_append, List.length_cons, List.length_nil]; omega) (hK _ _ (VF.mk rfl) hRW (Ext.rf _)))
            intro u w3 hR3 hV
            have h3 := (hV (3, some 40) (by simp)).k rfl
            have h4 := (hV (4, some 41) (by simp)).k rfl
            have h6 := (hV (6, some 43) (by simp)).k rfl
            have h7 := (hV (7, some 44) (by simp)).k rfl
            have h8 := (hV (8, some 45) (by simp)).k rfl
            have h10 := (hV (10, some 47) (by simp)).k rfl
            have h11 := (hV (11, some 48) (by simp)).k rfl
            have h12 := (hV (12, some 49) (by simp)).k rfl
            have h13 := (hV (13, some 50) (by simp)).k rfl
            have h15 := (hV (15, some 52) (by simp)).k rfl
            have h16 := (hV (16, some 53) (by simp)).k rfl
            have h17 := (hV (17, some 54) (by simp)).k rfl
            have h18 := (hV (18, some 55) (by simp)).k rfl
            have h20 := (hV (20, some 57) (by simp)).k rfl
            have h21 := (hV (21, some 58) (by simp)).k rfl
            have h22 := (hV (22, some 59) (by simp)).k rfl
            have h23 := (hV (23, some 60) (by simp)).k rfl
            have h25 := (hV (25, some 62) (by simp)).k rfl
            simp only [putAll, h3, h4, h6, h7, h8, h10, h11, h12, h13, h15, h16, h17, h18, h20, h21, h22, h23, h25]
            clear hV h3 h4 h6 h7 h8 h10 h11 h12 h13 h15 h16 h17 h18 h20 h21 h22 h23 h25
            try simp only [Act.put, List.setIfInBounds_toArray, List.set_cons_zero, List.set_cons_succ]
            have X3 := Lib.hid (X2.out.tr hR3)
            clear hR3
            try simp only [Act.put, List.setIfInBounds_toArray, List.set_cons_zero, List.set_cons_succ]
            refine wpAny_T (i := 26) (op := Op.assign (Operand.tmp 62)) (t := 9) (d := some 2) (v := ?_) rfl (by decide +kernel) (by decide +kernel) (by decide +kernel) (fun _ _ _ h => h) ?_ ?_
            case refine_2 => (intro _; unfold exec2; go_simp; try with_reducible rfl)
            try simp only [Act.put, List.setIfInBounds_toArray, List.set_cons_zero, List.set_cons_succ]
            refine wpAny_T (i := 27) (op := Op.assign (Operand.const (Value.bool true))) (t := 4) (d := some 3) (v := ?_) rfl (by decide +kernel) (by decide +kernel) (by decide +kernel) (fun _ _ _ h => h) ?_ ?_
            case refine_2 => (intro _; unfold exec2; go_simp; try with_reducible rfl)
            try simp only [Act.put, List.setIfInBounds_toArray, List.set_cons_zero, List.set_cons_succ]
            refine wpAny_done (by kernel_rfl) ?_ _
            go_simp
            go_wp2_with (fail)
            go_ret2
            rw [hl.out]
            exact ⟨by simp [txS, kindT, yesT, tRead, tWrite, tSwap, tAdd], X3.out⟩
      · have hl : Hid (Ent.line ⟨wk, kd, cl, od, nw, dn⟩ = ([], false)) := Lib.hid (by
          unfold Ent.line Ent.fine
          rw [hq.out, if_neg]
          simp only [Bool.and_eq_true, Bool.or_eq_true, decide_eq_true_eq, Bool.false_eq_true, false_or]
          exact fun h => k0 ⟨h.2.1, h.2.2⟩)
        clear hq
        by_cases k1 : kd < 1
        · go_wp2_with (fail)
          go_ret2
          rw [hl.out]
          exact ⟨rfl, X2.out.tr (by (repeat (first | assumption | exact Ext.rf _ | apply Ext.drew | apply Ext.drewN | apply Ext.alloc)))⟩
        · by_cases k4 : 4 < kd
          · go_wp2_with (fail)
            go_ret2
            rw [hl.out]
            exact ⟨rfl, X2.out.tr (by (repeat (first | assumption | exact Ext.rf _ | apply Ext.drew | apply Ext.drewN | apply Ext.alloc)))⟩
          · have k3 : cl < 0 := by omega
            clear k0
            go_wp2_with (fail)
            go_ret2
            rw [hl.out]
            exact ⟨rfl, X2.out.tr (by (repeat (first | assumption | exact Ext.rf _ | apply Ext.drew | apply Ext.drewN | apply Ext.alloc)))⟩
  · have hl : Ent.line ⟨wk, kd, cl, od, nw, dn⟩ = ([], false) := by
      unfold Ent.line Ent.fine
      rw [if_neg]
      simp only [Bool.and_eq_true, decide_eq_true_eq]
      exact fun h => c1 ⟨h.1.1, by omega⟩
    rw [hl]
    by_cases c2 : wk < 0
    · go_enter Tryd.func18, Tryd.ntmps18
      go_wp2_with (fail)
      go_ret2
      exact ⟨rfl, by (repeat (first | assumption | exact Ext.rf _ | apply Ext.drew | apply Ext.drewN | apply Ext.alloc))⟩
    · have c3 : 15 < wk := by omega
      go_enter Tryd.func18, Tryd.ntmps18
      go_wp2_with (fail)
      go_ret2
      exact ⟨rfl, by (repeat (first | assumption | exact Ext.rf _ | apply Ext.drew | apply Ext.drewN | apply Ext.alloc))⟩
end Go.Proofs.YtcpadkaljnnieaaDoor
namespace Go.Proofs.YtcpadkaljnnieaaDoor
open Go.RowKit Go.ChangeShapes Go.WideShapes Go.ChangeAt Go.Deep

set_option maxRecDepth 100000 in
set_option maxHeartbeats 2000000 in
theorem rwrite33_any (A : Option Addr) (c : Nat) (l : List Ent) (w : World) (hA : RdV w 39 A (entsL l)) (hl : l.length ≤ 1000) (hin : ∀ e ∈ l, e.In) :
    Calls Tryd.prog 7 #[.slice A l.length c] w fun r w' => r = .returned (.tuple #[txS (writeE l).1, .int .i64 (writeE l).2]) ∧ Ext w w' := by
  have LN := Lib.hid (fun (W : World) (e : Ent) (h : e.In) => rline_any e W h)
  have RA := Lib.hid (fun (W : World) (x : Ext w W) => hA.ext x)
  have IN := Lib.hid hin
  clear hA hin
  go_enter Tryd.func7, Tryd.ntmps7
  go_wp2_with (fail)
  go_loopw [4, 5] (fun sv i wr => ∃ k : Nat, sv = .string ⟨(linesE (l.take k)).toArray⟩ ∧ i = .int .i64 k ∧ k ≤ l.length ∧ Hid (∀ e ∈ l.take k, e.fine = true) ∧ Hid (Ext w wr)) (fun _ i _ => l.length - (intOf i).toNat)
  case atStart => exact ⟨0, rfl, rfl, by omega, Lib.hid (by simp), Lib.hid (by (repeat (first | assumption | exact Ext.rf _ | apply Ext.drew | apply Ext.drewN | apply Ext.alloc)))⟩
  case round =>
    obtain ⟨k, rfl, rfl, hk, HF, Y⟩ := hrel
    by_cases hlt : k < l.length
    · obtain ⟨b, off, e, rfl, hb, he, c0, c1, c2, c3, c4, c5⟩ := (RA.out _ Y.out).ent hlt
      have hem := List.mem_of_getElem? he.out
      have heI := Lib.hid (IN.out e hem)
      have hTK : Hid (l.take (k + 1) = l.take k ++ [e]) := Lib.hid (by rw [List.take_add_one, he.out]; rfl)
      have LE := LN.out
      cases hf : e.fine with
      | false =>
        have hz : Hid (writeE l = ([], 8)) := Lib.hid (writeE_bad (by omega) hem hf)
        have hln : e.line = ([], false) := by unfold Ent.line; rw [if_neg (by rw [hf]; decide)]
        have LX := Lib.hid (fun (W : World) => LE W e heI.out)
        rw [hln] at LX
        unfold entC txS at LX
        clear LE LN hf hem he hln
        go_wp2_with (go_at_call 18; (with_reducible refine (LX.out _).mono ?_); rintro r w2 ⟨rfl, x2⟩)
        go_ret2
        rw [hz.out]
        exact ⟨rfl, Y.out.tr (Ext.tr (by (repeat (first | assumption | exact Ext.rf _ | apply Ext.drew | apply Ext.drewN | apply Ext.alloc))) x2)⟩
      | true =>
        have LX := Lib.hid (fun (W : World) => LE W e heI.out)
        rw [Ent.line_fine hf] at LX
        unfold entC txS at LX
        have HF2 : Hid (∀ x ∈ l.take (k + 1), x.fine = true) := Lib.hid (by
          rw [hTK.out]
          intro x hx
          rcases List.mem_append.1 hx with hx | hx
          · exact HF.out x hx
          · rw [List.mem_singleton.1 hx]; exact hf)
        have HL2 : Hid (linesE (l.take (k + 1)) = (linesE (l.take k) ++ Lib.join e.words [32]) ++ [10]) := Lib.hid (by rw [hTK.out, linesE_snoc])
        have l1 := linesE_len (l.take k) (fun x hx => IN.out x (List.mem_of_mem_take hx))
        have l2 := words_len heI.out
        have lq1 : ¬ 9223372036854775807 < (linesE (l.take k)).length + (Lib.join e.words [32]).length := by rw [List.length_take] at l1; omega
        have lq2 : ¬ 9223372036854775807 < (linesE (l.take k)).length + (Lib.join e.words [32]).length + 1 := by rw [List.length_take] at l1; omega
        have lq3 : ¬ 9223372036854775807 < (linesE (l.take k) ++ Lib.join e.words [32]).length + 1 := by rw [List.length_append]; exact lq2
        have hcat := cat_bytes (linesE (l.take k)) (Lib.join e.words [32])
        clear LE LN hf hem he l1 l2 hTK HF
        generalize linesE (l.take k) = P at *
        generalize Lib.join e.words [32] = q at *
        go_wp2_with (go_at_call 18; (with_reducible refine (LX.out _).mono ?_); rintro r w2 ⟨rfl, x2⟩)
        have Y2 := Lib.hid (Y.out.tr (Ext.tr (by (repeat (first | assumption | exact Ext.rf _ | apply Ext.drew | apply Ext.drewN | apply Ext.alloc))) x2))
        go_roundw
        case rel => exact ⟨k + 1, by rw [HL2.out, ← cat_bytes (P ++ q) [10]], by go_num, by omega, HF2, Y2⟩
        case measure => simp [intOf]; omega
    · have hkl : k = l.length := by omega
      subst hkl
      have hz : Hid (writeE l = (linesE l, 0)) := Lib.hid (writeE_good (by omega) (by have := HF.out; rwa [List.take_length] at this))
      rw [List.take_length]
      clear HF
      go_wp2_with (fail)
      go_ret2
      rw [hz.out]
      exact ⟨rfl, Y.out⟩
end Go.Proofs.YtcpadkaljnnieaaDoor
namespace Go.Proofs.YtcpadkaljnnieaaDoor
open Go.RowKit Go.ChangeShapes Go.WideShapes Go.ChangeAt Go.Deep

def CutsPost (L : List Txt) (w : World) (e : Ending) (w' : World) : Prop := ∃ (A : Option Addr) (d : Nat), e = .returned (.slice A L.length d) ∧ OwV w' w.heap.size 9 1 A L.length d (txV L) ∧ Ext w w'
def InvC (c : UInt8) (s : Txt) (i f : Nat) (L : List Txt) : Prop := (i ≤ s.length ∧ f ≤ i ∧ (∀ j, f ≤ j → j < i → s[j]? ≠ some c) ∧ splitC c s = L ++ splitC c (s.drop f)) ∨ (i = s.length + 1 ∧ L = splitC c s)
theorem InvC.start (c : UInt8) (s : Txt) : InvC c s 0 0 [] := .inl ⟨by omega, by omega, fun j _ h => by omega, rfl⟩
theorem seg_no {c : UInt8} {s : Txt} {f i : Nat} (h : ∀ j, f ≤ j → j < i → s[j]? ≠ some c) : ∀ b ∈ (s.drop f).take (i - f), b ≠ c := by
  intro b hb e
  subst e
  obtain ⟨k, hk, hk2⟩ := List.mem_iff_getElem.1 hb
  have h1 : ((s.drop f).take (i - f))[k]? = some b := by rw [List.getElem?_eq_getElem hk, hk2]
  rw [List.getElem?_take] at h1
  split at h1
  · rw [List.getElem?_drop] at h1
    exact h (f + k) (by omega) (by omega) h1
  · cases h1
theorem InvC.hit {c : UInt8} {s : Txt} {i f : Nat} {L : List Txt} (h : InvC c s i f L) (hi : s[i]? = some c) : InvC c s (i + 1) (i + 1) (L ++ [(s.drop f).take (i - f)]) := by
  have hlt := (List.getElem?_eq_some_iff.1 hi).1
  rcases h with ⟨h1, h2, h3, h4⟩ | ⟨h1, _⟩
  · refine .inl ⟨by omega, by omega, fun j a b => by omega, ?_⟩
    have e : s.drop f = (s.drop f).take (i - f) ++ c :: s.drop (i + 1) := by
      refine (List.take_append_drop (i - f) (s.drop f)).symm.trans ?_
      congr 1
      rw [List.drop_drop, show f + (i - f) = i by omega, List.drop_eq_getElem_cons hlt]
      congr 1
      exact (List.getElem?_eq_some_iff.1 hi).2
    rw [h4]
    conv => lhs; rw [e, splitC_app _ _ (seg_no h3)]
    simp
  · omega
theorem InvC.miss {c : UInt8} {s : Txt} {i f : Nat} {L : List Txt} {x : UInt8} (h : InvC c s i f L) (hi : s[i]? = some x) (hx : x ≠ c) : InvC c s (i + 1) f L := by
  have hlt := (List.getElem?_eq_some_iff.1 hi).1
  rcases h with ⟨h1, h2, h3, h4⟩ | ⟨h1, _⟩
  · refine .inl ⟨by omega, by omega, fun j a b => ?_, h4⟩
    by_cases hj : j < i
    · exact h3 j a hj
    · obtain rfl : j = i := by omega
      rw [hi]
      intro e
      injection e with e
      exact hx e
  · omega
theorem InvC.last {c : UInt8} {s : Txt} {f : Nat} {L : List Txt} (h : InvC c s s.length f L) : f ≤ s.length ∧ InvC c s (s.length + 1) (s.length + 1) (L ++ [(s.drop f).take (s.length - f)]) := by
  rcases h with ⟨h1, h2, h3, h4⟩ | ⟨h1, _⟩
  · refine ⟨h2, .inr ⟨rfl, ?_⟩⟩
    have hs := seg_no h3
    have e : (s.drop f).take (s.length - f) = s.drop f := List.take_of_length_le (by rw [List.length_drop]; exact Nat.le_refl _)
    rw [e] at hs ⊢
    rw [h4, splitC_all _ hs]
  · omega
theorem InvC.done {c : UInt8} {s : Txt} {f : Nat} {L : List Txt} (h : InvC c s (s.length + 1) f L) : L = splitC c s := by
  rcases h with ⟨h1, _⟩ | ⟨_, h⟩
  · omega
  · exact h
theorem InvC.le {c : UInt8} {s : Txt} {i f : Nat} {L : List Txt} (h : InvC c s i f L) (hi : i ≤ s.length) : f ≤ i := by
  rcases h with ⟨_, h, _⟩ | ⟨h, _⟩ <;> omega
theorem extract_seg (s : Txt) (a b : Nat) : (⟨s.toArray⟩ : ByteArray).extract a b = ⟨((s.drop a).take (b - a)).toArray⟩ := by
  apply ByteArray.ext
  apply Array.ext'
  rw [Lib.extract_data]
set_option maxRecDepth 100000 in
set_option maxHeartbeats 2000000 in
theorem rcut_any (s : Txt) (c : UInt8) (w : World) (hl : s.length ≤ 1000000) :
    Calls Tryd.prog 21 #[.string ⟨s.toArray⟩, .int .u8 c.toNat] w (CutsPost (splitC c s) w) := by
  obtain ⟨i0, hi, hz0, hz1, hz2⟩ := info_parts str_info
  replace hi := Lib.hid hi
  replace hz0 := Lib.hid hz0
  replace hz1 := Lib.hid hz1
  replace hz2 := Lib.hid hz2
  have hsz : (⟨s.toArray⟩ : ByteArray).size = s.length := by simp [Lib.size_eq]
  have EX := Lib.hid (extract_seg s)
  have AT : Hid (∀ (k : Nat) (hk : k < (⟨s.toArray⟩ : ByteArray).size), s[k]? = some ((⟨s.toArray⟩ : ByteArray)[k]'hk)) := Lib.hid fun k hk => plain_at s k hk
  obtain ⟨n, hn⟩ : ∃ n, s.length = n := ⟨_, rfl⟩
  have NH := Lib.hid hn
  rw [hn] at hsz hl
  clear hn
  generalize hs : (⟨s.toArray⟩ : ByteArray) = sb at *
  clear hs
  have SZ := Lib.hid hsz
  clear hsz
  go_enter Tryd.func21, Tryd.ntmps21
  go_wp2_with (fail)
  go_loopw [5, 6, 7] (fun ov fv iv wr => ∃ (i f : Nat) (B : Option Addr) (d : Nat) (L : List Txt), ov = .slice B L.length d ∧ fv = .int .i64 f ∧ iv = .int .i64 i ∧ i ≤ n + 1 ∧ f ≤ n + 1 ∧ L.length ≤ i ∧ Hid (InvC c s i f L) ∧ Hid (OwV wr w.heap.size 9 1 B L.length d (txV L)) ∧ Hid (Ext w wr)) (fun _ _ iv _ => n + 2 - (intOf iv).toNat)
  case atStart => exact ⟨0, 0, some ⟨w.heap.size, 0, none⟩, 0, [], rfl, rfl, rfl, by omega, by omega, by simp, Lib.hid (InvC.start c s), Lib.hid (OwV.full (cs := #[]) (n := 0) (by (first | exact .new (by simp) | exact .drew (.new (by simp)) | exact .alloc (.new (by simp)) _ | exact .drew (.alloc (.new (by simp)) _) | exact .alloc (.alloc (.new (by simp)) _) _ | exact .drew (.alloc (.alloc (.new (by simp)) _) _) | (repeat (first | assumption | (refine Blk.new ?_; (focus (simp; done))) | apply Blk.drew | apply Blk.drewN | apply Blk.alloc)))) (Nat.le_refl _) rfl (by decide)), Lib.hid (by (repeat (first | assumption | exact Ext.rf _ | apply Ext.drew | apply Ext.drewN | apply Ext.alloc)))⟩
  case round =>
    obtain ⟨i, f, B, d, L, rfl, rfl, rfl, hi1, hf1, hL, IV, HO, Y⟩ := hrel
    obtain ⟨m, hm⟩ : ∃ m, L.length = m := ⟨_, rfl⟩
    have HM := Lib.hid hm
    rw [hm] at hL HO ⊢
    clear hm
    by_cases hin : i < n
    · have hi2 : i < sb.size := by rw [SZ.out]; exact hin
      have hat := AT.out i hi2
      have hfi := IV.out.le (by rw [NH.out]; omega)
      have hi3 : (i : Int) < (sb.size : Int) := by omega
      have hif : (f : Int) ≤ (i : Int) := by omega
      have hi4 : (i : Int) ≤ (sb.size : Int) := by omega
      have hneq : ((i : Int) == (sb.size : Int)) = false := beq_eq_false_iff_ne.2 (by omega)
      by_cases hxc : sb[i]'hi2 = c
      · have hbb : (((sb[i]'hi2).toNat : Int) == (c.toNat : Int)) = true := by rw [hxc]; simp
        have IV2 := Lib.hid (IV.out.hit (by rw [hat, hxc]))
        have EX2 := EX.out f i
        clear hxc hat IV EX AT
        go_wp2_with (at_builtin; refine wpl_app_v _ (e := 9) Tryd.underlying64 hi.out hz0.out hz1.out hz2.out (by simp [Value.cells]) (by omega) rfl _ _ rfl w.heap.size B m d (txV L) _ 1 1 [txS ((s.drop f).take (i - f))] rfl (by first | rfl | (simp; done)) (HO.out.ext (by (repeat (first | assumption | exact Ext.rf _ | apply Ext.drew | apply Ext.drewN | apply Ext.alloc)))) (RdV.blk (by (first | exact .new (by simp) | exact .drew (.new (by simp)) | exact .alloc (.new (by simp)) _ | exact .drew (.alloc (.new (by simp)) _) | exact .alloc (.alloc (.new (by simp)) _) _ | exact .drew (.alloc (.alloc (.new (by simp)) _) _) | (repeat (first | assumption | (refine Blk.new ?_; (focus (simp; done))) | apply Blk.drew | apply Blk.drewN | apply Blk.alloc))))).rdC (by rfl) (by simp [Value.oneCell', txS]) (by simp only [maxLen]; omega) (by omega) (by have := Y.out.size; simp; omega) ?_; rintro A6 c6 w6 o6 g6 _)
        have M6 : ModT w.heap.size [9] wr w6 := (ModT.of_ext (by (repeat (first | assumption | exact Ext.rf _ | apply Ext.drew | apply Ext.drewN | apply Ext.alloc)))).tr ((HO.out.ext (by (repeat (first | assumption | exact Ext.rf _ | apply Ext.drew | apply Ext.drewN | apply Ext.alloc)))).grownT g6)
        have HM6 : Hid ((L ++ [(s.drop f).take (i - f)]).length = m + 1) := Lib.hid (by rw [List.length_append, HM.out]; rfl)
        have O6 : Hid (OwV w6 w.heap.size 9 1 A6 (m + 1) c6 (txV (L ++ [(s.drop f).take (i - f)]))) := by rw [txV_snoc]; exact Lib.hid o6
        have Y6 := Lib.hid (Y.out.modT M6 (Nat.le_refl _))
        clear M6 o6 g6 HO
        go_roundw
        case rel => exact ⟨i + 1, i + 1, A6, c6, L ++ [(s.drop f).take (i - f)], by rw [HM6.out], by go_num, by go_num, by omega, by omega, by rw [HM6.out]; omega, IV2, by rw [HM6.out]; exact O6, Y6⟩
        case measure => simp [intOf]; omega
      · have hbb : (((sb[i]'hi2).toNat : Int) == (c.toNat : Int)) = false := beq_eq_false_iff_ne.2 fun h => hxc (UInt8.toNat_inj.1 (by omega))
        have IV2 := Lib.hid (IV.out.miss hat hxc)
        clear hxc hat IV EX AT
        go_wp2_with (fail)
        go_roundw
        case rel => exact ⟨i + 1, f, B, d, L, by rw [HM.out], rfl, by go_num, by omega, by omega, by rw [HM.out]; omega, IV2, by rw [HM.out]; exact HO, Lib.hid (Y.out.tr (by (repeat (first | assumption | exact Ext.rf _ | apply Ext.drew | apply Ext.drewN | apply Ext.alloc))))⟩
        case measure => simp [intOf]; omega
    · by_cases hin2 : i = n
      · subst hin2
        have hnn := NH.out
        have IV1 := IV.out
        rw [← hnn] at IV1
        obtain ⟨hf2, IV3⟩ := IV1.last
        rw [hnn] at IV3 hf2
        have IV2 := Lib.hid IV3
        have hii : i = sb.size := SZ.out.symm
        have hneq : ((i : Int) == (sb.size : Int)) = true := beq_iff_eq.2 (by omega)
        have hi4 : (i : Int) ≤ (sb.size : Int) := by omega
        have hif : (f : Int) ≤ (i : Int) := by omega
        have EX2 := EX.out f i
        clear hnn IV1 IV3 IV EX AT hii
        go_wp2_with (at_builtin; refine wpl_app_v _ (e := 9) Tryd.underlying64 hi.out hz0.out hz1.out hz2.out (by simp [Value.cells]) (by omega) rfl _ _ rfl w.heap.size B m d (txV L) _ 1 1 [txS ((s.drop f).take (i - f))] rfl (by first | rfl | (simp; done)) (HO.out.ext (by (repeat (first | assumption | exact Ext.rf _ | apply Ext.drew | apply Ext.drewN | apply Ext.alloc)))) (RdV.blk (by (first | exact .new (by simp) | exact .drew (.new (by simp)) | exact .alloc (.new (by simp)) _ | exact .drew (.alloc (.new (by simp)) _) | exact .alloc (.alloc (.new (by simp)) _) _ | exact .drew (.alloc (.alloc (.new (by simp)) _) _) | (repeat (first | assumption | (refine Blk.new ?_; (focus (simp; done))) | apply Blk.drew | apply Blk.drewN | apply Blk.alloc))))).rdC (by rfl) (by simp [Value.oneCell', txS]) (by simp only [maxLen]; omega) (by omega) (by have := Y.out.size; simp; omega) ?_; rintro A6 c6 w6 o6 g6 _)
        have M6 : ModT w.heap.size [9] wr w6 := (ModT.of_ext (by (repeat (first | assumption | exact Ext.rf _ | apply Ext.drew | apply Ext.drewN | apply Ext.alloc)))).tr ((HO.out.ext (by (repeat (first | assumption | exact Ext.rf _ | apply Ext.drew | apply Ext.drewN | apply Ext.alloc)))).grownT g6)
        have HM6 : Hid ((L ++ [(s.drop f).take (i - f)]).length = m + 1) := Lib.hid (by rw [List.length_append, HM.out]; rfl)
        have O6 : Hid (OwV w6 w.heap.size 9 1 A6 (m + 1) c6 (txV (L ++ [(s.drop f).take (i - f)]))) := by rw [txV_snoc]; exact Lib.hid o6
        have Y6 := Lib.hid (Y.out.modT M6 (Nat.le_refl _))
        clear M6 o6 g6 HO
        go_roundw
        case rel => exact ⟨i + 1, i + 1, A6, c6, L ++ [(s.drop f).take (i - f)], by rw [HM6.out], by go_num, by go_num, by omega, by omega, by rw [HM6.out]; omega, IV2, by rw [HM6.out]; exact O6, Y6⟩
        case measure => simp [intOf]
      · obtain rfl : i = n + 1 := by omega
        have HD : Hid (L = splitC c s) := Lib.hid (by have h := IV.out; rw [← NH.out] at h; exact h.done)
        have hgt : ¬ (((n + 1 : Nat) : Int) ≤ (sb.size : Int)) := by have := SZ.out; omega
        have hgt2 : ¬ (n + 1 ≤ sb.size) := by have := SZ.out; omega
        have hgt3 : ¬ ((n : Int) + 1 ≤ (sb.size : Int)) := by have := SZ.out; omega
        clear IV EX AT
        go_wp2_with (fail)
        go_ret
        refine ⟨B, d, ?_, ?_, Y.out.tr (by (repeat (first | assumption | exact Ext.rf _ | apply Ext.drew | apply Ext.drewN | apply Ext.alloc)))⟩
        · rw [← HD.out, HM.out]
          rfl
        · rw [← HD.out, HM.out]
          exact HO.out.ext (by (repeat (first | assumption | exact Ext.rf _ | apply Ext.drew | apply Ext.drewN | apply Ext.alloc)))
end Go.Proofs.YtcpadkaljnnieaaDoor
namespace Go.Proofs.YtcpadkaljnnieaaDoor
open Go.RowKit Go.ChangeShapes Go.WideShapes Go.ChangeAt Go.Deep

set_option maxRecDepth 100000 in
theorem rdigit_any (x : UInt8) (w : World) :
    Calls Tryd.prog 73 #[.int .u8 x.toNat] w fun e w' => e = .returned (.bool (isD x)) ∧ Ext w w' := by
  obtain ⟨q, hq⟩ : ∃ q, Hid (isD x = q) := ⟨_, rfl⟩
  rw [hq.out]
  unfold isD at hq
  generalize x.toNat = n at *
  by_cases h1 : 48 ≤ n
  · have i1 : (48 : Int) ≤ (n : Int) := by omega
    by_cases h2 : n ≤ 57
    · have i2 : (n : Int) ≤ 57 := by omega
      have h := hq.out
      rw [decide_eq_true h1, decide_eq_true h2] at h
      simp at h
      subst h
      clear hq
      go_enter Tryd.func73, Tryd.ntmps73
      go_wp2_with (fail)
      go_ret
      exact ⟨rfl, by (repeat (first | assumption | exact Ext.rf _ | apply Ext.drew | apply Ext.drewN | apply Ext.alloc))⟩
    · have i2 : ¬ (n : Int) ≤ 57 := by omega
      have h := hq.out
      rw [decide_eq_false h2] at h
      simp at h
      subst h
      clear hq
      go_enter Tryd.func73, Tryd.ntmps73
      go_wp2_with (fail)
      go_ret
      exact ⟨rfl, by (repeat (first | assumption | exact Ext.rf _ | apply Ext.drew | apply Ext.drewN | apply Ext.alloc))⟩
  · have i1 : ¬ (48 : Int) ≤ (n : Int) := by omega
    have h := hq.out
    rw [decide_eq_false h1] at h
    simp at h
    subst h
    clear hq
    go_enter Tryd.func73, Tryd.ntmps73
    go_wp2_with (fail)
    go_ret
    exact ⟨rfl, by (repeat (first | assumption | exact Ext.rf _ | apply Ext.drew | apply Ext.drewN | apply Ext.alloc))⟩
set_option maxRecDepth 100000 in
set_option maxHeartbeats 2000000 in
theorem rread_digits (D : Txt) (w : World) (hD : ∀ b ∈ D, isD b = true) (h0 : D ≠ []) (h48 : 1 < D.length → D.head? ≠ some 48) (hl : D.length ≤ 1000) :
    Calls Tryd.prog 48 #[.string ⟨D.toArray⟩, .int .i64 0] w fun e w' => e = .returned (.tuple #[.int .i64 (if 18 < D.length then 0 else valD D), .int .i64 (if 18 < D.length then 0 else D.length), .int .i64 (if 18 < D.length then 5 else 0)]) ∧ Ext w w' := by
  have hsz : (⟨D.toArray⟩ : ByteArray).size = D.length := by simp [Lib.size_eq]
  have AT : Hid (∀ (k : Nat) (hk : k < (⟨D.toArray⟩ : ByteArray).size), D[k]? = some ((⟨D.toArray⟩ : ByteArray)[k]'hk) ∧ isD ((⟨D.toArray⟩ : ByteArray)[k]'hk) = true) := Lib.hid fun k hk => ⟨plain_at D k hk, hD _ (List.mem_of_getElem? (plain_at D k hk))⟩
  have DG := Lib.hid (fun (x : UInt8) (h : isD x = true) (W : World) => (show Calls Tryd.prog 73 #[.int .u8 x.toNat] W fun e w' => e = .returned (.bool true) ∧ Ext W w' by have h2 := rdigit_any x W; rwa [h] at h2))
  have VR : Hid (∀ k, k ≤ 18 → 0 ≤ valD (D.take k) ∧ valD (D.take k) < 1000000000000000000) := Lib.hid fun k hk => by
    obtain ⟨v1, v2⟩ := valD_range (D.take k) (fun x hx => hD x (List.mem_of_mem_take hx))
    refine ⟨v1, Int.lt_of_lt_of_le v2 ?_⟩
    have h18 : (D.take k).length < 19 := by rw [List.length_take]; omega
    exact ten18 ⟨_, h18⟩
  have H48 := Lib.hid h48
  have hpos : 0 < D.length := List.length_pos_iff.2 h0
  obtain ⟨n, hn⟩ : ∃ n, D.length = n := ⟨_, rfl⟩
  have NH := Lib.hid hn
  rw [hn] at hsz hl hpos ⊢
  clear hn hD h0 h48
  obtain ⟨R1, hR1⟩ : ∃ R, Hid ((if 18 < n then 0 else valD D) = R) := ⟨_, rfl⟩
  obtain ⟨R2, hR2⟩ : ∃ R, Hid ((if 18 < n then 0 else (n : Int)) = R) := ⟨_, rfl⟩
  obtain ⟨R3, hR3⟩ : ∃ R, Hid ((if 18 < n then (5 : Int) else 0) = R) := ⟨_, rfl⟩
  rw [hR1.out, hR2.out, hR3.out]
  have FULL : Hid (D.take n = D) := Lib.hid (by rw [← NH.out, List.take_length])
  generalize hs : (⟨D.toArray⟩ : ByteArray) = sb at *
  clear hs
  have SZ := Lib.hid hsz
  clear hsz
  have s0 : (0 : Int) ≤ (sb.size : Int) := by omega
  go_enter Tryd.func48, Tryd.ntmps48
  go_wp2_with (fail)
  go_loopw [7] (fun ev wr => ∃ k : Nat, ev = .int .i64 k ∧ k ≤ n ∧ Hid (Ext w wr)) (fun ev _ => n - (intOf ev).toNat)
  case atStart => exact ⟨0, rfl, by omega, Lib.hid (by (repeat (first | assumption | exact Ext.rf _ | apply Ext.drew | apply Ext.drewN | apply Ext.alloc)))⟩
  case round =>
    obtain ⟨k, rfl, hk, Y⟩ := hrel
    by_cases hkn : k < n
    · have hk2 : k < sb.size := by rw [SZ.out]; exact hkn
      have hk3 : (k : Int) < (sb.size : Int) := by omega
      obtain ⟨hat, hisd⟩ := AT.out k hk2
      have DX := Lib.hid (DG.out _ hisd)
      clear hat hisd AT
      go_wp2_with (go_at_call 73; refine (DX.out _).mono ?_; rintro r w2 ⟨rfl, x2⟩)
      go_roundw
      case rel => exact ⟨k + 1, by go_num, by omega, Lib.hid (Y.out.tr (Ext.tr (by (repeat (first | assumption | exact Ext.rf _ | apply Ext.drew | apply Ext.drewN | apply Ext.alloc))) x2))⟩
      case measure => simp [intOf]; omega
    · obtain rfl : k = n := by omega
      have hk2 : ¬ (k < sb.size) := by have := SZ.out; omega
      have hk3 : ¬ ((k : Int) < (sb.size : Int)) := by have := SZ.out; omega
      have hp0 : 0 < sb.size := by rw [SZ.out]; exact hpos
      have hp1 : (0 : Int) < (sb.size : Int) := by omega
      obtain ⟨hat0, hisd0⟩ := AT.out 0 hp0
      have hb0 : 1 < k → (((sb[0]'hp0).toNat : Int) == 48) = false := fun h1 => beq_eq_false_iff_ne.2 fun h => by
        refine H48.out (by rw [NH.out]; exact h1) ?_
        rw [List.head?_eq_getElem?, hat0]
        congr 1
        exact UInt8.toNat_inj.1 (by simp; omega)
      have hne0 : ((k : Int) == 0) = false := beq_eq_false_iff_ne.2 (by omega)
      clear hat0 hisd0
      by_cases h18 : 18 < k
      · have hb1 := hb0 (by omega)
        have e1 : Hid (R1 = 0) := Lib.hid (by rw [← hR1.out, if_pos h18])
        have e2 : Hid (R2 = 0) := Lib.hid (by rw [← hR2.out, if_pos h18])
        have e3 : Hid (R3 = 5) := Lib.hid (by rw [← hR3.out, if_pos h18])
        have h1k : (1 : Int) < (k : Int) := by omega
        have h18k : (18 : Int) < (k : Int) := by omega
        clear hb0 AT
        go_wp2_with (fail)
        go_ret3
        rw [e1.out, e2.out, e3.out]
        exact ⟨rfl, Y.out.tr (by (repeat (first | assumption | exact Ext.rf _ | apply Ext.drew | apply Ext.drewN | apply Ext.alloc)))⟩
      · have h18k : ¬ (18 : Int) < (k : Int) := by omega
        by_cases h1 : 1 < k
        · have hb1 := hb0 h1
          have h1k : (1 : Int) < (k : Int) := by omega
          clear hb0
          go_wp2_with (fail)
          go_loopw [8, 9] (fun nv iv wr => ∃ i : Nat, nv = .int .i64 (valD (D.take i)) ∧ iv = .int .i64 i ∧ i ≤ k ∧ Hid (Ext w wr)) (fun _ iv _ => k - (intOf iv).toNat)
          case atStart => exact ⟨0, rfl, rfl, by omega, Lib.hid (Y.out.tr (by (repeat (first | assumption | exact Ext.rf _ | apply Ext.drew | apply Ext.drewN | apply Ext.alloc))))⟩
          case round =>
            clear Y
            obtain ⟨i, rfl, rfl, hi, Y⟩ := hrel
            by_cases hik : i < k
            · have hi2 : i < sb.size := by rw [SZ.out]; exact hik
              have hi3 : (i : Int) < (sb.size : Int) := by omega
              obtain ⟨hat, hisd⟩ := AT.out i hi2
              obtain ⟨a1, a2⟩ := VR.out i (by omega)
              obtain ⟨b1, b2⟩ := VR.out (i + 1) (by omega)
              have htk : D.take (i + 1) = D.take i ++ [sb[i]'hi2] := by rw [List.take_add_one, hat]; rfl
              rw [htk, valD_snoc] at b1 b2
              have hd1 : 48 ≤ (sb[i]'hi2).toNat ∧ (sb[i]'hi2).toNat ≤ 57 := by
                unfold isD at hisd
                simpa [Bool.and_eq_true, decide_eq_true_eq] using hisd
              have hvs := Lib.hid (show valD (D.take (i + 1)) = valD (D.take i) * 10 + (((sb[i]'hi2).toNat : Int) - 48) by rw [htk, valD_snoc])
              clear hat hisd htk AT VR DG H48
              generalize valD (D.take i) = v at *
              obtain ⟨d1, d2⟩ := hd1

              go_wp2_with (fail)
              go_roundw
              case rel => exact ⟨i + 1, by rw [hvs.out], by go_num, by omega, Lib.hid (Y.out.tr (by (repeat (first | assumption | exact Ext.rf _ | apply Ext.drew | apply Ext.drewN | apply Ext.alloc))))⟩
              case measure => simp [intOf]; omega
            · obtain rfl : i = k := by omega
              have e1 : Hid (R1 = valD (D.take i)) := Lib.hid (by rw [← hR1.out, if_neg h18, FULL.out])
              have e2 : Hid (R2 = (i : Int)) := Lib.hid (by rw [← hR2.out, if_neg h18])
              have e3 : Hid (R3 = 0) := Lib.hid (by rw [← hR3.out, if_neg h18])
              go_wp2_with (fail)
              go_ret3
              rw [e1.out, e2.out, e3.out]
              exact ⟨rfl, Y.out.tr (by (repeat (first | assumption | exact Ext.rf _ | apply Ext.drew | apply Ext.drewN | apply Ext.alloc)))⟩
        · have h1k : ¬ (1 : Int) < (k : Int) := by omega
          clear hb0
          go_wp2_with (fail)
          go_loopw [8, 9] (fun nv iv wr => ∃ i : Nat, nv = .int .i64 (valD (D.take i)) ∧ iv = .int .i64 i ∧ i ≤ k ∧ Hid (Ext w wr)) (fun _ iv _ => k - (intOf iv).toNat)
          case atStart => exact ⟨0, rfl, rfl, by omega, Lib.hid (Y.out.tr (by (repeat (first | assumption | exact Ext.rf _ | apply Ext.drew | apply Ext.drewN | apply Ext.alloc))))⟩
          case round =>
            clear Y
            obtain ⟨i, rfl, rfl, hi, Y⟩ := hrel
            by_cases hik : i < k
            · have hi2 : i < sb.size := by rw [SZ.out]; exact hik
              have hi3 : (i : Int) < (sb.size : Int) := by omega
              obtain ⟨hat, hisd⟩ := AT.out i hi2
              obtain ⟨a1, a2⟩ := VR.out i (by omega)
              obtain ⟨b1, b2⟩ := VR.out (i + 1) (by omega)
              have htk : D.take (i + 1) = D.take i ++ [sb[i]'hi2] := by rw [List.take_add_one, hat]; rfl
              rw [htk, valD_snoc] at b1 b2
              have hd1 : 48 ≤ (sb[i]'hi2).toNat ∧ (sb[i]'hi2).toNat ≤ 57 := by
                unfold isD at hisd
                simpa [Bool.and_eq_true, decide_eq_true_eq] using hisd
              have hvs := Lib.hid (show valD (D.take (i + 1)) = valD (D.take i) * 10 + (((sb[i]'hi2).toNat : Int) - 48) by rw [htk, valD_snoc])
              clear hat hisd htk AT VR DG H48
              generalize valD (D.take i) = v at *
              obtain ⟨d1, d2⟩ := hd1

              go_wp2_with (fail)
              go_roundw
              case rel => exact ⟨i + 1, by rw [hvs.out], by go_num, by omega, Lib.hid (Y.out.tr (by (repeat (first | assumption | exact Ext.rf _ | apply Ext.drew | apply Ext.drewN | apply Ext.alloc))))⟩
              case measure => simp [intOf]; omega
            · obtain rfl : i = k := by omega
              have e1 : Hid (R1 = valD (D.take i)) := Lib.hid (by rw [← hR1.out, if_neg h18, FULL.out])
              have e2 : Hid (R2 = (i : Int)) := Lib.hid (by rw [← hR2.out, if_neg h18])
              have e3 : Hid (R3 = 0) := Lib.hid (by rw [← hR3.out, if_neg h18])
              go_wp2_with (fail)
              go_ret3
              rw [e1.out, e2.out, e3.out]
              exact ⟨rfl, Y.out.tr (by (repeat (first | assumption | exact Ext.rf _ | apply Ext.drew | apply Ext.drewN | apply Ext.alloc)))⟩
/-- what is told of a number that was written -/
def NumPost (n : Int) (w : World) (e : Ending) (w' : World) : Prop := e = .returned (.tuple #[.int .i64 (if digN n ≤ 18 then n else 0), .bool (decide (digN n ≤ 18))]) ∧ Ext w w'
theorem dec_read (u : Nat) (w : World) (hl : Lib.nDigits u ≤ 1000) :
    Calls Tryd.prog 48 #[.string ⟨(Lib.decDigits u).toArray⟩, .int .i64 0] w fun e w' => e = .returned (.tuple #[.int .i64 (if 18 < Lib.nDigits u then 0 else (u : Int)), .int .i64 (if 18 < Lib.nDigits u then 0 else Lib.nDigits u), .int .i64 (if 18 < Lib.nDigits u then 5 else 0)]) ∧ Ext w w' := by
  have h := rread_digits (Lib.decDigits u) w (dec_mem u) (dec_ne u) (fun h1 => dec_head u (nD_one (by rw [Lib.decDigits_length] at h1; exact h1))) (by rw [Lib.decDigits_length]; exact hl)
  rw [Lib.decDigits_length, dec_val] at h
  exact h
set_option maxRecDepth 100000 in
set_option maxHeartbeats 2000000 in
theorem rnum_dec (u : Nat) (sign : Bool) (w : World) (hl : Lib.nDigits u ≤ 1000) :
    Calls Tryd.prog 35 #[.string ⟨(Lib.decDigits u).toArray⟩, .bool sign] w (NumPost u w) := by
  have RD := Lib.hid (fun (W : World) => dec_read u W hl)
  have hL : (Lib.decDigits u).length = Lib.nDigits u := Lib.decDigits_length u
  have hd : digN (u : Int) = Lib.nDigits u := by unfold digN; rw [Int.natAbs_natCast]
  have hpos : 1 ≤ Lib.nDigits u := Lib.nDigits_pos u
  obtain ⟨b, hb1, hb2⟩ := dec_some u
  have hne : (b.toNat : Int) ≠ 45 := by
    intro h
    have : b = 45 := UInt8.toNat_inj.1 (by simp; omega)
    subst this
    revert hb2
    decide
  unfold NumPost
  rw [hd]
  obtain ⟨R1, hR1⟩ : ∃ R, Hid ((if Lib.nDigits u ≤ 18 then (u : Int) else 0) = R) := ⟨_, rfl⟩
  obtain ⟨R2, hR2⟩ : ∃ R, Hid (decide (Lib.nDigits u ≤ 18) = R) := ⟨_, rfl⟩
  rw [hR1.out, hR2.out]
  have hsz : (⟨(Lib.decDigits u).toArray⟩ : ByteArray).size = Lib.nDigits u := by simp [Lib.size_eq, hL]
  have hidx : ∀ h, (⟨(Lib.decDigits u).toArray⟩ : ByteArray)[0]'h = b := fun h => by
    have h2 := plain_at (Lib.decDigits u) 0 h
    rw [← List.head?_eq_getElem?, hb1] at h2
    injection h2 with h2
    exact h2.symm
  clear hb1 hb2 hd hL
  generalize (⟨(Lib.decDigits u).toArray⟩ : ByteArray) = sb at *
  have SZ := Lib.hid hsz
  clear hsz
  have p1 : 0 < sb.size := by rw [SZ.out]; exact hpos
  have p2 : (0 : Int) < (sb.size : Int) := by omega
  have hidx0 := hidx p1
  have hneb : ((b.toNat : Int) == 45) = false := beq_eq_false_iff_ne.2 hne
  clear hidx hne
  by_cases h18 : 18 < Lib.nDigits u
  · simp only [if_pos h18] at RD
    have e1 : Hid (R1 = 0) := Lib.hid (by rw [← hR1.out, if_neg (by omega)])
    have e2 : Hid (R2 = false) := Lib.hid (by rw [← hR2.out]; exact decide_eq_false (by omega))
    cases sign with
    | true =>
      go_enter Tryd.func35, Tryd.ntmps35
      go_wp2_with (go_at_call 48; (with_reducible refine (RD.out _).mono ?_); rintro e w1 ⟨rfl, x1⟩)
      go_ret2
      rw [e1.out, e2.out]
      exact ⟨rfl, by (repeat (first | assumption | exact Ext.rf _ | apply Ext.drew | apply Ext.drewN | apply Ext.alloc))⟩
    | false =>
      go_enter Tryd.func35, Tryd.ntmps35
      go_wp2_with (go_at_call 48; (with_reducible refine (RD.out _).mono ?_); rintro e w1 ⟨rfl, x1⟩)
      go_ret2
      rw [e1.out, e2.out]
      exact ⟨rfl, by (repeat (first | assumption | exact Ext.rf _ | apply Ext.drew | apply Ext.drewN | apply Ext.alloc))⟩
  · simp only [if_neg h18] at RD
    rw [← SZ.out] at RD
    have e1 : Hid (R1 = (u : Int)) := Lib.hid (by rw [← hR1.out, if_pos (by omega)])
    have e2 : Hid (R2 = true) := Lib.hid (by rw [← hR2.out]; exact decide_eq_true (by omega))
    cases sign with
    | true =>
      go_enter Tryd.func35, Tryd.ntmps35
      go_wp2_with (go_at_call 48; (with_reducible refine (RD.out _).mono ?_); rintro e w1 ⟨rfl, x1⟩)
      go_ret2
      rw [e1.out, e2.out]
      exact ⟨rfl, by (repeat (first | assumption | exact Ext.rf _ | apply Ext.drew | apply Ext.drewN | apply Ext.alloc))⟩
    | false =>
      go_enter Tryd.func35, Tryd.ntmps35
      go_wp2_with (go_at_call 48; (with_reducible refine (RD.out _).mono ?_); rintro e w1 ⟨rfl, x1⟩)
      go_ret2
      rw [e1.out, e2.out]
      exact ⟨rfl, by (repeat (first | assumption | exact Ext.rf _ | apply Ext.drew | apply Ext.drewN | apply Ext.alloc))⟩
theorem from_one (D : Txt) : (⟨(45 :: D).toArray⟩ : ByteArray).extract 1 (⟨(45 :: D).toArray⟩ : ByteArray).size = ⟨D.toArray⟩ := by
  rw [extract_seg]
  simp [Lib.size_eq]
set_option maxRecDepth 100000 in
set_option maxHeartbeats 2000000 in
theorem rnum_neg (u : Nat) (h1 : 1 ≤ u) (hu : u ≤ 9223372036854775808) (w : World) (hl : Lib.nDigits u ≤ 1000) :
    Calls Tryd.prog 35 #[.string ⟨(45 :: Lib.decDigits u).toArray⟩, .bool true] w (NumPost (-(u : Int)) w) := by
  have RD := Lib.hid (fun (W : World) => dec_read u W hl)
  have hL : (Lib.decDigits u).length = Lib.nDigits u := Lib.decDigits_length u
  have hd : digN (-(u : Int)) = Lib.nDigits u := by unfold digN; rw [Int.natAbs_neg, Int.natAbs_natCast]
  unfold NumPost
  rw [hd]
  obtain ⟨R1, hR1⟩ : ∃ R, Hid ((if Lib.nDigits u ≤ 18 then (-(u : Int)) else 0) = R) := ⟨_, rfl⟩
  obtain ⟨R2, hR2⟩ : ∃ R, Hid (decide (Lib.nDigits u ≤ 18) = R) := ⟨_, rfl⟩
  rw [hR1.out, hR2.out]
  have hsz : (⟨(Lib.decDigits u).toArray⟩ : ByteArray).size = Lib.nDigits u := by simp [Lib.size_eq, hL]
  have hsz2 : (⟨(45 :: Lib.decDigits u).toArray⟩ : ByteArray).size = Lib.nDigits u + 1 := by simp [Lib.size_eq, hL]
  have hidx : ∀ h, (⟨(45 :: Lib.decDigits u).toArray⟩ : ByteArray)[0]'h = 45 := fun h => rfl
  have hEX := from_one (Lib.decDigits u)
  clear hd hL
  generalize (⟨(Lib.decDigits u).toArray⟩ : ByteArray) = sb at *
  generalize (⟨(45 :: Lib.decDigits u).toArray⟩ : ByteArray) = sc at *
  have SZ := Lib.hid hsz
  have SZ2 := Lib.hid hsz2
  clear hsz hsz2
  have p1 : 0 < sc.size := by rw [SZ2.out]; omega
  have p2 : (0 : Int) < (sc.size : Int) := by omega
  have p3 : (1 : Int) ≤ (sc.size : Int) := by omega
  have p4 : 1 ≤ sc.size := by omega
  have hidx0 := hidx p1
  have u0 : ((u : Int) == 0) = false := beq_eq_false_iff_ne.2 (by omega)
  clear hidx
  by_cases h18 : 18 < Lib.nDigits u
  · simp only [if_pos h18] at RD
    have e1 : Hid (R1 = 0) := Lib.hid (by rw [← hR1.out, if_neg (by omega)])
    have e2 : Hid (R2 = false) := Lib.hid (by rw [← hR2.out]; exact decide_eq_false (by omega))
    go_enter Tryd.func35, Tryd.ntmps35
    go_wp2_with (go_at_call 48; (with_reducible refine (RD.out _).mono ?_); rintro e w1 ⟨rfl, x1⟩)
    go_ret2
    rw [e1.out, e2.out]
    exact ⟨rfl, by (repeat (first | assumption | exact Ext.rf _ | apply Ext.drew | apply Ext.drewN | apply Ext.alloc))⟩
  · simp only [if_neg h18] at RD
    rw [← SZ.out] at RD
    have e1 : Hid (R1 = -(u : Int)) := Lib.hid (by rw [← hR1.out, if_pos (by omega)])
    have e2 : Hid (R2 = true) := Lib.hid (by rw [← hR2.out]; exact decide_eq_true (by omega))
    go_enter Tryd.func35, Tryd.ntmps35
    go_wp2_with (go_at_call 48; (with_reducible refine (RD.out _).mono ?_); rintro e w1 ⟨rfl, x1⟩)
    go_ret2
    rw [e1.out, e2.out]
    exact ⟨by congr 3, by (repeat (first | assumption | exact Ext.rf _ | apply Ext.drew | apply Ext.drewN | apply Ext.alloc))⟩
/-- number of a number that was written -/
theorem rnumber_itoa (n : Int) (sign : Bool) (h : sign = true ∨ 0 ≤ n) (hb : i64 n) (w : World) :
    Calls Tryd.prog 35 #[.string ⟨(Lib.itoa n).toArray⟩, .bool sign] w (NumPost n w) := by
  have hdl : Lib.nDigits n.natAbs ≤ 1000 := by
    have := Lib.nDigits_le20 n.natAbs (by have := hb.1; have := hb.2; omega)
    omega
  unfold Lib.itoa
  by_cases hn : n < 0
  · rw [if_pos hn]
    have hs : sign = true := h.resolve_right (by omega)
    subst hs
    have e : n = -((n.natAbs : Nat) : Int) := by omega
    have H := rnum_neg n.natAbs (by omega) (by have := hb.1; omega) w hdl
    rw [← e] at H
    exact H
  · rw [if_neg hn]
    have e : n = ((n.toNat : Nat) : Int) := by omega
    have e2 : n.natAbs = n.toNat := by omega
    have H := rnum_dec n.toNat sign w (by rw [← e2]; exact hdl)
    rw [← e] at H
    exact H
end Go.Proofs.YtcpadkaljnnieaaDoor
