/-
  A knapsack's kernel as New makes it, of a problem in form.
-/
import Derived.Test.YtleckhbmciiooaaKnap1
namespace Go.Proofs.Ytleckhbmciiooaa
open Go.RowKit Go.ChangeShapes Go.WideShapes Go.ChangeAt Go.Deep

def NewPost (i : InstP) (w : World) (e : Ending) (w' : World) : Prop :=
  ∃ g, e = .returned (.tuple #[.pointer (some ⟨g, 0, none⟩), .int .i64 0]) ∧ KernB w' w.heap.size g i.cap (ratioP i.value i.weight) (inOrder (ratioP i.value i.weight) i.weight) (inOrder (ratioP i.value i.weight) i.value) (sumsL (inOrder (ratioP i.value i.weight) i.value) 0) ∧ Ext w w'
set_option maxRecDepth 100000 in
set_option maxHeartbeats 8000000 in
theorem new_yes (i : InstP) (vs : List Value) (w : World) (H : RInst w vs i) (hc : checkP i = 0) (hk : i.kind = 1) :
    Calls Try.prog 13 #[.agg (List.toArray vs)] w (NewPost i w) := by
  have ok := knap_ok hc hk
  have C := fun (W : World) (x : Ext w W) => check_any i vs W (H.ext x) (by have := ok.w; have := ok.n2; omega) (by have := ok.v; have := ok.n2; omega)
  simp only [hc] at C
  obtain ⟨kind, nn, cap, xw, xv, co⟩ := i
  obtain ⟨n1, n2, okw, okv, okc, sw, sv, oke⟩ := ok
  simp only at *
  obtain ⟨A, a, B, b, D, d, rfl, ⟨rA, iA, lA, mA⟩, ⟨rB, iB, lB, mB⟩, -⟩ := H
  simp only at *
  subst hk oke
  obtain ⟨n, rfl⟩ : ∃ n : Nat, nn = (n : Int) := ⟨nn.toNat, by omega⟩
  have lw : Hid (xw.length = n) := by have h : xw.length = n := by omega
                                      exact h
  have lv : Hid (xv.length = n) := by have h : xv.length = n := by omega
                                      exact h
  clear okw okv hc
  obtain ⟨bd1, bd2⟩ : 1 ≤ n ∧ n ≤ 64 := by omega
  have R := fun (W : World) (x : Ext w W) => ratio_any B A b a xv xw W (rB.ext x) (rA.ext x) (by rw [lv.out, lw.out]) (by rw [lv.out]; omega) sv sw
  have RL : Hid ((ratioP xv xw).length = n) := by
    have h : (ratioP xv xw).length = n := by rw [ratioP_len, lv.out]
    exact h
  have RM : Hid (∀ k q, (ratioP xv xw)[k]? = some q → q < n) := fun k q h => by have := ratioP_lt h; rw [lv.out] at this; exact this
  have HI : Hid (∃ l, l = ratioP xv xw) := ⟨_, rfl⟩
  obtain ⟨l, hl⟩ := HI.out
  rw [← hl] at RL RM
  simp only [← hl] at R
  replace hl := Lib.hid hl
  replace C := Lib.hid C
  replace R := Lib.hid R
  replace rA := Lib.hid rA
  replace rB := Lib.hid rB
  replace iA := Lib.hid iA
  replace iB := Lib.hid iB
  replace mA := Lib.hid mA
  replace mB := Lib.hid mB
  replace sw := Lib.hid sw
  replace sv := Lib.hid sv
  have B1 : Hid (Blk (w.alloc (.cells #[.int .i64 1, .int .i64 n, .int .i64 cap, .slice A xw.length a, .slice B xv.length b, .slice D 0 d] 25)) w.heap.size 25 #[.int .i64 1, .int .i64 n, .int .i64 cap, .slice A xw.length a, .slice B xv.length b, .slice D 0 d]) := .new rfl
  clear HI
  go_enter Try.func13, Try.ntmps13
  go_wp2_with (fail)
  refine (C.out _ (by (repeat (first | assumption | exact Ext.rf _ | apply Ext.drew | apply Ext.drewN | apply Ext.alloc)))).mono ?_
  rintro e w2 ⟨rfl, x2⟩
  have X2 := Lib.hid (Ext.tr (a := w) (by (repeat (first | assumption | exact Ext.rf _ | apply Ext.drew | apply Ext.drewN | apply Ext.alloc))) x2)
  have B2 := Lib.hid (B1.out.ext x2)
  have c0 : w2.cell? ⟨w.heap.size, 0, none⟩ = some (.int .i64 1) := B2.out.cell 0
  have c3 : w2.cell? ⟨w.heap.size, 3, none⟩ = some (.slice A xw.length a) := B2.out.cell 3
  have c4 : w2.cell? ⟨w.heap.size, 4, none⟩ = some (.slice B xv.length b) := B2.out.cell 4
  clear x2
  go_wp2_with (fail)
  refine (R.out _ X2.out).mono ?_
  rintro e w3 ⟨PA, pc, rfl, rP, lP, mP, x3, bP⟩
  have X3 := Lib.hid (X2.out.tr x3)
  have B3 := Lib.hid (B2.out.ext x3)
  replace rP := Lib.hid rP
  have bP' : Hid (∀ k, bl PA = some k → w.heap.size ≤ k) := fun k hk => Nat.le_trans X2.out.size (bP k hk)
  clear c0 c3 c4 x3 bP
  go_wp2_with (fail)
  have k1 : w3.cell? ⟨w.heap.size, 1, none⟩ = some (.int .i64 n) := B3.out.cell 1
  have k2 : w3.cell? ⟨w.heap.size, 2, none⟩ = some (.int .i64 cap) := B3.out.cell 2
  have zb := B3.out.lt
  refine wp_region_any (by kernel_rfl) ?_
  change wpAny _ _ _ _ _ _ _ (World.drew _)
  refine wpAny_T (i := 0) (op := Op.fieldAddr 25 (Operand.tmp 1) 2) (t := 0) (d := some 30) (v := ?_) rfl (by decide +kernel) (by decide +kernel) (by decide +kernel) (fun _ _ _ h => h) ?_ ?_
  case refine_2 => (intro _; unfold exec2; go_simp; try with_reducible rfl)
  try simp only [Act.put, List.setIfInBounds_toArray, List.set_cons_zero, List.set_cons_succ]
  refine wpAny_T (i := 2) (op := Op.move (Operand.tmp 5)) (t := 22) (d := some 32) (v := ?_) rfl (by decide +kernel) (by decide +kernel) (by decide +kernel) (fun _ _ _ h => h) ?_ ?_
  case refine_2 => (intro _; unfold exec2; go_simp; try with_reducible rfl)
  try simp only [Act.put, List.setIfInBounds_toArray, List.set_cons_zero, List.set_cons_succ]
  refine wpAny_T (i := 3) (op := Op.fieldAddr 25 (Operand.tmp 1) 1) (t := 0) (d := some 33) (v := ?_) rfl (by decide +kernel) (by decide +kernel) (by decide +kernel) (fun _ _ _ h => h) ?_ ?_
  case refine_2 => (intro _; unfold exec2; go_simp; try with_reducible rfl)
  try simp only [Act.put, List.setIfInBounds_toArray, List.set_cons_zero, List.set_cons_succ]
  refine wpAny_core2 (n := 3) [(1, some 31), (4, some 34), (5, some 35), (6, some 36)] (Ext w3)
    (VF (fun | 1 => some (.int .i64 cap) | 4 => some (.int .i64 n) | 5 => some (.int .i64 ((n : Int) + 1)) | _ => none)
      (fun j v W => j = 6 → ∃ h, v = .slice (some ⟨h, 0, none⟩) (n + 1) (n + 1) ∧ OwI W w3.heap.size (some ⟨h, 0, none⟩) (n + 1) (List.replicate (n + 1) 0)))
    Ext #[true, true, true, true, true, true, true, false, false, false] (by kernel_rfl) (VF.stab ?_) ?_ ?_ ((Ext.rf _).drew)
  · intro j v W W' _ g6 hx h
    obtain ⟨h, q1, q2⟩ := g6 h
    exact ⟨h, q1, q2.ext hx⟩
  · intro pq hpm u W hRW hD K hK
    have r1 := keepEL hRW zb k1
    have r2 := keepEL hRW zb k2
    have z2 := hRW.size
    simp only [List.mem_cons, List.not_mem_nil, or_false] at hpm
    rcases hpm with rfl | rfl | rfl | rfl
    · exact op_ld (T := 3) rfl (.pointer (some ⟨w.heap.size, 2, none⟩)) (by kernel_rfl) (.int .i64 cap) (by go_simp) (hK _ _ (VF.mk rfl) hRW (Ext.rf _))
    · exact op_ld (T := 3) rfl (.pointer (some ⟨w.heap.size, 1, none⟩)) (by kernel_rfl) (.int .i64 n) (by go_simp) (hK _ _ (VF.mk rfl) hRW (Ext.rf _))
    · have h4 := (hD 4 (depIn (by kernel_rfl))).k rfl
      exact op_run rfl (.int .i64 ((n : Int) + 1)) (by simp only [putAll, h4]; unfold exec2; go_simp; exact IntWalk.i64_in _ (by omega)) (hK _ _ (VF.mk rfl) hRW (Ext.rf _))
    · have h5 := (hD 5 (depIn (by kernel_rfl))).k rfl
      refine op_make_i rfl w3.heap.size (n + 1) ((n : Int) + 1) (Eq.trans (b := u 5) (by kernel_rfl) h5) (Eq.trans (b := u 5) (by kernel_rfl) h5) (by omega) (by omega) z2 (fun w' o6 g6 => hK _ _ (VF.mg rfl fun _ => ⟨_, rfl, o6⟩) (hRW.grownNone g6) ((Ext.rf _).grownNone g6))
  · intro u w4 hRW hV
    have h1 := (hV (1, some 31) (by simp)).k rfl
    have h4 := (hV (4, some 34) (by simp)).k rfl
    have h5 := (hV (5, some 35) (by simp)).k rfl
    obtain ⟨hb, h6, o6⟩ := (hV (6, some 36) (by simp)).g rfl rfl
    simp only [putAll, h1, h4, h5, h6]
    clear hV h1 h4 h5 h6 k1 k2
    try simp only [Act.put, List.setIfInBounds_toArray, List.set_cons_zero, List.set_cons_succ]
    refine wpAny_T (i := 7) (op := Op.build 101 #[(0, Operand.tmp 31), (1, Operand.tmp 32), (4, Operand.tmp 36)]) (t := 101) (d := some 37) (v := ?_) rfl (by decide +kernel) (by decide +kernel) (by decide +kernel) (fun _ _ _ h => h) ?_ ?_
    case refine_2 => (intro _; unfold exec2; go_simp; try with_reducible rfl)
    try simp only [Act.put, List.setIfInBounds_toArray, List.set_cons_zero, List.set_cons_succ]
    refine wpAny_next 8 (by kernel_rfl) (op_run (op := .box 101 (.tmp 37)) rfl (.pointer (some ⟨w4.heap.size, 0, none⟩)) (w' := w4.alloc (.cells #[.int .i64 cap, .slice PA l.length pc, .slice none 0 0, .slice none 0 0, .slice (some ⟨hb, 0, none⟩) (n + 1) (n + 1)] 101)) (by unfold exec2; go_simp) ?_)
    try simp only [Act.put, List.setIfInBounds_toArray, List.set_cons_zero, List.set_cons_succ]
    refine wpAny_T (i := 9) (op := Op.assign (Operand.tmp 38)) (t := 34) (d := some 7) (v := ?_) rfl (by decide +kernel) (by decide +kernel) (by decide +kernel) (fun _ _ _ h => h) ?_ ?_
    case refine_2 => (intro _; unfold exec2; go_simp; try with_reducible rfl)
    try simp only [Act.put, List.setIfInBounds_toArray, List.set_cons_zero, List.set_cons_succ]
    refine wpAny_done (by kernel_rfl) ?_ _
    have X4 := Lib.hid ((Ext.tr X3.out hRW).alloc (.cells #[.int .i64 cap, .slice PA l.length pc, .slice none 0 0, .slice none 0 0, .slice (some ⟨hb, 0, none⟩) (n + 1) (n + 1)] 101))
    have Y4 := Lib.hid (hRW.alloc (.cells #[.int .i64 cap, .slice PA l.length pc, .slice none 0 0, .slice none 0 0, .slice (some ⟨hb, 0, none⟩) (n + 1) (n + 1)] 101))
    have F4 : Hid (Fill (w4.alloc (.cells #[.int .i64 cap, .slice PA l.length pc, .slice none 0 0, .slice none 0 0, .slice (some ⟨hb, 0, none⟩) (n + 1) (n + 1)] 101)) w3.heap.size w4.heap.size cap PA l.length pc [] [] (List.replicate (n + 1) 0)) := by
      refine ⟨none, 0, none, 0, some ⟨hb, 0, none⟩, n + 1, ?_, hRW.size, OwI.nil _ _, OwI.nil _ _, o6.ext ((Ext.rf _).alloc _), Dis.none _, Dis.none _, Dis.none _⟩
      simp only [List.length_replicate, List.length_nil]
      exact .new rfl
    clear o6
    generalize hw4 : w4.alloc (.cells #[.int .i64 cap, .slice PA l.length pc, .slice none 0 0, .slice none 0 0, .slice (some ⟨hb, 0, none⟩) (n + 1) (n + 1)] 101) = w5 at *
    clear hw4 hRW
    generalize w4.heap.size = g at *
    clear w4
    go_simp
    go_wp2_with (fail)
    have lP9 := rP.out
    have hbs : Hid (∀ (u : World) (z : Int), (Instr.buildSlice 22 1 #[(0, .int .i64 z)]).run Try.prog u = .ok (.slice (some ⟨u.heap.size, 0, none⟩) 1 1) (u.alloc (.cells #[.int .i64 z] 3))) := fun u z => by go_simp
    have F4' : Hid (Fill w5 w3.heap.size g cap PA l.length pc (inOrder (l.take 0) xw) (inOrder (l.take 0) xv) (List.replicate (n + 1) 0)) := F4.out
    clear F4 lP9
    go_loopw [41] (fun i wr => ∃ j : Nat, i = .int .i64 j ∧ j ≤ n ∧ Hid (Fill wr w3.heap.size g cap PA l.length pc (inOrder (l.take j) xw) (inOrder (l.take j) xv) (List.replicate (n + 1) 0)) ∧ Ext w3 wr) (fun i _ => n - (intOf i).toNat)
    case atStart => exact ⟨0, rfl, by omega, F4', Y4.out⟩
    case round =>
      obtain ⟨wo, rfl⟩ : ∃ wo : World, wo = wr := ⟨_, rfl⟩
      obtain ⟨j, rfl, hj, HF, Y⟩ := hrel
      have Bi := Lib.hid (B3.out.ext Y)
      by_cases hlt : j < n
      · obtain ⟨pb, po, qi, rfl, _, cq, eq1, _⟩ := (rP.out.ext Y).at (k := j) (by rw [nl_len, RL.out]; exact hlt)
        have hj' : j < l.length := by rw [RL.out]; exact hlt
        obtain ⟨q, hq0⟩ : ∃ q, Hid (l[j]? = some q) := ⟨l[j], List.getElem?_eq_getElem hj'⟩
        obtain rfl : qi = (q : Int) := by
          have h1 := nl_get hq0.out
          rw [eq1.out] at h1
          exact Option.some.inj h1
        have hqn : q < n := RM.out j q hq0.out
        have hqw : q < xw.length := by rw [lw.out]; exact hqn
        have hqv : q < xv.length := by rw [lv.out]; exact hqn
        obtain ⟨ab, ao, x, rfl, zs2', cs2', ex, _⟩ := (rA.out.ext X3.out).at hqw
        obtain ⟨bb, bo, y, rfl, zs3', cs3', ey, _⟩ := (rB.out.ext X3.out).at hqv
        have EW : Hid (inOrder (l.take (j + 1)) xw = inOrder (l.take j) xw ++ [x]) := inOrder_succ hq0.out ex.out
        have EV : Hid (inOrder (l.take (j + 1)) xv = inOrder (l.take j) xv ++ [y]) := inOrder_succ hq0.out ey.out
        have lW : (inOrder (l.take j) xw).length ≤ 64 := by rw [inOrder_len]; simp; omega
        have lV : (inOrder (l.take j) xv).length ≤ 64 := by rw [inOrder_len]; simp; omega
        generalize inOrder (l.take j) xw = WL at *
        generalize inOrder (l.take j) xv = VL at *
        have zi := Bi.out.lt
        go_wp2_with (fail)
        obtain ⟨WA, wc, VA, vc, HA, hc, Bg, hgb, OW, OV, OH, dd1, dd2, dd3⟩ := HF.out
        have zg := Bg.lt
        have zs2 := Nat.lt_of_lt_of_le zs2' Y.size
        have cs2 := keepEL Y zs2' cs2'
        replace Bg := Lib.hid Bg
        replace OW := Lib.hid OW
        replace OV := Lib.hid OV
        replace OH := Lib.hid OH
        refine wp_region_any (by kernel_rfl) ?_
        change wpAny _ _ _ _ _ _ _ (World.drew _)
        refine wpAny_T (i := 0) (op := Op.move (Operand.tmp 7)) (t := 34) (d := some 45) (v := ?_) rfl (by decide +kernel) (by decide +kernel) (by decide +kernel) (fun _ _ _ h => h) ?_ ?_
        case refine_2 => (intro _; unfold exec2; go_simp; try with_reducible rfl)
        try simp only [Act.put, List.setIfInBounds_toArray, List.set_cons_zero, List.set_cons_succ]
        refine wpAny_T (i := 1) (op := Op.move (Operand.tmp 7)) (t := 34) (d := some 46) (v := ?_) rfl (by decide +kernel) (by decide +kernel) (by decide +kernel) (fun _ _ _ h => h) ?_ ?_
        case refine_2 => (intro _; unfold exec2; go_simp; try with_reducible rfl)
        try simp only [Act.put, List.setIfInBounds_toArray, List.set_cons_zero, List.set_cons_succ]
        refine wpAny_T (i := 2) (op := Op.nilCheck (Operand.tmp 46)) (t := 0) (d := some 47) (v := ?_) rfl (by decide +kernel) (by decide +kernel) (by decide +kernel) (fun _ _ _ h => h) ?_ ?_
        case refine_2 => (intro _; unfold exec2; go_simp; try with_reducible rfl)
        try simp only [Act.put, List.setIfInBounds_toArray, List.set_cons_zero, List.set_cons_succ]
        refine wpAny_T (i := 3) (op := Op.fieldAddr 101 (Operand.tmp 47) 2) (t := 0) (d := some 48) (v := ?_) rfl (by decide +kernel) (by decide +kernel) (by decide +kernel) (fun _ _ _ h => h) ?_ ?_
        case refine_2 => (intro _; unfold exec2; go_simp; try with_reducible rfl)
        try simp only [Act.put, List.setIfInBounds_toArray, List.set_cons_zero, List.set_cons_succ]
        refine wpAny_T (i := 5) (op := Op.fieldAddr 25 (Operand.tmp 1) 3) (t := 0) (d := some 50) (v := ?_) rfl (by decide +kernel) (by decide +kernel) (by decide +kernel) (fun _ _ _ h => h) ?_ ?_
        case refine_2 => (intro _; unfold exec2; go_simp; try with_reducible rfl)
        try simp only [Act.put, List.setIfInBounds_toArray, List.set_cons_zero, List.set_cons_succ]
        refine wpAny_T (i := 7) (op := Op.move (Operand.tmp 9)) (t := 3) (d := some 52) (v := ?_) rfl (by decide +kernel) (by decide +kernel) (by decide +kernel) (fun _ _ _ h => h) ?_ ?_
        case refine_2 => (intro _; unfold exec2; go_simp; try with_reducible rfl)
        try simp only [Act.put, List.setIfInBounds_toArray, List.set_cons_zero, List.set_cons_succ]
        refine wpAny_core2 (n := 4) [(4, some 49), (6, some 51), (8, some 53), (9, some 54), (10, some 55)] (Ext wo)
          (VF (fun | 4 => some (.slice WA WL.length wc) | 6 => some (.slice (some ⟨ab, ao, none⟩) xw.length a) | 8 => some (.pointer (some ⟨ab, ao + q, none⟩)) | 9 => some (.int .i64 x) | _ => none)
            (fun j v W => j = 10 → ∃ h, v = .slice (some ⟨h, 0, none⟩) 1 1 ∧ Blk W h 3 #[.int .i64 x]))
          Ext #[true, true, true, true, true, true, true, true, true, true, true, false, false, false, false] (by kernel_rfl) (VF.stab ?_) ?_ ?_ ((Ext.rf _).drew)
        · intro j v W W' _ g6 hx h
          obtain ⟨h, q1, q2⟩ := g6 h
          exact ⟨h, q1, q2.ext hx⟩
        · intro pq hpm u W hRW hD K hK
          have r1 := keepEL hRW zg (Bg.out.cell 2)
          have r2 := keepEL hRW zi (Bi.out.cell 3)
          have r3 := keepEL hRW zs2 cs2
          simp only [List.mem_cons, List.not_mem_nil, or_false] at hpm
          rcases hpm with rfl | rfl | rfl | rfl | rfl
          · exact op_ld (T := 22) rfl (.pointer (some ⟨g, 2, none⟩)) (by kernel_rfl) (.slice WA WL.length wc) (by go_simp) (hK _ _ (VF.mk rfl) hRW (Ext.rf _))
          · exact op_ld (T := 22) rfl (.pointer (some ⟨w.heap.size, 3, none⟩)) (by kernel_rfl) (.slice (some ⟨ab, ao, none⟩) xw.length a) (by go_simp) (hK _ _ (VF.mk rfl) hRW (Ext.rf _))
          · have h6 := (hD 6 (depIn (by kernel_rfl))).k rfl
            exact op_ix (T := 22) rfl (.slice (some ⟨ab, ao, none⟩) xw.length a) (.int .i64 q) (Eq.trans (b := u 6) (by kernel_rfl) h6) (by kernel_rfl) (.pointer (some ⟨ab, ao + q, none⟩)) (by go_simp) (hK _ _ (VF.mk rfl) hRW (Ext.rf _))
          · have h8 := (hD 8 (depIn (by kernel_rfl))).k rfl
            exact op_ld (T := 3) rfl (.pointer (some ⟨ab, ao + q, none⟩)) (Eq.trans (b := u 8) (by kernel_rfl) h8) (.int .i64 x) (by go_simp) (hK _ _ (VF.mk rfl) hRW (Ext.rf _))
          · have h9 := (hD 9 (depIn (by kernel_rfl))).k rfl
            exact op_bs1 rfl _ (Eq.trans (b := u 9) (by kernel_rfl) h9) _ (hbs.out _ _) (hK _ _ (VF.mg rfl fun _ => ⟨_, rfl, .new rfl⟩) (hRW.alloc _) ((Ext.rf _).alloc _))
        · intro u w6 hRW hV
          have h4 := (hV (4, some 49) (by simp)).k rfl
          have h6 := (hV (6, some 51) (by simp)).k rfl
          have h8 := (hV (8, some 53) (by simp)).k rfl
          have h9 := (hV (9, some 54) (by simp)).k rfl
          obtain ⟨hq, h10, b10⟩ := (hV (10, some 55) (by simp)).g rfl rfl
          simp only [putAll, h4, h6, h8, h9, h10]
          obtain ⟨A7, c7, w7, hrun, o7, g7, alt7⟩ := run_app_i w6 w3.heap.size 22 WA WL.length wc WL [x] (some ⟨hq, 0, none⟩) 1 rfl (OW.out.ext hRW) (.blk b10 rfl) (by simp; omega) (Nat.le_trans Y.size hRW.size)
          obtain ⟨b7, F7⟩ := fill_w (Bg.out.ext hRW) hgb (OW.out.ext hRW) (OV.out.ext hRW) (OH.out.ext hRW) dd1 dd2 dd3 g7 o7 alt7
          have x7 : Ext w3 w7 := (Y.tr hRW).grow g7 (fun k hk => (OW.out.lt k hk).1)
          have cg7 : w7.cell? ⟨g, 2, none⟩ = some (.slice WA WL.length wc) := b7.cell 2
          have fg7 := b7.free 2
          have Y7 : Ext w3 (w7.setCell ⟨g, 2, none⟩ (.slice A7 (WL.length + 1) c7)) := x7.setNew (p := ⟨g, 2, none⟩) hgb _
          replace F7 := Lib.hid F7
          rw [show (WL ++ [x]).length = WL.length + 1 from by simp] at hrun
          clear h4 h6 h8 h9 h10 hV b10 o7 g7 alt7 b7
          refine wpAny_next 11 (by kernel_rfl) (op_app rfl (.slice WA WL.length wc) (.slice (some ⟨hq, 0, none⟩) 1 1) (by kernel_rfl) (by kernel_rfl) _ hrun ?_)
          try simp only [Act.put, List.setIfInBounds_toArray, List.set_cons_zero, List.set_cons_succ]
          refine wpAny_T (i := 12) (op := Op.nilCheck (Operand.tmp 45)) (t := 0) (d := some 57) (v := ?_) rfl (by decide +kernel) (by decide +kernel) (by decide +kernel) (fun _ _ _ h => h) ?_ ?_
          case refine_2 => (intro _; unfold exec2; go_simp; try with_reducible rfl)
          try simp only [Act.put, List.setIfInBounds_toArray, List.set_cons_zero, List.set_cons_succ]
          refine wpAny_T (i := 13) (op := Op.fieldAddr 101 (Operand.tmp 57) 2) (t := 0) (d := some 58) (v := ?_) rfl (by decide +kernel) (by decide +kernel) (by decide +kernel) (fun _ _ _ h => h) ?_ ?_
          case refine_2 => (intro _; unfold exec2; go_simp; try with_reducible rfl)
          try simp only [Act.put, List.setIfInBounds_toArray, List.set_cons_zero, List.set_cons_succ]
          refine wpAny_next 14 (by kernel_rfl) (op_st rfl (.pointer (some ⟨g, 2, none⟩)) (.slice A7 (WL.length + 1) c7) (by kernel_rfl) (by kernel_rfl) (by go_simp; rfl) ?_)
          refine wpAny_done (by kernel_rfl) ?_ _
          clear hrun hRW cg7 fg7 x7
          generalize w7.setCell ⟨g, 2, none⟩ (.slice A7 (WL.length + 1) c7) = w8 at *
          clear w7
          go_simp
          clear Bg OW OV OH dd1 dd2 dd3 HF zg cs2 zs2 Bi zi
          have Bi := Lib.hid (B3.out.ext Y7)
          have zi := Bi.out.lt
          go_wp2_with (fail)
          obtain ⟨WA2, wc2, VA2, vc2, HA2, hc2, Bg, hgb, OW, OV, OH, dd1, dd2, dd3⟩ := F7.out
          have zg := Bg.lt
          have zs3 := Nat.lt_of_lt_of_le zs3' Y7.size
          have cs3 := keepEL Y7 zs3' cs3'
          replace Bg := Lib.hid Bg
          replace OW := Lib.hid OW
          replace OV := Lib.hid OV
          replace OH := Lib.hid OH
          clear F7
          refine wp_region_any (by kernel_rfl) ?_
          change wpAny _ _ _ _ _ _ _ (World.drew _)
          refine wpAny_T (i := 0) (op := Op.move (Operand.tmp 7)) (t := 34) (d := some 59) (v := ?_) rfl (by decide +kernel) (by decide +kernel) (by decide +kernel) (fun _ _ _ h => h) ?_ ?_
          case refine_2 => (intro _; unfold exec2; go_simp; try with_reducible rfl)
          try simp only [Act.put, List.setIfInBounds_toArray, List.set_cons_zero, List.set_cons_succ]
          refine wpAny_T (i := 1) (op := Op.move (Operand.tmp 7)) (t := 34) (d := some 60) (v := ?_) rfl (by decide +kernel) (by decide +kernel) (by decide +kernel) (fun _ _ _ h => h) ?_ ?_
          case refine_2 => (intro _; unfold exec2; go_simp; try with_reducible rfl)
          try simp only [Act.put, List.setIfInBounds_toArray, List.set_cons_zero, List.set_cons_succ]
          refine wpAny_T (i := 2) (op := Op.nilCheck (Operand.tmp 60)) (t := 0) (d := some 61) (v := ?_) rfl (by decide +kernel) (by decide +kernel) (by decide +kernel) (fun _ _ _ h => h) ?_ ?_
          case refine_2 => (intro _; unfold exec2; go_simp; try with_reducible rfl)
          try simp only [Act.put, List.setIfInBounds_toArray, List.set_cons_zero, List.set_cons_succ]
          refine wpAny_T (i := 3) (op := Op.fieldAddr 101 (Operand.tmp 61) 3) (t := 0) (d := some 62) (v := ?_) rfl (by decide +kernel) (by decide +kernel) (by decide +kernel) (fun _ _ _ h => h) ?_ ?_
          case refine_2 => (intro _; unfold exec2; go_simp; try with_reducible rfl)
          try simp only [Act.put, List.setIfInBounds_toArray, List.set_cons_zero, List.set_cons_succ]
          refine wpAny_T (i := 5) (op := Op.fieldAddr 25 (Operand.tmp 1) 4) (t := 0) (d := some 64) (v := ?_) rfl (by decide +kernel) (by decide +kernel) (by decide +kernel) (fun _ _ _ h => h) ?_ ?_
          case refine_2 => (intro _; unfold exec2; go_simp; try with_reducible rfl)
          try simp only [Act.put, List.setIfInBounds_toArray, List.set_cons_zero, List.set_cons_succ]
          refine wpAny_T (i := 7) (op := Op.move (Operand.tmp 9)) (t := 3) (d := some 66) (v := ?_) rfl (by decide +kernel) (by decide +kernel) (by decide +kernel) (fun _ _ _ h => h) ?_ ?_
          case refine_2 => (intro _; unfold exec2; go_simp; try with_reducible rfl)
          try simp only [Act.put, List.setIfInBounds_toArray, List.set_cons_zero, List.set_cons_succ]
          refine wpAny_core2 (n := 4) [(4, some 63), (6, some 65), (8, some 67), (9, some 68), (10, some 69)] (Ext w8)
            (VF (fun | 4 => some (.slice VA2 VL.length vc2) | 6 => some (.slice (some ⟨bb, bo, none⟩) xv.length b) | 8 => some (.pointer (some ⟨bb, bo + q, none⟩)) | 9 => some (.int .i64 y) | _ => none)
              (fun j v W => j = 10 → ∃ h, v = .slice (some ⟨h, 0, none⟩) 1 1 ∧ Blk W h 3 #[.int .i64 y]))
            Ext #[true, true, true, true, true, true, true, true, true, true, true, false, false, false, false] (by kernel_rfl) (VF.stab ?_) ?_ ?_ ((Ext.rf _).drew)
          · intro j v W W' _ g6 hx h
            obtain ⟨h, q1, q2⟩ := g6 h
            exact ⟨h, q1, q2.ext hx⟩
          · intro pq hpm u W hRW hD K hK
            have r1 := keepEL hRW zg (Bg.out.cell 3)
            have r2 := keepEL hRW zi (Bi.out.cell 4)
            have r3 := keepEL hRW zs3 cs3
            simp only [List.mem_cons, List.not_mem_nil, or_false] at hpm
            rcases hpm with rfl | rfl | rfl | rfl | rfl
            · exact op_ld (T := 22) rfl (.pointer (some ⟨g, 3, none⟩)) (by kernel_rfl) (.slice VA2 VL.length vc2) (by go_simp) (hK _ _ (VF.mk rfl) hRW (Ext.rf _))
            · exact op_ld (T := 22) rfl (.pointer (some ⟨w.heap.size, 4, none⟩)) (by kernel_rfl) (.slice (some ⟨bb, bo, none⟩) xv.length b) (by go_simp) (hK _ _ (VF.mk rfl) hRW (Ext.rf _))
            · have h6 := (hD 6 (depIn (by kernel_rfl))).k rfl
              exact op_ix (T := 22) rfl (.slice (some ⟨bb, bo, none⟩) xv.length b) (.int .i64 q) (Eq.trans (b := u 6) (by kernel_rfl) h6) (by kernel_rfl) (.pointer (some ⟨bb, bo + q, none⟩)) (by go_simp) (hK _ _ (VF.mk rfl) hRW (Ext.rf _))
            · have h8 := (hD 8 (depIn (by kernel_rfl))).k rfl
              exact op_ld (T := 3) rfl (.pointer (some ⟨bb, bo + q, none⟩)) (Eq.trans (b := u 8) (by kernel_rfl) h8) (.int .i64 y) (by go_simp) (hK _ _ (VF.mk rfl) hRW (Ext.rf _))
            · have h9 := (hD 9 (depIn (by kernel_rfl))).k rfl
              exact op_bs1 rfl _ (Eq.trans (b := u 9) (by kernel_rfl) h9) _ (hbs.out _ _) (hK _ _ (VF.mg rfl fun _ => ⟨_, rfl, .new rfl⟩) (hRW.alloc _) ((Ext.rf _).alloc _))
          · intro u w6 hRW hV
            have h4 := (hV (4, some 63) (by simp)).k rfl
            have h6 := (hV (6, some 65) (by simp)).k rfl
            have h8 := (hV (8, some 67) (by simp)).k rfl
            have h9 := (hV (9, some 68) (by simp)).k rfl
            obtain ⟨hq, h10, b10⟩ := (hV (10, some 69) (by simp)).g rfl rfl
            simp only [putAll, h4, h6, h8, h9, h10]
            obtain ⟨A7, c7, w7, hrun, o7, g7, alt7⟩ := run_app_i w6 w3.heap.size 22 VA2 VL.length vc2 VL [y] (some ⟨hq, 0, none⟩) 1 rfl (OV.out.ext hRW) (.blk b10 rfl) (by simp; omega) (Nat.le_trans Y7.size hRW.size)
            obtain ⟨b7, F7⟩ := fill_v (Bg.out.ext hRW) hgb (OW.out.ext hRW) (OV.out.ext hRW) (OH.out.ext hRW) dd1 dd2 dd3 g7 o7 alt7
            have x7 : Ext w3 w7 := (Y7.tr hRW).grow g7 (fun k hk => (OV.out.lt k hk).1)
            have cg7 : w7.cell? ⟨g, 3, none⟩ = some (.slice VA2 VL.length vc2) := b7.cell 3
            have fg7 := b7.free 3
            have Y9 : Ext w3 (w7.setCell ⟨g, 3, none⟩ (.slice A7 (VL.length + 1) c7)) := x7.setNew (p := ⟨g, 3, none⟩) hgb _
            have F9 := Lib.hid F7
            rw [show (VL ++ [y]).length = VL.length + 1 from by simp] at hrun
            clear F7 h4 h6 h8 h9 h10 hV b10 o7 g7 alt7 b7
            refine wpAny_next 11 (by kernel_rfl) (op_app rfl (.slice VA2 VL.length vc2) (.slice (some ⟨hq, 0, none⟩) 1 1) (by kernel_rfl) (by kernel_rfl) _ hrun ?_)
            try simp only [Act.put, List.setIfInBounds_toArray, List.set_cons_zero, List.set_cons_succ]
            refine wpAny_T (i := 12) (op := Op.nilCheck (Operand.tmp 59)) (t := 0) (d := some 71) (v := ?_) rfl (by decide +kernel) (by decide +kernel) (by decide +kernel) (fun _ _ _ h => h) ?_ ?_
            case refine_2 => (intro _; unfold exec2; go_simp; try with_reducible rfl)
            try simp only [Act.put, List.setIfInBounds_toArray, List.set_cons_zero, List.set_cons_succ]
            refine wpAny_T (i := 13) (op := Op.fieldAddr 101 (Operand.tmp 71) 3) (t := 0) (d := some 72) (v := ?_) rfl (by decide +kernel) (by decide +kernel) (by decide +kernel) (fun _ _ _ h => h) ?_ ?_
            case refine_2 => (intro _; unfold exec2; go_simp; try with_reducible rfl)
            try simp only [Act.put, List.setIfInBounds_toArray, List.set_cons_zero, List.set_cons_succ]
            refine wpAny_next 14 (by kernel_rfl) (op_st rfl (.pointer (some ⟨g, 3, none⟩)) (.slice A7 (VL.length + 1) c7) (by kernel_rfl) (by kernel_rfl) (by go_simp; rfl) ?_)
            refine wpAny_done (by kernel_rfl) ?_ _
            clear hrun hRW cg7 fg7 x7
            generalize w7.setCell ⟨g, 3, none⟩ (.slice A7 (VL.length + 1) c7) = w9 at *
            clear w7
            go_simp
            go_wp2_with (fail)
            go_roundw
            case rel => exact ⟨j + 1, by go_num, by omega, by rw [EW.out, EV.out]; exact F9.out, Y9⟩
            case measure => simp [intOf]; omega
      · obtain rfl : j = n := by omega
        have eF : Hid (l.take j = l) := List.take_of_length_le (by rw [RL.out]; exact Nat.le_refl _)
        have HF' : Hid (Fill wo w3.heap.size g cap PA l.length pc (inOrder l xw) (inOrder l xv) (List.replicate (j + 1) 0)) := by
          have h := HF.out
          rw [eF.out] at h
          exact h
        have lV : (inOrder l xv).length = j := by rw [inOrder_len]; exact RL.out
        have bV : Small31 (inOrder l xv) := by
          intro z hz
          obtain ⟨q, hq, rfl⟩ := List.mem_map.1 hz
          obtain ⟨k, hk⟩ := List.mem_iff_getElem?.1 hq
          have hqn := RM.out k q hk
          have : xv[q]? = some (xv[q]'(by rw [lv.out]; exact hqn)) := List.getElem?_eq_getElem _
          rw [getD_some this]
          exact sv.out _ (List.getElem_mem _)
        have HF2 : Hid (Fill wo w3.heap.size g cap PA l.length pc (inOrder l xw) (inOrder l xv) (sumsL (inOrder l xv) j)) := by
          have h := HF'.out
          have e9 := sumsL_full (inOrder l xv)
          rw [lV] at e9
          rw [← e9] at h
          exact h
        have hWe : Hid (inOrder l xw = inOrder (ratioP xv xw) xw) := by rw [hl.out]; exact rfl
        have hVe : Hid (inOrder l xv = inOrder (ratioP xv xw) xv) := by rw [hl.out]; exact rfl
        generalize inOrder l xw = XW at *
        generalize inOrder l xv = XV at *
        have k1 : wo.cell? ⟨w.heap.size, 1, none⟩ = some (.int .i64 j) := Bi.out.cell 1
        clear HF HF' eF
        replace lV := Lib.hid lV
        replace bV := Lib.hid bV
        have hge : l.length ≤ j := by rw [RL.out]; exact Nat.le_refl _
        have hgeb : decide (j < l.length) = false := by simpa using hge
        go_wp2_with (fail)
        go_loopw [10] (fun i wr => ∃ (k : Nat) (z : Int), i = .int .i64 z ∧ z + 1 = (k : Int) ∧ k ≤ j ∧ Hid (Fill wr w3.heap.size g cap PA l.length pc XW XV (sumsL XV k)) ∧ Ext w3 wr) (fun i _ => (intOf i + 1).toNat)
        case atStart => exact ⟨j, _, rfl, by omega, by omega, HF2, Y⟩
        case round =>
          obtain ⟨wq, rfl⟩ : ∃ wq : World, wq = wr := ⟨_, rfl⟩
          obtain ⟨k, z, rfl, hz, hk, HG, Z⟩ := hrel
          by_cases h0 : 1 ≤ k
          · obtain ⟨m, rfl⟩ : ∃ m, k = m + 1 := ⟨k - 1, by omega⟩
            obtain rfl : z = (m : Int) := by omega
            obtain ⟨WA, wc, VA, vc, HA, hc, Bg, hgb, OW, OV, OH, dd1, dd2, dd3⟩ := HG.out
            obtain ⟨hb, x0, rfl, hbb, zh, _, _, _, hset⟩ := OH.at (k := m) (by rw [sumsL_len, lV.out]; omega)
            obtain ⟨hb', x1, e1, _, _, ch1, _, ex1, _⟩ := OH.at (k := m + 1) (by rw [sumsL_len, lV.out]; omega)
            obtain rfl : hb = hb' := by injection e1 with e1; injection e1
            obtain rfl : x1 = sumL (XV.drop (m + 1)) := by
              have h1 := sumsL_get (vs := XV) (k := m + 1) (i := m + 1) (by rw [lV.out]; omega) (Nat.le_refl _)
              rw [ex1.out] at h1
              exact Option.some.inj h1
            obtain ⟨vb, y, rfl, _, zv, cv, _, ey, _⟩ := OV.at (k := m) (by rw [lV.out]; omega)
            have bd1 := sumL_bd bV.out (m + 1)
            rw [lV.out] at bd1
            have bd2 := bV.out.get ey.out
            have cB := Bg.cell 4
            have cV := Bg.cell 3
            have zg := Bg.lt
            have lB : (sumsL XV (m + 1)).length = j + 1 := by rw [sumsL_len, lV.out]
            simp only [lB, lV.out] at cB cV
            obtain ⟨S, hS⟩ : ∃ S, Hid (S = sumL (XV.drop (m + 1))) := ⟨_, rfl⟩
            rw [← hS.out] at bd1 ch1
            replace Bg := Lib.hid Bg
            replace OW := Lib.hid OW
            replace OV := Lib.hid OV
            replace OH := Lib.hid OH
            clear hset HG lB ex1 e1 hz h0
            replace cB : wq.cell? ⟨g, 4, none⟩ = some (.slice (some ⟨hb, 0, none⟩) (j + 1) hc) := cB
            replace cV : wq.cell? ⟨g, 3, none⟩ = some (.slice (some ⟨vb, 0, none⟩) j vc) := cV
            have hmj : m < j := by omega
            have q1 : (0 : Int) ≤ (m : Int) + 1 := by omega
            have q2 : (m : Int) < (j : Int) + 1 := by omega
            have q3 : (m : Int) + 1 < (j : Int) + 1 := by omega
            have q4 : ¬ ((m : Int) + 1 < 0) := by omega
            clear HF2
            go_wp2_with (fail)
            refine wp_region_any (by kernel_rfl) ?_
            change wpAny _ _ _ _ _ _ _ (World.drew _)
            refine wpAny_T (i := 0) (op := Op.move (Operand.tmp 7)) (t := 34) (d := some 81) (v := ?_) rfl (by decide +kernel) (by decide +kernel) (by decide +kernel) (fun _ _ _ h => h) ?_ ?_
            case refine_2 => (intro _; unfold exec2; go_simp; try with_reducible rfl)
            try simp only [Act.put, List.setIfInBounds_toArray, List.set_cons_zero, List.set_cons_succ]
            refine wpAny_T (i := 1) (op := Op.nilCheck (Operand.tmp 81)) (t := 0) (d := some 82) (v := ?_) rfl (by decide +kernel) (by decide +kernel) (by decide +kernel) (fun _ _ _ h => h) ?_ ?_
            case refine_2 => (intro _; unfold exec2; go_simp; try with_reducible rfl)
            try simp only [Act.put, List.setIfInBounds_toArray, List.set_cons_zero, List.set_cons_succ]
            refine wpAny_T (i := 2) (op := Op.fieldAddr 101 (Operand.tmp 82) 4) (t := 0) (d := some 83) (v := ?_) rfl (by decide +kernel) (by decide +kernel) (by decide +kernel) (fun _ _ _ h => h) ?_ ?_
            case refine_2 => (intro _; unfold exec2; go_simp; try with_reducible rfl)
            try simp only [Act.put, List.setIfInBounds_toArray, List.set_cons_zero, List.set_cons_succ]
            refine wpAny_T (i := 4) (op := Op.move (Operand.tmp 10)) (t := 3) (d := some 85) (v := ?_) rfl (by decide +kernel) (by decide +kernel) (by decide +kernel) (fun _ _ _ h => h) ?_ ?_
            case refine_2 => (intro _; unfold exec2; go_simp; try with_reducible rfl)
            try simp only [Act.put, List.setIfInBounds_toArray, List.set_cons_zero, List.set_cons_succ]
            refine wpAny_T (i := 5) (op := Op.move (Operand.tmp 7)) (t := 34) (d := some 86) (v := ?_) rfl (by decide +kernel) (by decide +kernel) (by decide +kernel) (fun _ _ _ h => h) ?_ ?_
            case refine_2 => (intro _; unfold exec2; go_simp; try with_reducible rfl)
            try simp only [Act.put, List.setIfInBounds_toArray, List.set_cons_zero, List.set_cons_succ]
            refine wpAny_T (i := 6) (op := Op.nilCheck (Operand.tmp 86)) (t := 0) (d := some 87) (v := ?_) rfl (by decide +kernel) (by decide +kernel) (by decide +kernel) (fun _ _ _ h => h) ?_ ?_
            case refine_2 => (intro _; unfold exec2; go_simp; try with_reducible rfl)
            try simp only [Act.put, List.setIfInBounds_toArray, List.set_cons_zero, List.set_cons_succ]
            refine wpAny_T (i := 7) (op := Op.fieldAddr 101 (Operand.tmp 87) 4) (t := 0) (d := some 88) (v := ?_) rfl (by decide +kernel) (by decide +kernel) (by decide +kernel) (fun _ _ _ h => h) ?_ ?_
            case refine_2 => (intro _; unfold exec2; go_simp; try with_reducible rfl)
            try simp only [Act.put, List.setIfInBounds_toArray, List.set_cons_zero, List.set_cons_succ]
            refine wpAny_T (i := 9) (op := Op.move (Operand.tmp 10)) (t := 3) (d := some 90) (v := ?_) rfl (by decide +kernel) (by decide +kernel) (by decide +kernel) (fun _ _ _ h => h) ?_ ?_
            case refine_2 => (intro _; unfold exec2; go_simp; try with_reducible rfl)
            try simp only [Act.put, List.setIfInBounds_toArray, List.set_cons_zero, List.set_cons_succ]
            refine wpAny_T (i := 13) (op := Op.move (Operand.tmp 7)) (t := 34) (d := some 94) (v := ?_) rfl (by decide +kernel) (by decide +kernel) (by decide +kernel) (fun _ _ _ h => h) ?_ ?_
            case refine_2 => (intro _; unfold exec2; go_simp; try with_reducible rfl)
            try simp only [Act.put, List.setIfInBounds_toArray, List.set_cons_zero, List.set_cons_succ]
            refine wpAny_T (i := 14) (op := Op.nilCheck (Operand.tmp 94)) (t := 0) (d := some 95) (v := ?_) rfl (by decide +kernel) (by decide +kernel) (by decide +kernel) (fun _ _ _ h => h) ?_ ?_
            case refine_2 => (intro _; unfold exec2; go_simp; try with_reducible rfl)
            try simp only [Act.put, List.setIfInBounds_toArray, List.set_cons_zero, List.set_cons_succ]
            refine wpAny_T (i := 15) (op := Op.fieldAddr 101 (Operand.tmp 95) 3) (t := 0) (d := some 96) (v := ?_) rfl (by decide +kernel) (by decide +kernel) (by decide +kernel) (fun _ _ _ h => h) ?_ ?_
            case refine_2 => (intro _; unfold exec2; go_simp; try with_reducible rfl)
            try simp only [Act.put, List.setIfInBounds_toArray, List.set_cons_zero, List.set_cons_succ]
            refine wpAny_T (i := 17) (op := Op.move (Operand.tmp 10)) (t := 3) (d := some 98) (v := ?_) rfl (by decide +kernel) (by decide +kernel) (by decide +kernel) (fun _ _ _ h => h) ?_ ?_
            case refine_2 => (intro _; unfold exec2; go_simp; try with_reducible rfl)
            try simp only [Act.put, List.setIfInBounds_toArray, List.set_cons_zero, List.set_cons_succ]
            refine wpAny_core2 (n := 2) [(3, some 84), (8, some 89), (10, some 91), (11, some 92), (12, some 93), (16, some 97), (18, some 99), (19, some 100), (20, some 101)] (Ext wq)
              (VF (fun | 3 => some (.slice (some ⟨hb, 0, none⟩) (j + 1) hc) | 8 => some (.slice (some ⟨hb, 0, none⟩) (j + 1) hc) | 10 => some (.int .i64 ((m : Int) + 1)) | 11 => some (.pointer (some ⟨hb, m + 1, none⟩)) | 12 => some (.int .i64 S) | 16 => some (.slice (some ⟨vb, 0, none⟩) j vc) | 18 => some (.pointer (some ⟨vb, m, none⟩)) | 19 => some (.int .i64 y) | 20 => some (.int .i64 (S + y)) | _ => none) (fun _ _ _ => True))
              Ext #[true, true, true, true, true, true, true, true, true, true, true, true, true, true, true, true, true, true, true, true, true, false, false] (by kernel_rfl) (VF.stab ?_) ?_ ?_ ((Ext.rf _).drew)
            · intro j v W W' _ h _
              exact h
            · intro pq hpm u W hRW hD K hK
              have r1 := keepEL hRW zg cB
              have r2 := keepEL hRW zg cV
              have r3 := keepEL hRW zh ch1
              have r4 := keepEL hRW zv cv
              simp only [List.mem_cons, List.not_mem_nil, or_false] at hpm
              rcases hpm with rfl | rfl | rfl | rfl | rfl | rfl | rfl | rfl | rfl
              · exact op_ld (T := 22) rfl (.pointer (some ⟨g, 4, none⟩)) (by kernel_rfl) (.slice (some ⟨hb, 0, none⟩) (j + 1) hc) (by go_simp) (hK _ _ (VF.mk rfl) hRW (Ext.rf _))
              · exact op_ld (T := 22) rfl (.pointer (some ⟨g, 4, none⟩)) (by kernel_rfl) (.slice (some ⟨hb, 0, none⟩) (j + 1) hc) (by go_simp) (hK _ _ (VF.mk rfl) hRW (Ext.rf _))
              · exact op_run rfl (.int .i64 ((m : Int) + 1)) (by simp only [putAll]; unfold exec2; go_simp; exact IntWalk.i64_in _ (by omega)) (hK _ _ (VF.mk rfl) hRW (Ext.rf _))
              · have h8 := (hD 8 (depIn (by kernel_rfl))).k rfl
                have h10 := (hD 10 (depIn (by kernel_rfl))).k rfl
                exact op_ix (T := 22) rfl (.slice (some ⟨hb, 0, none⟩) (j + 1) hc) (.int .i64 ((m : Int) + 1)) (Eq.trans (b := u 8) (by kernel_rfl) h8) (Eq.trans (b := u 10) (by kernel_rfl) h10) (.pointer (some ⟨hb, m + 1, none⟩)) (by go_simp) (hK _ _ (VF.mk rfl) hRW (Ext.rf _))
              · have h11 := (hD 11 (depIn (by kernel_rfl))).k rfl
                exact op_ld (T := 3) rfl (.pointer (some ⟨hb, m + 1, none⟩)) (Eq.trans (b := u 11) (by kernel_rfl) h11) (.int .i64 S) (by go_simp) (hK _ _ (VF.mk rfl) hRW (Ext.rf _))
              · exact op_ld (T := 22) rfl (.pointer (some ⟨g, 3, none⟩)) (by kernel_rfl) (.slice (some ⟨vb, 0, none⟩) j vc) (by go_simp) (hK _ _ (VF.mk rfl) hRW (Ext.rf _))
              · have h16 := (hD 16 (depIn (by kernel_rfl))).k rfl
                exact op_ix (T := 22) rfl (.slice (some ⟨vb, 0, none⟩) j vc) (.int .i64 m) (Eq.trans (b := u 16) (by kernel_rfl) h16) (by kernel_rfl) (.pointer (some ⟨vb, m, none⟩)) (by go_simp) (hK _ _ (VF.mk rfl) hRW (Ext.rf _))
              · have h18 := (hD 18 (depIn (by kernel_rfl))).k rfl
                exact op_ld (T := 3) rfl (.pointer (some ⟨vb, m, none⟩)) (Eq.trans (b := u 18) (by kernel_rfl) h18) (.int .i64 y) (by go_simp) (hK _ _ (VF.mk rfl) hRW (Ext.rf _))
              · have h12 := (hD 12 (depIn (by kernel_rfl))).k rfl
                have h19 := (hD 19 (depIn (by kernel_rfl))).k rfl
                exact op_run rfl (.int .i64 (S + y)) (by simp only [putAll, h12, h19]; unfold exec2; go_simp; exact IntWalk.i64_in _ (by omega)) (hK _ _ (VF.mk rfl) hRW (Ext.rf _))
            · intro u w6 hRW hV
              have h3 := (hV (3, some 84) (by simp)).k rfl
              have h8 := (hV (8, some 89) (by simp)).k rfl
              have h10 := (hV (10, some 91) (by simp)).k rfl
              have h11 := (hV (11, some 92) (by simp)).k rfl
              have h12 := (hV (12, some 93) (by simp)).k rfl
              have h16 := (hV (16, some 97) (by simp)).k rfl
              have h18 := (hV (18, some 99) (by simp)).k rfl
              have h19 := (hV (19, some 100) (by simp)).k rfl
              have h20 := (hV (20, some 101) (by simp)).k rfl
              simp only [putAll, h3, h8, h10, h11, h12, h16, h18, h19, h20]
              clear hV h3 h8 h10 h11 h12 h16 h18 h19 h20
              have Z6 := Z.tr hRW
              obtain ⟨x2, ch2, fh2, _, _, hset⟩ := (OH.out.ext hRW).cell (k := m) (by rw [sumsL_len, lV.out]; omega)
              have HN : Hid (Fill (w6.setCell ⟨hb, m, none⟩ (.int .i64 (S + y))) w3.heap.size g cap PA l.length pc XW XV (sumsL XV m)) := by
                have h := fill_b (Bg.out.ext hRW) hgb (OW.out.ext hRW) (OV.out.ext hRW) (OH.out.ext hRW) dd1 dd2 dd3 (k := m) (y := S + y) (hset.out _)
                rw [hS.out, sumsL_set ey.out] at h
                rw [hS.out]
                exact h
              have ZN := Lib.hid (Z6.setNew (p := ⟨hb, m, none⟩) hbb (.int .i64 (S + y)))
              clear hset
              try simp only [Act.put, List.setIfInBounds_toArray, List.set_cons_zero, List.set_cons_succ]
              refine wpAny_T (i := 21) (op := Op.indexAddr 22 (Operand.tmp 84) (Operand.tmp 85)) (t := 0) (d := some 102) (v := ?_) rfl (by decide +kernel) (by decide +kernel) (by decide +kernel) (fun _ _ _ h => h) ?_ ?_
              case refine_2 => (intro _; unfold exec2; go_simp; try with_reducible rfl)
              try simp only [Act.put, List.setIfInBounds_toArray, List.set_cons_zero, List.set_cons_succ]
              refine wpAny_next 22 (by kernel_rfl) (op_st rfl (.pointer (some ⟨hb, m, none⟩)) (.int .i64 (S + y)) (by kernel_rfl) (by kernel_rfl) (by go_simp; rfl) ?_)
              refine wpAny_done (by kernel_rfl) ?_ _
              clear ch2 fh2 hRW Z6
              generalize w6.setCell ⟨hb, m, none⟩ (.int .i64 (S + y)) = w8 at *
              clear w6
              go_simp
              go_wp2_with (fail)
              go_roundw
              case rel => exact ⟨m, _, rfl, by omega, by omega, HN, ZN.out⟩
              case measure => simp [intOf]
          · obtain rfl : k = 0 := by omega
            obtain rfl : z = -1 := by omega
            go_wp2_with (fail)
            go_ret2
            obtain ⟨WA, wc, VA, vc, HA, hc, Bg, hgb, OW, OV, OH, -, -, -⟩ := HG.out
            have bw3 := X3.out.size
            refine ⟨g, rfl, ⟨PA, pc, WA, wc, VA, vc, HA, hc, ?_, Nat.le_trans bw3 hgb, ⟨?_, bP'.out⟩, ⟨?_, fun k hk => Nat.le_trans bw3 (OW.lt k hk).1⟩, ⟨?_, fun k hk => Nat.le_trans bw3 (OV.lt k hk).1⟩, ⟨?_, fun k hk => Nat.le_trans bw3 (OH.lt k hk).1⟩⟩, X3.out.tr Z⟩
            · rw [← hWe.out, ← hVe.out, ← hl.out]
              exact Bg
            · rw [← hl.out]
              exact rP.out.ext Z
            · rw [← hWe.out]
              exact OW.read
            · rw [← hVe.out]
              exact OV.read
            · rw [← hVe.out]
              exact OH.read
end Go.Proofs.Ytleckhbmciiooaa
