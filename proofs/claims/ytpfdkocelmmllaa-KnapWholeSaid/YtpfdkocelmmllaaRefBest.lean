/-
  The document's kernel of a knapsack: Best, the least cost of the answers behind a beginning.
-/
import Derived.Test.YtpfdkocelmmllaaRefKB
import Derived.Test.YtpfdkocelmmllaaRefCost
import Derived.Test.YtpfdkocelmmllaaCore3
namespace Go.Proofs.Ytpfdkocelmmllaa
open Go.RowKit Go.ChangeShapes Go.WideShapes Go.ChangeAt Go.Deep

set_option maxRecDepth 100000 in
theorem bs0_run (u : World) : (Instr.buildSlice 22 0 #[]).run Try.prog u = .ok (.slice (some ⟨u.heap.size, 0, none⟩) 0 0) (u.alloc (.cells #[] 3)) := by go_simp
set_option maxRecDepth 100000 in
theorem bs1_run (u : World) (x : Int) : (Instr.buildSlice 22 1 #[(0, .int .i64 x)]).run Try.prog u = .ok (.slice (some ⟨u.heap.size, 0, none⟩) 1 1) (u.alloc (.cells #[.int .i64 x] 3)) := by go_simp
set_option maxRecDepth 100000 in
set_option maxHeartbeats 4000000 in
theorem rbest_none (i : InstP) (us : List Value) (P : Option Addr) (c : Nat) (p : List Int) (w : World) (H : RInst w us i)
    (KD : ∀ W, Ext w W → Calls Try.prog 24 #[.agg (List.toArray us), .slice P p.length c] W (KidsPost [] 1 W)) :
    Calls Try.prog 28 #[.agg (List.toArray us), .slice P p.length c] w fun e w' => e = .returned (.int .i64 (-1)) ∧ Ext w w' := by
  obtain ⟨kind, nn, cap, xw, xv, co⟩ := i
  obtain ⟨A, a, B, b, D, d, rfl, -, -, -⟩ := H
  simp only at *
  replace KD := Lib.hid KD
  go_enter Try.func28, Try.ntmps28
  go_wp2_with (fail)
  refine (KD.out _ (by (repeat (first | assumption | exact Ext.rf _ | apply Ext.drew | apply Ext.drewN | apply Ext.alloc)))).mono ?_
  rintro e w1 ⟨A1, c1, rfl, -, -, -, x1⟩
  have X1 := Lib.hid (Ext.tr (a := w) (by (repeat (first | assumption | exact Ext.rf _ | apply Ext.drew | apply Ext.drewN | apply Ext.alloc))) x1)
  clear x1
  go_wp2_with (fail)
  go_ret
  exact ⟨rfl, X1.out⟩
set_option maxRecDepth 100000 in
set_option maxHeartbeats 4000000 in
theorem rbest_whole (i : InstP) (us : List Value) (P : Option Addr) (c : Nat) (p : List Int) (w : World) (H : RInst w us i) (xs : List Int) (v : Int) (hpl' : (p.length : Int) = i.n)
    (KD : ∀ W, Ext w W → Calls Try.prog 24 #[.agg (List.toArray us), .slice P p.length c] W (KidsPost [] 0 W))
    (AN : ∀ W, Ext w W → Calls Try.prog 25 #[.agg (List.toArray us), .slice P p.length c] W (KidsPost xs 0 W))
    (CO2 : ∀ (A : Option Addr) (d : Nat) (W : World), Ext w W → RdI W A xs → Calls Try.prog 29 #[.agg (List.toArray us), .slice A xs.length d] W fun e w' => e = .returned (BoundVal (v, 0)) ∧ Ext W w') :
    Calls Try.prog 28 #[.agg (List.toArray us), .slice P p.length c] w fun e w' => e = .returned (.int .i64 v) ∧ Ext w w' := by
  obtain ⟨kind, nn, cap, xw, xv, co⟩ := i
  obtain ⟨A, a, B, b, D, d, rfl, -, -, -⟩ := H
  simp only at *
  replace KD := Lib.hid KD
  replace AN := Lib.hid AN
  replace CO2 := Lib.hid CO2
  have B1 : Hid (Blk (w.alloc (.cells #[.int .i64 kind, .int .i64 nn, .int .i64 cap, .slice A xw.length a, .slice B xv.length b, .slice D co.length d] 25)) w.heap.size 25 #[.int .i64 kind, .int .i64 nn, .int .i64 cap, .slice A xw.length a, .slice B xv.length b, .slice D co.length d]) := .new rfl
  have hb : ((p.length : Int) == nn) = true := by simpa using hpl'
  clear hpl'
  go_enter Try.func28, Try.ntmps28
  go_wp2_with (fail)
  refine (KD.out _ (by (repeat (first | assumption | exact Ext.rf _ | apply Ext.drew | apply Ext.drewN | apply Ext.alloc)))).mono ?_
  rintro e w1 ⟨A1, c1, rfl, -, -, -, x1⟩
  have X1 := Lib.hid (Ext.tr (a := w) (by (repeat (first | assumption | exact Ext.rf _ | apply Ext.drew | apply Ext.drewN | apply Ext.alloc))) x1)
  have B2 := Lib.hid (B1.out.ext x1)
  have d0 : w1.cell? ⟨w.heap.size, 0, none⟩ = some (.int .i64 kind) := B2.out.cell 0
  have d1 : w1.cell? ⟨w.heap.size, 1, none⟩ = some (.int .i64 nn) := B2.out.cell 1
  have d2 : w1.cell? ⟨w.heap.size, 2, none⟩ = some (.int .i64 cap) := B2.out.cell 2
  have d3 : w1.cell? ⟨w.heap.size, 3, none⟩ = some (.slice A xw.length a) := B2.out.cell 3
  have d4 : w1.cell? ⟨w.heap.size, 4, none⟩ = some (.slice B xv.length b) := B2.out.cell 4
  have d5 : w1.cell? ⟨w.heap.size, 5, none⟩ = some (.slice D co.length d) := B2.out.cell 5
  clear x1 B1
  go_wp2_with (fail)
  refine (AN.out _ X1.out).mono ?_
  rintro e w2 ⟨A2, c2, rfl, rX, -, -, x2⟩
  have X2 := Lib.hid (X1.out.tr x2)
  have B3 := Lib.hid (B2.out.ext x2)
  replace rX := Lib.hid rX
  clear d0 d1 d2 d3 d4 d5 x2 B2
  have d0 : w2.cell? ⟨w.heap.size, 0, none⟩ = some (.int .i64 kind) := B3.out.cell 0
  have d1 : w2.cell? ⟨w.heap.size, 1, none⟩ = some (.int .i64 nn) := B3.out.cell 1
  have d2 : w2.cell? ⟨w.heap.size, 2, none⟩ = some (.int .i64 cap) := B3.out.cell 2
  have d3 : w2.cell? ⟨w.heap.size, 3, none⟩ = some (.slice A xw.length a) := B3.out.cell 3
  have d4 : w2.cell? ⟨w.heap.size, 4, none⟩ = some (.slice B xv.length b) := B3.out.cell 4
  have d5 : w2.cell? ⟨w.heap.size, 5, none⟩ = some (.slice D co.length d) := B3.out.cell 5
  go_wp2_with (fail)
  refine (CO2.out A2 c2 _ X2.out rX.out).mono ?_
  rintro e w3 ⟨rfl, x3⟩
  have X3 := Lib.hid (X2.out.tr x3)
  clear x3 d0 d1 d2 d3 d4 d5
  unfold BoundVal
  go_wp2_with (fail)
  go_ret
  exact ⟨rfl, X3.out⟩
set_option maxRecDepth 100000 in
set_option maxHeartbeats 4000000 in
theorem rbest_more (i : InstP) (us : List Value) (P : Option Addr) (c : Nat) (p : List Int) (w : World) (H : RInst w us i) (hP : RdI w P p) (lp : p.length ≤ 1000000) (hne : ((p.length : Int) == i.n) = false) (ks : List Int) (bs : Int) (f : Int → Int)
    (KD : ∀ W, Ext w W → Calls Try.prog 24 #[.agg (List.toArray us), .slice P p.length c] W (KidsPost ks 0 W)) (e3 : ks.length ≤ 2) (e5 : leastF f (-1) ks = bs)
    (IH3 : ∀ (x : Int) (A : Option Addr) (d : Nat) (q : List Int), q = p ++ [x] → ∀ W : World, Ext w W → RdI W A q → Calls Try.prog 28 #[.agg (List.toArray us), .slice A q.length d] W fun e w' => e = .returned (.int .i64 (f x)) ∧ Ext W w') :
    Calls Try.prog 28 #[.agg (List.toArray us), .slice P p.length c] w fun e w' => e = .returned (.int .i64 bs) ∧ Ext w w' := by
  obtain ⟨kind, nn, cap, xw, xv, co⟩ := i
  obtain ⟨A, a, B, b, D, d, rfl, -, -, -⟩ := H
  simp only at *
  replace KD := Lib.hid KD
  replace IH3 := Lib.hid IH3
  replace e5 := Lib.hid e5
  replace hP := Lib.hid hP
  have B1 : Hid (Blk (w.alloc (.cells #[.int .i64 kind, .int .i64 nn, .int .i64 cap, .slice A xw.length a, .slice B xv.length b, .slice D co.length d] 25)) w.heap.size 25 #[.int .i64 kind, .int .i64 nn, .int .i64 cap, .slice A xw.length a, .slice B xv.length b, .slice D co.length d]) := .new rfl
  go_enter Try.func28, Try.ntmps28
  go_wp2_with (fail)
  refine (KD.out _ (by (repeat (first | assumption | exact Ext.rf _ | apply Ext.drew | apply Ext.drewN | apply Ext.alloc)))).mono ?_
  rintro e w1 ⟨A1, c1, rfl, rK, lc1, mc1, x1⟩
  have X1 := Lib.hid (Ext.tr (a := w) (by (repeat (first | assumption | exact Ext.rf _ | apply Ext.drew | apply Ext.drewN | apply Ext.alloc))) x1)
  have B2 := Lib.hid (B1.out.ext x1)
  have zb := B2.out.lt
  have d1 : w1.cell? ⟨w.heap.size, 1, none⟩ = some (.int .i64 nn) := B2.out.cell 1
  replace rK := Lib.hid rK
  clear x1 B1
  go_wp2_with (fail)
  go_loopw [11, 12] (fun b a wr => ∃ (k : Nat) (bb : Int), b = .int .i64 bb ∧ a = .int .i64 k ∧ k ≤ ks.length ∧ Hid (leastF f bb (ks.drop k) = bs) ∧ Ext w1 wr) (fun _ a _ => ks.length - (intOf a).toNat)
  case atStart => exact ⟨0, -1, rfl, rfl, by omega, e5, Ext.rf _⟩
  case round =>
    obtain ⟨wo, rfl⟩ : ∃ wo : World, wo = wr := ⟨_, rfl⟩
    obtain ⟨k, bb, rfl, rfl, hk, HS, Y⟩ := hrel
    by_cases hlt : k < ks.length
    · obtain ⟨lb, lo, x, rfl, zl, cl, el, dl⟩ := (rK.out.ext Y).at hlt
      have HN : Hid (leastF f (if bb < 0 then f x else if f x < bb then f x else bb) (ks.drop (k + 1)) = bs) := by
        have h := HS.out
        rw [dl.out] at h
        exact h
      have q1 : (k : Int) < (ks.length : Int) := by omega
      have B3 := B2.out.ext Y
      have c0 : wo.cell? ⟨w.heap.size, 0, none⟩ = some (.int .i64 kind) := B3.cell 0
      have c1' : wo.cell? ⟨w.heap.size, 1, none⟩ = some (.int .i64 nn) := B3.cell 1
      have c2 : wo.cell? ⟨w.heap.size, 2, none⟩ = some (.int .i64 cap) := B3.cell 2
      have c3 : wo.cell? ⟨w.heap.size, 3, none⟩ = some (.slice A xw.length a) := B3.cell 3
      have c4 : wo.cell? ⟨w.heap.size, 4, none⟩ = some (.slice B xv.length b) := B3.cell 4
      have c5 : wo.cell? ⟨w.heap.size, 5, none⟩ = some (.slice D co.length d) := B3.cell 5
      have zb3 := B3.lt
      have zwo := Y.size
      replace B3 := Lib.hid B3
      clear el dl HS
      obtain ⟨q, hq⟩ : ∃ q, Hid (q = p ++ [x]) := ⟨_, rfl⟩
      have lq : q.length = p.length + 1 := by rw [hq.out]; simp
      go_upto_region 12 with (fail)
      refine wp_region_any (by kernel_rfl) ?_
      change wpAny _ _ _ _ _ _ _ (World.drew _)
      refine wpAny_T (i := 2) (op := Op.move (Operand.tmp 1)) (t := 22) (d := some 48) (v := ?_) rfl (by decide +kernel) (by decide +kernel) (by decide +kernel) (fun _ _ _ h => h) ?_ ?_
      case refine_2 => (intro _; unfold exec2; go_simp; try with_reducible rfl)
      try simp only [Act.put, List.setIfInBounds_toArray, List.set_cons_zero, List.set_cons_succ]
      refine wpAny_T (i := 4) (op := Op.move (Operand.tmp 5)) (t := 22) (d := some 50) (v := ?_) rfl (by decide +kernel) (by decide +kernel) (by decide +kernel) (fun _ _ _ h => h) ?_ ?_
      case refine_2 => (intro _; unfold exec2; go_simp; try with_reducible rfl)
      try simp only [Act.put, List.setIfInBounds_toArray, List.set_cons_zero, List.set_cons_succ]
      refine wpAny_T (i := 5) (op := Op.move (Operand.tmp 12)) (t := 3) (d := some 51) (v := ?_) rfl (by decide +kernel) (by decide +kernel) (by decide +kernel) (fun _ _ _ h => h) ?_ ?_
      case refine_2 => (intro _; unfold exec2; go_simp; try with_reducible rfl)
      try simp only [Act.put, List.setIfInBounds_toArray, List.set_cons_zero, List.set_cons_succ]
      refine wpAny_T (i := 6) (op := Op.indexAddr 22 (Operand.tmp 50) (Operand.tmp 51)) (t := 0) (d := some 52) (v := ?_) rfl (by decide +kernel) (by decide +kernel) (by decide +kernel) (fun _ _ _ h => h) ?_ ?_
      case refine_2 => (intro _; unfold exec2; go_simp; try with_reducible rfl)
      try simp only [Act.put, List.setIfInBounds_toArray, List.set_cons_zero, List.set_cons_succ]
      refine wpAny_core3 (n := 2) [(0, some 46), (1, some 47), (3, some 49), (7, some 53), (8, some 54), (9, some 55)] (fun | 1 => [3] | 3 => [9] | 8 => [9] | _ => []) (Ext wo)
        (VF (fun | 0 => some (.agg #[.int .i64 kind, .int .i64 nn, .int .i64 cap, .slice A xw.length a, .slice B xv.length b, .slice D co.length d]) | 7 => some (.int .i64 x) | _ => none)
          (fun j v W => (j = 1 → ∃ g, v = .slice (some ⟨g, 0, none⟩) 0 0 ∧ wo.heap.size ≤ g ∧ Blk W g 3 #[]) ∧ (j = 3 → ∃ A c, v = .slice A p.length c ∧ OwI W wo.heap.size A c p) ∧ (j = 8 → ∃ h, v = .slice (some ⟨h, 0, none⟩) 1 1 ∧ Blk W h 3 #[.int .i64 x]) ∧ (j = 9 → ∃ A c, v = .slice A q.length c ∧ OwI W wo.heap.size A c q)))
        (fun i W W' => i ≠ 9 → Ext W W') #[true, true, true, true, true, true, true, true, true, true, false, false] (by kernel_rfl) (by kernel_rfl) ?_ ?_ ?_ ((Ext.rf _).drew)
      · intro i j v W W' hkp hv hs
        refine VF.stab1 (fun _ ⟨g1, g3, g8, g9⟩ => ?_) hv
        by_cases hi : i = 9
        · subst hi
          refine ⟨fun h => ?_, fun h => ?_, fun h => ?_, fun h => ?_⟩
          all_goals (subst h; exact absurd hkp (by decide +kernel))
        · have hx := hs hi
          refine ⟨fun h => ?_, fun h => ?_, fun h => ?_, fun h => ?_⟩
          · obtain ⟨g, q1, q2, q3⟩ := g1 h
            exact ⟨g, q1, q2, q3.ext hx⟩
          · obtain ⟨A', c', q1, q2⟩ := g3 h
            exact ⟨A', c', q1, q2.ext hx⟩
          · obtain ⟨h', q1, q2⟩ := g8 h
            exact ⟨h', q1, q2.ext hx⟩
          · obtain ⟨A', c', q1, q2⟩ := g9 h
            exact ⟨A', c', q1, q2.ext hx⟩
      · intro pq hpm u W hRW hD K hK
        have z2 := hRW.size
        simp only [List.mem_cons, List.not_mem_nil, or_false] at hpm
        rcases hpm with rfl | rfl | rfl | rfl | rfl | rfl
        · have r0 := keepEL hRW zb3 c0
          have r1 := keepEL hRW zb3 c1'
          have r2 := keepEL hRW zb3 c2
          have r3 := keepEL hRW zb3 c3
          have r4 := keepEL hRW zb3 c4
          have r5 := keepEL hRW zb3 c5
          exact op_ld (T := 25) rfl (.pointer (some ⟨w.heap.size, 0, none⟩)) (by kernel_rfl) (.agg #[.int .i64 kind, .int .i64 nn, .int .i64 cap, .slice A xw.length a, .slice B xv.length b, .slice D co.length d]) (by go_simp) (hK _ _ (VF.mk rfl) hRW (fun _ => Ext.rf _))
        · exact op_bs0 rfl _ (bs0_run _) (hK _ _ (VF.mg rfl ⟨fun _ => ⟨_, rfl, z2, .new rfl⟩, (fun h => by cases h), (fun h => by cases h), (fun h => by cases h)⟩) (hRW.alloc _) (fun _ => (Ext.rf _).alloc _))
        · obtain ⟨g, h1, zg, bg⟩ := ((hD 1 (depIn (by kernel_rfl))).g rfl).1 rfl
          obtain ⟨A3, c3, w3, hr3, o3, x3⟩ := run_copy_i W wo.heap.size 22 g p P c bg zg (hP.out.ext ((X1.out.tr Y).tr hRW)) (by omega)
          exact op_app rfl (.slice (some ⟨g, 0, none⟩) 0 0) (.slice P p.length c) (Eq.trans (b := u 1) (by kernel_rfl) h1) (by kernel_rfl) _ hr3 (hK _ _ (VF.mg rfl ⟨(fun h => by cases h), fun _ => ⟨A3, c3, rfl, o3⟩, (fun h => by cases h), (fun h => by cases h)⟩) (hRW.tr x3) (fun _ => x3))
        · have r1 := keepEL hRW zl cl
          exact op_ld (T := 3) rfl (.pointer (some ⟨lb, lo + k, none⟩)) (by kernel_rfl) (.int .i64 x) (by go_simp) (hK _ _ (VF.mk rfl) hRW (fun _ => Ext.rf _))
        · have h7 := (hD 7 (depIn (by kernel_rfl))).k rfl
          exact op_bs1 rfl _ (Eq.trans (b := u 7) (by kernel_rfl) h7) _ (bs1_run _ _) (hK _ _ (VF.mg rfl ⟨(fun h => by cases h), (fun h => by cases h), fun _ => ⟨_, rfl, .new rfl⟩, (fun h => by cases h)⟩) (hRW.alloc _) (fun _ => (Ext.rf _).alloc _))
        · obtain ⟨A3, c3', h3, o3⟩ := ((hD 3 (depIn (by kernel_rfl))).g rfl).2.1 rfl
          obtain ⟨g8, h8, b8⟩ := ((hD 8 (depIn (by kernel_rfl))).g rfl).2.2.1 rfl
          obtain ⟨A7, c7, w7, hrun, o7, g7, -⟩ := run_app_i W wo.heap.size 22 A3 p.length c3' p [x] (some ⟨g8, 0, none⟩) 1 rfl o3 (.blk b8 rfl) (by simp; omega) hRW.size
          have x7 : Ext wo w7 := hRW.grow g7 (fun k hk => (o3.lt k hk).1)
          rw [← hq.out] at hrun o7
          exact op_app rfl (.slice A3 p.length c3') (.slice (some ⟨g8, 0, none⟩) 1 1) (Eq.trans (b := u 3) (by kernel_rfl) h3) (Eq.trans (b := u 8) (by kernel_rfl) h8) _ hrun (hK _ _ (VF.mg rfl ⟨(fun h => by cases h), (fun h => by cases h), (fun h => by cases h), fun _ => ⟨A7, c7, rfl, o7⟩⟩) x7 (fun h => absurd rfl h))
      · intro u w7 hRW hV
        have h0 := (hV (0, some 46) (by simp) rfl).k rfl
        obtain ⟨A7, c7, h9, o7⟩ := ((hV (9, some 55) (by simp) rfl).g rfl).2.2.2 rfl
        simp only [putAll, h0, h9]
        have rq := Lib.hid o7.read
        have x7 := Lib.hid hRW
        clear h0 h9 hV o7 hRW
        try simp only [Act.put, List.setIfInBounds_toArray, List.set_cons_zero, List.set_cons_succ]
        refine wpAny_next 10 (by decide +kernel) (op_call (f := 28) (xs := #[Operand.tmp 46, Operand.tmp 55]) (ts := #[25, 22]) (t := 3) (d := some 56) rfl #[.agg #[.int .i64 kind, .int .i64 nn, .int .i64 cap, .slice A xw.length a, .slice B xv.length b, .slice D co.length d], .slice A7 q.length c7] (by go_simp) (by kernel_rfl) _ (IH3.out x A7 c7 q hq.out w7 (X1.out.tr (Y.tr x7.out)) rq.out) ?_)
        rintro e w8 ⟨rfl, x8⟩
        refine ⟨_, rfl, ?_⟩
        try simp only [Act.put, List.setIfInBounds_toArray, List.set_cons_zero, List.set_cons_succ]
        refine wpAny_T (i := 11) (op := Op.assign (Operand.tmp 56)) (t := 3) (d := some 13) (v := ?_) rfl (by decide +kernel) (by decide +kernel) (by decide +kernel) (fun _ _ _ h => h) ?_ ?_
        case refine_2 => (intro _; unfold exec2; go_simp; try with_reducible rfl)
        try simp only [Act.put, List.setIfInBounds_toArray, List.set_cons_zero, List.set_cons_succ]
        refine wpAny_done (by kernel_rfl) ?_ _
        have Y8 := Lib.hid (Y.tr (x7.out.tr x8))
        clear x8 x7 rq c0 c1' c2 c3 c4 c5 cl
        go_simp
        by_cases hbb : bb < 0
        · rw [if_pos hbb] at HN
          go_wp2_with (fail)
          go_roundw
          case rel => exact ⟨k + 1, f x, rfl, by go_num, by omega, HN, Y8.out⟩
          case measure => simp [intOf]; omega
        · rw [if_neg hbb] at HN
          by_cases hfb : f x < bb
          · rw [if_pos hfb] at HN
            go_wp2_with (fail)
            go_roundw
            case rel => exact ⟨k + 1, f x, rfl, by go_num, by omega, HN, Y8.out⟩
            case measure => simp [intOf]; omega
          · rw [if_neg hfb] at HN
            go_wp2_with (fail)
            go_roundw
            case rel => exact ⟨k + 1, bb, rfl, by go_num, by omega, HN, Y8.out⟩
            case measure => simp [intOf]; omega
    · obtain rfl : k = ks.length := by omega
      have HN : Hid (bb = bs) := by
        have h := HS.out
        rw [List.drop_length] at h
        exact h
      obtain rfl := HN.out
      go_wp2_with (fail)
      go_ret
      exact ⟨rfl, X1.out.tr Y⟩
set_option maxRecDepth 100000 in
theorem rbest_any (i : InstP) (us : List Value) (hc : checkP i = 0) (hk : i.kind = 1) : ∀ (m : Nat) (P : Option Addr) (c : Nat) (p : List Int) (w : World), m = i.n.toNat + 1 - p.length → RInst w us i → RdI w P p → p.length ≤ 1000000 + i.n.toNat →
    Calls Try.prog 28 #[.agg (List.toArray us), .slice P p.length c] w fun e w' => e = .returned (.int .i64 (bestAt i.cap (wsP i) (vsP i) p)) ∧ Ext w w' := by
  intro m
  induction m using Nat.strongRecOn with
  | _ m ih =>
  intro P c p w hm H hP lp
  have ok := knap_ok hc hk
  have k1 := ok.n1
  have k2 := ok.n2
  have K := kok ok
  have lN := orderP_len ok
  have KD := fun (W : World) (x : Ext w W) => rkids_any i us P c p W (H.ext x) ok (hP.ext x) (by omega)
  have AN := fun (W : World) (x : Ext w W) => ranswer_any i us P c p W (H.ext x) ok (hP.ext x) (by omega)
  have CO := fun (A : Option Addr) (d : Nat) (x : List Int) (W : World) (y : Ext w W) (hx : RdI W A x) (lx : (x.length : Int) = i.n) (h01 : ∀ v ∈ x, v = 0 ∨ v = 1) => rcost_any i us A d x W (H.ext y) hc hk hx lx h01
  have IH := fun (hlt : p.length < i.n.toNat) (A : Option Addr) (d : Nat) (q : List Int) (hq : q.length = p.length + 1) (W : World) (y : Ext w W) (hx : RdI W A q) => ih (i.n.toNat + 1 - q.length) (by omega) A d q W rfl (H.ext y) hx (by omega)
  have kv : ∀ x ∈ vsP i, 0 ≤ x := fun x hx => (K.sv x hx).1
  have kw : ∀ x ∈ wsP i, 0 ≤ x := fun x hx => (K.sw x hx).1
  have lw : (wsP i).length = (orderP i).length := K.lw
  have lv : (vsP i).length = (orderP i).length := K.lv
  have hp2 : (orderP i).Perm (List.range i.n.toNat) := by
    have h := ratioP_perm i.value i.weight
    rw [show i.value.length = i.n.toNat by have := ok.v; omega] at h
    exact h
  have CA := fun (r o : Int) (hst : stP i.cap 0 (wsP i) (vsP i) p = some (r, o)) (hpl : p.length = i.n.toNat) => cost_ans (cap := i.cap) hp2 hpl (w := i.weight) (v := i.value) (by have := ok.w; omega) (by have := ok.v; omega) (fun x hx => (ok.sw x hx).1) ok.cap.1 hst
  have LA : (ansP (orderP i) p i.n.toNat).length = i.n.toNat := by rw [ansP_len]; omega
  clear ih hm
  cases hst : stP i.cap 0 (wsP i) (vsP i) p with
  | none =>
    have e1 : kidsP i.cap (wsP i) (vsP i) p = ([], 1) := by unfold kidsP; rw [hst]
    have e2 : bestAt i.cap (wsP i) (vsP i) p = -1 := by unfold bestAt; rw [hst]
    rw [e1] at KD
    rw [e2]
    exact rbest_none i us P c p w H KD
  | some st =>
    obtain ⟨r, o⟩ := st
    have hr := (stP_room kw K.cap.1 hst).1
    have ho := (stP_out K.sv hst).1
    have hle : p.length ≤ i.n.toNat := by
      by_cases h : (wsP i).length < p.length
      · rw [stP_long h] at hst; cases hst
      · omega
    by_cases hpl : p.length = i.n.toNat
    · have e1 : kidsP i.cap (wsP i) (vsP i) p = ([], 0) := by
        unfold kidsP
        rw [hst]
        simp only
        rw [List.drop_of_length_le (by omega)]
      have e2 : answerP i.cap (orderP i) (wsP i) (vsP i) p = (ansP (orderP i) p i.n.toNat, 0) := by
        unfold answerP
        rw [hst]
        simp only
        rw [if_pos (by omega), hpl]
      have e3 := (whole_at hst (by omega) (by omega)).2
      obtain ⟨e4, e5⟩ := CA r o hst hpl
      rw [e1] at KD
      rw [e2] at AN
      rw [e3]
      have CO2 := fun (A : Option Addr) (d : Nat) (W : World) (y : Ext w W) (hx : RdI W A (ansP (orderP i) p i.n.toNat)) => CO A d (ansP (orderP i) p i.n.toNat) W y hx (by rw [LA]; omega) e5
      rw [e4] at CO2
      exact rbest_whole i us P c p w H _ _ (by omega) KD AN CO2
    · have hlt : p.length < i.n.toNat := by omega
      obtain ⟨e3, e4⟩ := kids_fit (cap := i.cap) hst (by omega : p.length < (wsP i).length)
      have e5 := leastF_kids hst hr (by omega : p.length < (wsP i).length) (by omega) kv ho
      have IH2 := fun (x : Int) (A : Option Addr) (d : Nat) (q : List Int) (hq : q = p ++ [x]) (W : World) (y : Ext w W) (hx : RdI W A q) => IH hlt A d q (by rw [hq]; simp) W y hx
      have hne : ((p.length : Int) == i.n) = false := by rw [beq_eq_false_iff_ne]; omega
      obtain ⟨f, hf⟩ : ∃ f : Int → Int, f = fun x => bestAt i.cap (wsP i) (vsP i) (p ++ [x]) := ⟨_, rfl⟩
      have IH3 : ∀ (x : Int) (A : Option Addr) (d : Nat) (q : List Int) (_ : q = p ++ [x]) (W : World) (_ : Ext w W) (_ : RdI W A q), Calls Try.prog 28 #[.agg (List.toArray us), .slice A q.length d] W fun e w' => e = .returned (.int .i64 (f x)) ∧ Ext W w' := by
        intro x A d q hq W y hx
        have h := IH2 x A d q hq W y hx
        rw [hq] at h ⊢
        rw [hf]
        exact h
      rw [← hf] at e5
      rw [e4] at KD
      exact rbest_more i us P c p w H hP (by omega) hne _ _ f KD e3 e5 IH3
end Go.Proofs.Ytpfdkocelmmllaa
