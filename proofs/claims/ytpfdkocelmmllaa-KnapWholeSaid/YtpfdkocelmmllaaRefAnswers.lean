/-
  The document's kernel of a knapsack: Answers, how many there are.
-/
import Derived.Test.YtpfdkocelmmllaaRefBest
import Derived.Test.YtpfdkocelmmllaaKnapWholeP
import Derived.Test.YtpfdkocelmmllaaApp1
namespace Go.Proofs.Ytpfdkocelmmllaa
open Go.RowKit Go.ChangeShapes Go.WideShapes Go.ChangeAt Go.Deep

/-- blocks of one cell or none stay -/
def SmallKeep (w w' : World) : Prop := ∀ g t cs, Blk w g t cs → cs.size ≤ 1 → Blk w' g t cs
set_option maxRecDepth 100000 in
set_option maxHeartbeats 4000000 in
theorem ranswers_whole (i : InstP) (us : List Value) (P : Option Addr) (c : Nat) (x : List Int) (w : World) (H : RInst w us i) (r : Int × Int) (hpl' : (x.length : Int) = i.n) (h09 : r.2 = 0 ∨ r.2 = 9)
    (CO : ∀ W : World, Ext w W → Calls Try.prog 29 #[.agg (List.toArray us), .slice P x.length c] W fun e w' => e = .returned (BoundVal r) ∧ Ext W w') :
    Calls Try.prog 30 #[.agg (List.toArray us), .slice P x.length c] w fun e w' => e = .returned (.int .i64 (if r.2 = 0 then 1 else 0)) ∧ Ext w w' := by
  obtain ⟨kind, nn, cap, xw, xv, co⟩ := i
  obtain ⟨A, a, B, b, D, d, rfl, -, -, -⟩ := H
  simp only at *
  replace CO := Lib.hid CO
  have hb : ((x.length : Int) == nn) = true := by simpa using hpl'
  clear hpl'
  obtain ⟨r1, r2⟩ := r
  simp only at h09
  go_enter Try.func30, Try.ntmps30
  go_wp2_with (fail)
  refine (CO.out _ (by (repeat (first | assumption | exact Ext.rf _ | apply Ext.drew | apply Ext.drewN | apply Ext.alloc)))).mono ?_
  rintro e w1 ⟨rfl, x1⟩
  have X1 := Lib.hid (Ext.tr (a := w) (by (repeat (first | assumption | exact Ext.rf _ | apply Ext.drew | apply Ext.drewN | apply Ext.alloc))) x1)
  clear x1
  unfold BoundVal
  rcases h09 with rfl | rfl
  · go_wp2_with (fail)
    go_ret
    exact ⟨rfl, X1.out⟩
  · go_wp2_with (fail)
    go_ret
    exact ⟨rfl, X1.out⟩
set_option maxRecDepth 100000 in
set_option maxHeartbeats 4000000 in
theorem ranswers_more (i : InstP) (us : List Value) (P : Option Addr) (c : Nat) (x : List Int) (w : World) (H : RInst w us i) (hP : RdI w P x) (lx : x.length ≤ 1000000) (hne : ((x.length : Int) == i.n) = false) (n0 n1 : Nat) (b0 : n0 ≤ 1000000) (b1 : n1 ≤ 1000000)
    (I0 : ∀ (A : Option Addr) (d : Nat) (q : List Int), q = x ++ [0] → ∀ W : World, Ext w W → RdI W A q → Calls Try.prog 30 #[.agg (List.toArray us), .slice A q.length d] W fun e w' => e = .returned (.int .i64 n0) ∧ Ext W w')
    (I1 : ∀ (A : Option Addr) (d : Nat) (q : List Int), q = x ++ [1] → ∀ W : World, Ext w W → RdI W A q → Calls Try.prog 30 #[.agg (List.toArray us), .slice A q.length d] W fun e w' => e = .returned (.int .i64 n1) ∧ Ext W w') :
    Calls Try.prog 30 #[.agg (List.toArray us), .slice P x.length c] w fun e w' => e = .returned (.int .i64 ((n0 + n1 : Nat) : Int)) ∧ Ext w w' := by
  obtain ⟨kind, nn, cap, xw, xv, co⟩ := i
  obtain ⟨A, a, B, b, D, d, rfl, -, -, -⟩ := H
  simp only at *
  replace I0 := Lib.hid I0
  replace I1 := Lib.hid I1
  replace hP := Lib.hid hP
  have B1 : Hid (Blk (w.alloc (.cells #[.int .i64 kind, .int .i64 nn, .int .i64 cap, .slice A xw.length a, .slice B xv.length b, .slice D co.length d] 25)) w.heap.size 25 #[.int .i64 kind, .int .i64 nn, .int .i64 cap, .slice A xw.length a, .slice B xv.length b, .slice D co.length d]) := .new rfl
  have x01 : Ext w (w.alloc (.cells #[.int .i64 kind, .int .i64 nn, .int .i64 cap, .slice A xw.length a, .slice B xv.length b, .slice D co.length d] 25)) := (Ext.rf w).alloc _
  have hw : IntKind.i64.wrap ((n0 : Int) + (n1 : Int)) = (n0 : Int) + (n1 : Int) := IntWalk.i64_in _ (by omega)
  obtain ⟨q0, hq0⟩ : ∃ q, Hid (q = x ++ [0]) := ⟨x ++ [0], rfl⟩
  obtain ⟨q1, hq1⟩ : ∃ q, Hid (q = x ++ [1]) := ⟨x ++ [1], rfl⟩
  go_enter Try.func30, Try.ntmps30
  go_upto_region 6 with (fail)
  generalize w.alloc (.cells #[.int .i64 kind, .int .i64 nn, .int .i64 cap, .slice A xw.length a, .slice B xv.length b, .slice D co.length d] 25) = wo at *
  have c0 : wo.cell? ⟨w.heap.size, 0, none⟩ = some (.int .i64 kind) := B1.out.cell 0
  have c1 : wo.cell? ⟨w.heap.size, 1, none⟩ = some (.int .i64 nn) := B1.out.cell 1
  have c2 : wo.cell? ⟨w.heap.size, 2, none⟩ = some (.int .i64 cap) := B1.out.cell 2
  have c3 : wo.cell? ⟨w.heap.size, 3, none⟩ = some (.slice A xw.length a) := B1.out.cell 3
  have c4 : wo.cell? ⟨w.heap.size, 4, none⟩ = some (.slice B xv.length b) := B1.out.cell 4
  have c5 : wo.cell? ⟨w.heap.size, 5, none⟩ = some (.slice D co.length d) := B1.out.cell 5
  have zb3 := B1.out.lt
  refine wp_region_any (by kernel_rfl) ?_
  change wpAny _ _ _ _ _ _ _ (World.drew _)
  refine wpAny_T (i := 2) (op := Op.move (Operand.tmp 1)) (t := 22) (d := some 22) (v := ?_) rfl (by decide +kernel) (by decide +kernel) (by decide +kernel) (fun _ _ _ h => h) ?_ ?_
  case refine_2 => (intro _; unfold exec2; go_simp; try with_reducible rfl)
  try simp only [Act.put, List.setIfInBounds_toArray, List.set_cons_zero, List.set_cons_succ]
  refine wpAny_T (i := 9) (op := Op.move (Operand.tmp 1)) (t := 22) (d := some 29) (v := ?_) rfl (by decide +kernel) (by decide +kernel) (by decide +kernel) (fun _ _ _ h => h) ?_ ?_
  case refine_2 => (intro _; unfold exec2; go_simp; try with_reducible rfl)
  try simp only [Act.put, List.setIfInBounds_toArray, List.set_cons_zero, List.set_cons_succ]
  refine wpAny_core3 (n := 2) [(0, some 20), (1, some 21), (3, some 23), (4, some 24), (5, some 25), (6, some 26), (7, some 27), (8, some 28), (10, some 30), (11, some 31), (12, some 32), (13, some 33)] (fun | 1 => [3] | 3 => [5] | 4 => [5] | 5 => [6] | 8 => [10] | 10 => [12] | 11 => [12] | 12 => [13] | _ => []) (Ext wo)
    (VF (fun | 0 => some (.agg #[.int .i64 kind, .int .i64 nn, .int .i64 cap, .slice A xw.length a, .slice B xv.length b, .slice D co.length d]) | 7 => some (.agg #[.int .i64 kind, .int .i64 nn, .int .i64 cap, .slice A xw.length a, .slice B xv.length b, .slice D co.length d]) | 6 => some (.int .i64 n0) | 13 => some (.int .i64 n1) | _ => none)
      (fun j v W => (j = 1 ∨ j = 8 → ∃ g, v = .slice (some ⟨g, 0, none⟩) 0 0 ∧ wo.heap.size ≤ g ∧ Blk W g 3 #[]) ∧ (j = 3 ∨ j = 10 → ∃ g c, v = .slice (some ⟨g, 0, none⟩) x.length c ∧ OwI W wo.heap.size (some ⟨g, 0, none⟩) c x ∧ (x = [] → c = 0)) ∧ (j = 4 → ∃ h, v = .slice (some ⟨h, 0, none⟩) 1 1 ∧ Blk W h 3 #[.int .i64 0]) ∧ (j = 11 → ∃ h, v = .slice (some ⟨h, 0, none⟩) 1 1 ∧ Blk W h 3 #[.int .i64 1]) ∧ (j = 5 → ∃ A c, v = .slice A q0.length c ∧ OwI W wo.heap.size A c q0) ∧ (j = 12 → ∃ A c, v = .slice A q1.length c ∧ OwI W wo.heap.size A c q1)))
    (fun i W W' => if i = 5 ∨ i = 12 then SmallKeep W W' else Ext W W') #[true, true, true, true, true, true, true, true, true, true, true, true, true, true, false, false] (by kernel_rfl) (by kernel_rfl) ?_ ?_ ?_ ((Ext.rf _).drew)
  · intro i j v W W' hkp hv hs
    refine VF.stab1 (fun _ ⟨g1, g3, g4, g11, g5, g12⟩ => ?_) hv
    by_cases hi : i = 5 ∨ i = 12
    · rw [if_pos hi] at hs
      refine ⟨fun h => ?_, fun h => ?_, fun h => ?_, fun h => ?_, fun h => ?_, fun h => ?_⟩
      · obtain ⟨g, q1, q2, q3⟩ := g1 h
        exact ⟨g, q1, q2, hs _ _ _ q3 (by simp)⟩
      · exfalso
        rcases hi with rfl | rfl <;> rcases h with rfl | rfl <;> exact absurd hkp (by decide +kernel)
      · obtain ⟨g, q1, q3⟩ := g4 h
        exact ⟨g, q1, hs _ _ _ q3 (by simp)⟩
      · obtain ⟨g, q1, q3⟩ := g11 h
        exact ⟨g, q1, hs _ _ _ q3 (by simp)⟩
      · exfalso
        subst h
        rcases hi with rfl | rfl <;> exact absurd hkp (by decide +kernel)
      · exfalso
        subst h
        rcases hi with rfl | rfl <;> exact absurd hkp (by decide +kernel)
    · rw [if_neg hi] at hs
      refine ⟨fun h => ?_, fun h => ?_, fun h => ?_, fun h => ?_, fun h => ?_, fun h => ?_⟩
      · obtain ⟨g, q1, q2, q3⟩ := g1 h
        exact ⟨g, q1, q2, q3.ext hs⟩
      · obtain ⟨g, c', q1, q2, q3⟩ := g3 h
        exact ⟨g, c', q1, q2.ext hs, q3⟩
      · obtain ⟨g, q1, q3⟩ := g4 h
        exact ⟨g, q1, q3.ext hs⟩
      · obtain ⟨g, q1, q3⟩ := g11 h
        exact ⟨g, q1, q3.ext hs⟩
      · obtain ⟨A', c', q1, q2⟩ := g5 h
        exact ⟨A', c', q1, q2.ext hs⟩
      · obtain ⟨A', c', q1, q2⟩ := g12 h
        exact ⟨A', c', q1, q2.ext hs⟩
  · intro pq hpm u W hRW hD K hK
    have z2 := hRW.size
    have r0 := keepEL hRW zb3 c0
    have r1 := keepEL hRW zb3 c1
    have r2 := keepEL hRW zb3 c2
    have r3 := keepEL hRW zb3 c3
    have r4 := keepEL hRW zb3 c4
    have r5 := keepEL hRW zb3 c5
    simp only [List.mem_cons, List.not_mem_nil, or_false] at hpm
    rcases hpm with rfl | rfl | rfl | rfl | rfl | rfl | rfl | rfl | rfl | rfl | rfl | rfl
    · exact op_ld (T := 25) rfl (.pointer (some ⟨w.heap.size, 0, none⟩)) (by kernel_rfl) (.agg #[.int .i64 kind, .int .i64 nn, .int .i64 cap, .slice A xw.length a, .slice B xv.length b, .slice D co.length d]) (by go_simp) (hK _ _ (VF.mk rfl) hRW (by rw [if_neg (by decide)]; exact Ext.rf _))
    · exact op_bs0 rfl _ (bs0_run _) (hK _ _ (VF.mg rfl ⟨fun _ => ⟨_, rfl, z2, .new rfl⟩, (fun h => by rcases h with h | h <;> cases h), (fun h => by cases h), (fun h => by cases h), (fun h => by cases h), (fun h => by cases h)⟩) (hRW.alloc _) (by rw [if_neg (by decide)]; exact (Ext.rf _).alloc _))
    · obtain ⟨g, h1, zg, bg⟩ := ((hD 1 (depIn (by kernel_rfl))).g rfl).1 (.inl rfl)
      obtain ⟨g3, c3, w3, hr3, o3, s3, x3⟩ := run_copy_s W wo.heap.size 22 g x P c bg zg (hP.out.ext (x01.tr hRW)) (by omega)
      exact op_app rfl (.slice (some ⟨g, 0, none⟩) 0 0) (.slice P x.length c) (Eq.trans (b := u 1) (by kernel_rfl) h1) (by kernel_rfl) _ hr3 (hK _ _ (VF.mg rfl ⟨(fun h => by rcases h with h | h <;> cases h), fun _ => ⟨g3, c3, rfl, o3, s3⟩, (fun h => by cases h), (fun h => by cases h), (fun h => by cases h), (fun h => by cases h)⟩) (hRW.tr x3) (by rw [if_neg (by decide)]; exact x3))
    · exact op_bs1 rfl _ (by kernel_rfl) _ (bs1_run _ 0) (hK _ _ (VF.mg rfl ⟨(fun h => by rcases h with h | h <;> cases h), (fun h => by rcases h with h | h <;> cases h), fun _ => ⟨_, rfl, .new rfl⟩, (fun h => by cases h), (fun h => by cases h), (fun h => by cases h)⟩) (hRW.alloc _) (by rw [if_neg (by decide)]; exact (Ext.rf _).alloc _))
    · obtain ⟨g3, c3', h3, o3, s3⟩ := ((hD 3 (depIn (by kernel_rfl))).g rfl).2.1 (.inl rfl)
      obtain ⟨g8, h8, b8⟩ := ((hD 4 (depIn (by kernel_rfl))).g rfl).2.2.1 rfl
      obtain ⟨A7, c7, w7, hrun, o7, g7, k7⟩ := run_app_1 W wo.heap.size 22 g3 c3' x 0 g8 o3 s3 b8 (by omega) hRW.size
      have x7 : Ext wo w7 := hRW.grow g7 (fun k hk => (o3.lt k (by simpa [bl] using hk)).1)
      rw [← hq0.out] at hrun o7
      exact op_app rfl (.slice (some ⟨g3, 0, none⟩) x.length c3') (.slice (some ⟨g8, 0, none⟩) 1 1) (Eq.trans (b := u 3) (by kernel_rfl) h3) (Eq.trans (b := u 4) (by kernel_rfl) h8) _ hrun (hK _ _ (VF.mg rfl ⟨(fun h => by rcases h with h | h <;> cases h), (fun h => by rcases h with h | h <;> cases h), (fun h => by cases h), (fun h => by cases h), fun _ => ⟨A7, c7, rfl, o7⟩, (fun h => by cases h)⟩) x7 (by rw [if_pos (by decide)]; exact k7))
    · obtain ⟨A7, c7, h7, o7⟩ := ((hD 5 (depIn (by kernel_rfl))).g rfl).2.2.2.2.1 rfl
      have h0 := (hD 0 (depIn (by kernel_rfl))).k rfl
      refine op_call rfl #[.agg #[.int .i64 kind, .int .i64 nn, .int .i64 cap, .slice A xw.length a, .slice B xv.length b, .slice D co.length d], .slice A7 q0.length c7] (by go_simp) (by simp only [putAll, h0, h7]; kernel_rfl) _ (I0.out A7 c7 q0 hq0.out W (x01.tr hRW) o7.read) ?_
      rintro e w3 ⟨rfl, x3⟩
      exact ⟨_, rfl, hK _ _ (VF.mk rfl) (hRW.tr x3) (by rw [if_neg (by decide)]; exact x3)⟩
    · exact op_ld (T := 25) rfl (.pointer (some ⟨w.heap.size, 0, none⟩)) (by kernel_rfl) (.agg #[.int .i64 kind, .int .i64 nn, .int .i64 cap, .slice A xw.length a, .slice B xv.length b, .slice D co.length d]) (by go_simp) (hK _ _ (VF.mk rfl) hRW (by rw [if_neg (by decide)]; exact Ext.rf _))
    · exact op_bs0 rfl _ (bs0_run _) (hK _ _ (VF.mg rfl ⟨fun _ => ⟨_, rfl, z2, .new rfl⟩, (fun h => by rcases h with h | h <;> cases h), (fun h => by cases h), (fun h => by cases h), (fun h => by cases h), (fun h => by cases h)⟩) (hRW.alloc _) (by rw [if_neg (by decide)]; exact (Ext.rf _).alloc _))
    · obtain ⟨g, h1, zg, bg⟩ := ((hD 8 (depIn (by kernel_rfl))).g rfl).1 (.inr rfl)
      obtain ⟨g3, c3, w3, hr3, o3, s3, x3⟩ := run_copy_s W wo.heap.size 22 g x P c bg zg (hP.out.ext (x01.tr hRW)) (by omega)
      exact op_app rfl (.slice (some ⟨g, 0, none⟩) 0 0) (.slice P x.length c) (Eq.trans (b := u 8) (by kernel_rfl) h1) (by kernel_rfl) _ hr3 (hK _ _ (VF.mg rfl ⟨(fun h => by rcases h with h | h <;> cases h), fun _ => ⟨g3, c3, rfl, o3, s3⟩, (fun h => by cases h), (fun h => by cases h), (fun h => by cases h), (fun h => by cases h)⟩) (hRW.tr x3) (by rw [if_neg (by decide)]; exact x3))
    · exact op_bs1 rfl _ (by kernel_rfl) _ (bs1_run _ 1) (hK _ _ (VF.mg rfl ⟨(fun h => by rcases h with h | h <;> cases h), (fun h => by rcases h with h | h <;> cases h), (fun h => by cases h), fun _ => ⟨_, rfl, .new rfl⟩, (fun h => by cases h), (fun h => by cases h)⟩) (hRW.alloc _) (by rw [if_neg (by decide)]; exact (Ext.rf _).alloc _))
    · obtain ⟨g3, c3', h3, o3, s3⟩ := ((hD 10 (depIn (by kernel_rfl))).g rfl).2.1 (.inr rfl)
      obtain ⟨g8, h8, b8⟩ := ((hD 11 (depIn (by kernel_rfl))).g rfl).2.2.2.1 rfl
      obtain ⟨A7, c7, w7, hrun, o7, g7, k7⟩ := run_app_1 W wo.heap.size 22 g3 c3' x 1 g8 o3 s3 b8 (by omega) hRW.size
      have x7 : Ext wo w7 := hRW.grow g7 (fun k hk => (o3.lt k (by simpa [bl] using hk)).1)
      rw [← hq1.out] at hrun o7
      exact op_app rfl (.slice (some ⟨g3, 0, none⟩) x.length c3') (.slice (some ⟨g8, 0, none⟩) 1 1) (Eq.trans (b := u 10) (by kernel_rfl) h3) (Eq.trans (b := u 11) (by kernel_rfl) h8) _ hrun (hK _ _ (VF.mg rfl ⟨(fun h => by rcases h with h | h <;> cases h), (fun h => by rcases h with h | h <;> cases h), (fun h => by cases h), (fun h => by cases h), (fun h => by cases h), fun _ => ⟨A7, c7, rfl, o7⟩⟩) x7 (by rw [if_pos (by decide)]; exact k7))
    · obtain ⟨A7, c7, h7, o7⟩ := ((hD 12 (depIn (by kernel_rfl))).g rfl).2.2.2.2.2 rfl
      have h0 := (hD 7 (depIn (by kernel_rfl))).k rfl
      refine op_call rfl #[.agg #[.int .i64 kind, .int .i64 nn, .int .i64 cap, .slice A xw.length a, .slice B xv.length b, .slice D co.length d], .slice A7 q1.length c7] (by go_simp) (by simp only [putAll, h0, h7]; kernel_rfl) _ (I1.out A7 c7 q1 hq1.out W (x01.tr hRW) o7.read) ?_
      rintro e w3 ⟨rfl, x3⟩
      exact ⟨_, rfl, hK _ _ (VF.mk rfl) (hRW.tr x3) (by rw [if_neg (by decide)]; exact x3)⟩
  · intro u w7 hRW hV
    have h6 := (hV (6, some 26) (by simp) rfl).k rfl
    have h13 := (hV (13, some 33) (by simp) rfl).k rfl
    simp only [putAll, h6, h13]
    have X7 := Lib.hid (x01.tr hRW)
    clear h6 h13 hV hRW c0 c1 c2 c3 c4 c5
    try simp only [Act.put, List.setIfInBounds_toArray, List.set_cons_zero, List.set_cons_succ]
    refine wpAny_T (i := 14) (op := Op.binOp BinOp.add 3 (Operand.tmp 26) (Operand.tmp 33) 3) (t := 3) (d := some 34) (v := ?_) rfl (by decide +kernel) (by decide +kernel) (by decide +kernel) (fun _ _ _ h => h) ?_ ?_
    case refine_2 => (intro _; unfold exec2; go_simp; try with_reducible rfl)
    try simp only [Act.put, List.setIfInBounds_toArray, List.set_cons_zero, List.set_cons_succ]
    refine wpAny_T (i := 15) (op := Op.assign (Operand.tmp 34)) (t := 3) (d := some 4) (v := ?_) rfl (by decide +kernel) (by decide +kernel) (by decide +kernel) (fun _ _ _ h => h) ?_ ?_
    case refine_2 => (intro _; unfold exec2; go_simp; try with_reducible rfl)
    try simp only [Act.put, List.setIfInBounds_toArray, List.set_cons_zero, List.set_cons_succ]
    refine wpAny_done (by kernel_rfl) ?_ _
    go_simp
    go_wp2_with (fail)
    go_ret
    exact ⟨ret_i (by first | exact (Int.natCast_add n0 n1).symm | exact hw.trans (Int.natCast_add n0 n1).symm), X7.out⟩
set_option maxRecDepth 100000 in
theorem ranswers_any (i : InstP) (us : List Value) (hc : checkP i = 0) (hk : i.kind = 1) (h9 : i.n ≤ 9) : ∀ (m : Nat) (P : Option Addr) (c : Nat) (x : List Int) (w : World), m + x.length = i.n.toNat → RInst w us i → RdI w P x → (∀ v ∈ x, v = 0 ∨ v = 1) →
    Calls Try.prog 30 #[.agg (List.toArray us), .slice P x.length c] w fun e w' => e = .returned (.int .i64 (answersAt i.cap i.weight x)) ∧ Ext w w' := by
  have ok := knap_ok hc hk
  have k1 := ok.n1
  have lw := ok.w
  intro m
  induction m with
  | zero =>
    intro P c x w hm H hP h01
    have CO := fun (W : World) (y : Ext w W) => rcost_any i us P c x W (H.ext y) hc hk (hP.ext y) (by omega) h01
    have e := answersAt_whole (cap := i.cap) (ws := i.weight) (vs := i.value) (x := x) (by omega)
    have h := ranswers_whole i us P c x w H _ (by omega) (by unfold costP; split <;> simp) CO
    have e2 : ((answersAt i.cap i.weight x : Nat) : Int) = if (costP i.cap i.weight i.value x).2 = 0 then 1 else 0 := by rw [e]; split <;> rfl
    rw [e2]
    exact h
  | succ m ih =>
    intro P c x w hm H hP h01
    have hlt : x.length < i.weight.length := by omega
    rw [answersAt_step hlt]
    have bd : ∀ y : List Int, answersAt i.cap i.weight y ≤ 1000000 := fun y => by
      have h1 := answersAt_le i.cap i.weight y
      have h2 : 2 ^ i.weight.length ≤ 2 ^ 9 := Nat.pow_le_pow_right (by omega) (by omega)
      omega
    refine ranswers_more i us P c x w H hP (by omega) (by rw [beq_eq_false_iff_ne]; omega) _ _ (bd _) (bd _) ?_ ?_
    · intro A d q hq W y hx
      subst hq
      exact ih A d _ W (by simp; omega) (H.ext y) hx (fun v hv => by
        rcases List.mem_append.1 hv with h | h
        · exact h01 v h
        · exact .inl (by simpa using h))
    · intro A d q hq W y hx
      subst hq
      exact ih A d _ W (by simp; omega) (H.ext y) hx (fun v hv => by
        rcases List.mem_append.1 hv with h | h
        · exact h01 v h
        · exact .inr (by simpa using h))
end Go.Proofs.Ytpfdkocelmmllaa
