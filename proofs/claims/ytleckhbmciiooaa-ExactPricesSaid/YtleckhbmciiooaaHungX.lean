/-
  exact.Assignment: the best assignment, and what it costs: the walk.
-/
import Derived.Test.YtleckhbmciiooaaHungU
import Derived.Test.YtleckhbmciiooaaPriceP
namespace Go.Proofs.Ytleckhbmciiooaa
open Go.RowKit Go.ChangeShapes Go.WideShapes Go.ChangeAt Go.Deep

def AsgPost (rows : List (List Int)) (w : World) (e : Ending) (w' : World) : Prop :=
  ∃ A c l, e = .returned (.tuple #[.slice A rows.length c, .int .i64 (costF rows (intsN l)), .int .i64 0]) ∧ RdI w' A (intsN l) ∧ l.Perm (List.range rows.length) ∧ rows.length ≤ c ∧ c ≤ maxLen ∧ Least rows rows.length (costF rows (intsN l)) ∧ Ext w w'
set_option maxRecDepth 100000 in
set_option maxHeartbeats 4000000 in
theorem asg_any (i : InstP) (us : List Value) (w : World) (H : RInst w us i) (hc : checkP i = 0) (hk : i.kind = 2) :
    Calls Try.prog 12 #[.agg (List.toArray us)] w (AsgPost i.cost w) := by
  have sq := square_ok hc (by omega)
  have rok := rows_ok sq
  have hln := sq.len
  have TK := fun (W : World) (x : Ext w W) => takes2_any i us W (H.ext x) hc hk
  have TO := fun (P : Option Addr) (c : Nat) (l : List Nat) (W : World) (x : Ext w W) (hP : RdI W P (intsN l)) (hl : l.Perm (List.range i.cost.length)) => told2_any i us P c l W (H.ext x) hc hk hP hl
  obtain ⟨kind, nn, cap, xw, xv, co⟩ := i
  obtain ⟨A, a, B, b, D, d, rfl, -, -, hC, -⟩ := H
  simp only at *
  subst hk
  have n1 := rok.n1
  have n2 := rok.n2
  obtain ⟨n, hn⟩ : ∃ n, co.length = n := ⟨_, rfl⟩
  rw [hn] at TK TO hln n1 n2 ⊢
  subst hln
  obtain ⟨N, hN⟩ : ∃ N, N = n + 1 := ⟨_, rfl⟩
  have GR := fun (W : World) (gp gu gv gh gf r R : Nat) (u v : Nat → Int) (has frm : Nat → Nat) (hP : PB W gp D d n N gu gv gh gf) (hu : Arr W gu N u) (hv : Arr W gv N v) (hh : Arr W gh N fun c => (has c : Int)) (hf : Arr W gf N fun c => (frm c : Int)) (hd : [gu, gv, gh, gf].Nodup)
    (hx : Ext w W) (hb : ∀ k, k < w.heap.size → ¬ PS gu gv gh gf k) (hI : HI n (cstR co) r u v has) (hr : r < n) (hR : R = r + 1) => grow_any hP hu hv hh hf hd hC hx hb rok hn hN hI hr hR
  have B1 : Hid (Blk (w.alloc (.cells #[.int .i64 2, .int .i64 n, .int .i64 cap, .slice A xw.length a, .slice B xv.length b, .slice D n d] 25)) w.heap.size 25 #[.int .i64 2, .int .i64 n, .int .i64 cap, .slice A xw.length a, .slice B xv.length b, .slice D n d]) := .new rfl
  have num : ∀ i c, 1 ≤ i → i ≤ n → 1 ≤ c → c ≤ n → 0 ≤ cstR co i c := fun i c h1 h2 h3 h4 => (ends_num rok (i - 1) (c - 1) (by omega) (by omega)).1
  have eN : (n : Int) + 1 = (N : Int) := by omega
  have wN : IntKind.i64.wrap ((n : Int) + 1) = (N : Int) := by rw [eN]; exact IntWalk.i64_in _ (by omega)
  clear eN
  replace TK := Lib.hid TK
  replace TO := Lib.hid TO
  replace GR := Lib.hid GR
  replace num := Lib.hid num
  replace hn := Lib.hid hn
  have hN25 : N ≤ 25 := by omega
  replace hN := Lib.hid hN
  clear hc hC rok sq
  go_enter Try.func12, Try.ntmps12
  go_wp2_with (fail)
  refine (TK.out _ (by (repeat (first | assumption | exact Ext.rf _ | apply Ext.drew | apply Ext.drewN | apply Ext.alloc)))).mono ?_
  rintro e w1 ⟨rfl, x1⟩
  have X1 := Lib.hid (Ext.tr (a := w) (by (repeat (first | assumption | exact Ext.rf _ | apply Ext.drew | apply Ext.drewN | apply Ext.alloc))) x1)
  have b1 := Lib.hid (B1.out.ext x1)
  have t1 : w1.cell? ⟨w.heap.size, 1, none⟩ = some (.int .i64 n) := b1.out.cell 1
  clear x1 B1
  go_wp2_with (fail)
  go_cut [7] (fun v7 wx => ∃ gp gu gv gh gf, v7 = .pointer (some ⟨gp, 0, none⟩) ∧ PB wx gp D d n N gu gv gh gf ∧ [gu, gv, gh, gf].Nodup ∧ (∀ k, k < w1.heap.size → ¬ PS gu gv gh gf k) ∧ Arr wx gu N (fun _ => 0) ∧ Arr wx gv N (fun _ => 0) ∧ Arr wx gh N (fun _ => 0) ∧ Arr wx gf N (fun _ => 0) ∧ Ext w1 wx)
  case first =>
    have zb := b1.out.lt
    refine wp_region_any (by kernel_rfl) ?_
    change wpAny _ _ _ _ _ _ _ (World.drew _)
    refine wpAny_T (i := 0) (op := Op.fieldAddr 25 (Operand.tmp 1) 5) (t := 0) (d := some 18) (v := ?_) rfl (by decide +kernel) (by decide +kernel) (by decide +kernel) (fun _ _ _ h => h) ?_ ?_
    case refine_2 => (intro _; unfold exec2; go_simp; try with_reducible rfl)
    try simp only [Act.put, List.setIfInBounds_toArray, List.set_cons_zero, List.set_cons_succ]
    refine wpAny_T (i := 2) (op := Op.move (Operand.tmp 6)) (t := 3) (d := some 20) (v := ?_) rfl (by decide +kernel) (by decide +kernel) (by decide +kernel) (fun _ _ _ h => h) ?_ ?_
    case refine_2 => (intro _; unfold exec2; go_simp; try with_reducible rfl)
    try simp only [Act.put, List.setIfInBounds_toArray, List.set_cons_zero, List.set_cons_succ]
    refine wpAny_T (i := 3) (op := Op.binOp BinOp.add 3 (Operand.tmp 20) (Operand.const (Value.int IntKind.i64 1)) 3) (t := 3) (d := some 21) (v := ?_) rfl (by decide +kernel) (by decide +kernel) (by decide +kernel) (fun _ _ _ h => h) ?_ ?_
    case refine_2 => (intro _; unfold exec2; go_simp; try with_reducible rfl)
    try simp only [Act.put, List.setIfInBounds_toArray, List.set_cons_zero, List.set_cons_succ]
    refine wpAny_T (i := 5) (op := Op.move (Operand.tmp 6)) (t := 3) (d := some 23) (v := ?_) rfl (by decide +kernel) (by decide +kernel) (by decide +kernel) (fun _ _ _ h => h) ?_ ?_
    case refine_2 => (intro _; unfold exec2; go_simp; try with_reducible rfl)
    try simp only [Act.put, List.setIfInBounds_toArray, List.set_cons_zero, List.set_cons_succ]
    refine wpAny_T (i := 6) (op := Op.binOp BinOp.add 3 (Operand.tmp 23) (Operand.const (Value.int IntKind.i64 1)) 3) (t := 3) (d := some 24) (v := ?_) rfl (by decide +kernel) (by decide +kernel) (by decide +kernel) (fun _ _ _ h => h) ?_ ?_
    case refine_2 => (intro _; unfold exec2; go_simp; try with_reducible rfl)
    try simp only [Act.put, List.setIfInBounds_toArray, List.set_cons_zero, List.set_cons_succ]
    refine wpAny_T (i := 8) (op := Op.move (Operand.tmp 6)) (t := 3) (d := some 26) (v := ?_) rfl (by decide +kernel) (by decide +kernel) (by decide +kernel) (fun _ _ _ h => h) ?_ ?_
    case refine_2 => (intro _; unfold exec2; go_simp; try with_reducible rfl)
    try simp only [Act.put, List.setIfInBounds_toArray, List.set_cons_zero, List.set_cons_succ]
    refine wpAny_T (i := 9) (op := Op.binOp BinOp.add 3 (Operand.tmp 26) (Operand.const (Value.int IntKind.i64 1)) 3) (t := 3) (d := some 27) (v := ?_) rfl (by decide +kernel) (by decide +kernel) (by decide +kernel) (fun _ _ _ h => h) ?_ ?_
    case refine_2 => (intro _; unfold exec2; go_simp; try with_reducible rfl)
    try simp only [Act.put, List.setIfInBounds_toArray, List.set_cons_zero, List.set_cons_succ]
    refine wpAny_T (i := 11) (op := Op.move (Operand.tmp 6)) (t := 3) (d := some 29) (v := ?_) rfl (by decide +kernel) (by decide +kernel) (by decide +kernel) (fun _ _ _ h => h) ?_ ?_
    case refine_2 => (intro _; unfold exec2; go_simp; try with_reducible rfl)
    try simp only [Act.put, List.setIfInBounds_toArray, List.set_cons_zero, List.set_cons_succ]
    refine wpAny_T (i := 12) (op := Op.binOp BinOp.add 3 (Operand.tmp 29) (Operand.const (Value.int IntKind.i64 1)) 3) (t := 3) (d := some 30) (v := ?_) rfl (by decide +kernel) (by decide +kernel) (by decide +kernel) (fun _ _ _ h => h) ?_ ?_
    case refine_2 => (intro _; unfold exec2; go_simp; try with_reducible rfl)
    try simp only [Act.put, List.setIfInBounds_toArray, List.set_cons_zero, List.set_cons_succ]
    refine wpAny_core4 (n := 3) (σ := Nat → Nat) [(1, some 19), (4, some 22), (7, some 25), (10, some 28), (13, some 31)] (fun _ W => Ext w1 W)
      (fun i v T W => (i = 1 → v = .slice D n d) ∧ (i ≠ 1 → ∃ h, v = .slice (some ⟨h, 0, none⟩) N N ∧ Arr W h N (fun _ => 0) ∧ w1.heap.size ≤ h ∧ T h = i))
      (fun T W T' W' => Ext W W' ∧ ∀ h, h < W.heap.size → T' h = T h) #[true, true, true, true, true, true, true, true, true, true, true, true, true, true, false, false, false] (by decide +kernel) ?_ ?_ ?_ (s0 := fun _ => 0) ((Ext.rf _).drew)
    · rintro j v T W T' W' ⟨h1, h2⟩ ⟨hx, hT⟩
      refine ⟨h1, fun hj => ?_⟩
      obtain ⟨h, k1, k2, k3, k4⟩ := h2 hj
      exact ⟨h, k1, k2.ext hx, k3, by rw [hT h k2.lt]; exact k4⟩
    · intro pq hpm u T W hRW hD K hK
      have r5 : W.cell? ⟨w.heap.size, 5, none⟩ = some (.slice D n d) := (b1.out.ext hRW).cell 5
      have MK : ∀ (i : Nat) (W' : World), i ≠ 1 → Arr W' W.heap.size N (fun _ => 0) → Ext W W' → ((i = 1 → Value.slice (some ⟨W.heap.size, 0, none⟩) N N = .slice D n d) ∧ (i ≠ 1 → ∃ h, Value.slice (some ⟨W.heap.size, 0, none⟩) N N = .slice (some ⟨h, 0, none⟩) N N ∧ Arr W' h N (fun _ => 0) ∧ w1.heap.size ≤ h ∧ (fun x => if x = W.heap.size then i else T x) h = i)) ∧ Ext w1 W' ∧ (Ext W W' ∧ ∀ h, h < W.heap.size → (fun x => if x = W.heap.size then i else T x) h = T h) := fun i W' hi a x =>
        ⟨⟨fun h => absurd h hi, fun _ => ⟨_, rfl, a, hRW.size, if_pos rfl⟩⟩, hRW.tr x, x, fun h hh => if_neg (by omega)⟩
      simp only [List.mem_cons, List.not_mem_nil, or_false] at hpm
      rcases hpm with rfl | rfl | rfl | rfl | rfl
      · exact op_ld (T := 23) rfl (.pointer (some ⟨w.heap.size, 5, none⟩)) (by kernel_rfl) (.slice D n d) (by go_simp) (hK _ T W ⟨fun _ => rfl, fun h => absurd rfl h⟩ hRW ⟨Ext.rf _, fun _ _ => rfl⟩)
      · exact op_make_a rfl N (N : Int) (by kernel_rfl) (by kernel_rfl) rfl (by omega) fun W' a x => hK _ _ _ (MK 4 W' (by decide) a x).1 (MK 4 W' (by decide) a x).2.1 (MK 4 W' (by decide) a x).2.2
      · exact op_make_a rfl N (N : Int) (by kernel_rfl) (by kernel_rfl) rfl (by omega) fun W' a x => hK _ _ _ (MK 7 W' (by decide) a x).1 (MK 7 W' (by decide) a x).2.1 (MK 7 W' (by decide) a x).2.2
      · exact op_make_a rfl N (N : Int) (by kernel_rfl) (by kernel_rfl) rfl (by omega) fun W' a x => hK _ _ _ (MK 10 W' (by decide) a x).1 (MK 10 W' (by decide) a x).2.1 (MK 10 W' (by decide) a x).2.2
      · exact op_make_a rfl N (N : Int) (by kernel_rfl) (by kernel_rfl) rfl (by omega) fun W' a x => hK _ _ _ (MK 13 W' (by decide) a x).1 (MK 13 W' (by decide) a x).2.1 (MK 13 W' (by decide) a x).2.2
    · intro u T W hRW hV
      have h1 := (hV (1, some 19) (by simp)).1 rfl
      obtain ⟨gu, h4, a4, z4, e4⟩ := (hV (4, some 22) (by simp)).2 (by decide)
      obtain ⟨gv, h7, a7, z7, e7⟩ := (hV (7, some 25) (by simp)).2 (by decide)
      obtain ⟨gh, h10, a10, z10, e10⟩ := (hV (10, some 28) (by simp)).2 (by decide)
      obtain ⟨gf, h13, a13, z13, e13⟩ := (hV (13, some 31) (by simp)).2 (by decide)
      have ND : Hid ([gu, gv, gh, gf].Nodup ∧ ∀ k, k < w1.heap.size → ¬ PS gu gv gh gf k) := by
        refine ⟨?_, fun k hk => ?_⟩
        · simp only [List.nodup_cons, List.mem_cons, List.not_mem_nil, or_false, not_or, not_false_eq_true, List.nodup_nil, and_true]
          refine ⟨⟨?_, ?_, ?_⟩, ⟨?_, ?_⟩, ?_⟩ <;> (rintro rfl; omega)
        · rintro (h | h | h | h) <;> omega
      simp only [putAll, h1, h4, h7, h10, h13]
      clear hV h1 h4 h7 h10 h13 e4 e7 e10 e13 z4 z7 z10 z13
      try simp only [Act.put, List.setIfInBounds_toArray, List.set_cons_zero, List.set_cons_succ]
      refine wpAny_T (i := 14) (op := Op.build 96 #[(0, Operand.tmp 19), (1, Operand.tmp 22), (2, Operand.tmp 25), (3, Operand.tmp 28), (4, Operand.tmp 31)]) (t := 96) (d := some 32) (v := ?_) rfl (by decide +kernel) (by decide +kernel) (by decide +kernel) (fun _ _ _ h => h) ?_ ?_
      case refine_2 => (intro _; unfold exec2; go_simp; try with_reducible rfl)
      try simp only [Act.put, List.setIfInBounds_toArray, List.set_cons_zero, List.set_cons_succ]
      refine wpAny_next 15 (by decide +kernel) (op_run (op := .box 96 (.tmp 32)) rfl (.pointer (some ⟨W.heap.size, 0, none⟩)) (w' := W.alloc (.cells #[.slice D n d, .slice (some ⟨gu, 0, none⟩) N N, .slice (some ⟨gv, 0, none⟩) N N, .slice (some ⟨gh, 0, none⟩) N N, .slice (some ⟨gf, 0, none⟩) N N] 96)) (by unfold exec2; go_simp) ?_)
      try simp only [Act.put, List.setIfInBounds_toArray, List.set_cons_zero, List.set_cons_succ]
      refine wpAny_T (i := 16) (op := Op.assign (Operand.tmp 33)) (t := 94) (d := some 7) (v := ?_) rfl (by decide +kernel) (by decide +kernel) (by decide +kernel) (fun _ _ _ h => h) ?_ ?_
      case refine_2 => (intro _; unfold exec2; go_simp; try with_reducible rfl)
      try simp only [Act.put, List.setIfInBounds_toArray, List.set_cons_zero, List.set_cons_succ]
      refine wpAny_done (by kernel_rfl) ?_ _
      have xa : Ext W (W.alloc (.cells #[.slice D n d, .slice (some ⟨gu, 0, none⟩) N N, .slice (some ⟨gv, 0, none⟩) N N, .slice (some ⟨gh, 0, none⟩) N N, .slice (some ⟨gf, 0, none⟩) N N] 96)) := (Ext.rf _).alloc _
      go_simp
      go_wp2_with (fail)
      go_meet
      exact ⟨W.heap.size, gu, gv, gh, gf, rfl, .new rfl, ND.out.1, ND.out.2, a4.ext xa, a7.ext xa, a10.ext xa, a13.ext xa, hRW.tr xa⟩
  case rest =>
  obtain ⟨gp, gu, gv, gh, gf, rfl, hP, hd, hb, aU, aV, aH, aF, x5⟩ := hcut
  obtain ⟨w5, rfl⟩ : ∃ w5 : World, w5 = wc := ⟨_, rfl⟩
  have X5 := Lib.hid (X1.out.tr x5)
  have b5 := Lib.hid (b1.out.ext x5)
  have hbw : ∀ k, k < w.heap.size → ¬ PS gu gv gh gf k := fun k hk => hb k (by have := X1.out.size; omega)
  have gpn : ¬ PS gu gv gh gf gp := by
    rintro (h | h | h | h)
    · exact aU.ne hP (by decide) h.symm
    · exact aV.ne hP (by decide) h.symm
    · exact aH.ne hP (by decide) h.symm
    · exact aF.ne hP (by decide) h.symm
  have PM := Lib.hid (fun (W : World) (m : Mod (PS gu gv gh gf) w5 W) => (show PB W gp D d n N gu gv gh gf from hP.mod m gpn))
  have XM := Lib.hid (fun (W : World) (m : Mod (PS gu gv gh gf) w5 W) => X5.out.mod m hbw)
  have GS : Hid (HI n (cstR co) 0 (fun _ => 0) (fun _ => 0) (fun _ => 0) ∧ Arr w5 gu N (fun _ => 0) ∧ Arr w5 gv N (fun _ => 0) ∧ Arr w5 gh N (fun c => (((fun _ => 0) c : Nat) : Int)) ∧ Arr w5 gf N (fun c => (((fun _ => 0) c : Nat) : Int))) := ⟨HI.start num.out, aU, aV, aH, aF⟩
  have hne : gh ≠ gf := by
    simp only [List.nodup_cons, List.mem_cons, List.not_mem_nil, or_false, not_or] at hd
    exact hd.2.2.1
  have nbx : ¬ PS gu gv gh gf w.heap.size := hb _ b1.out.lt
  replace hd := Lib.hid hd
  replace hbw := Lib.hid hbw
  replace hne := Lib.hid hne
  clear hP aU aV aH aF x5 hb gpn t1
  go_wp2_with (fail)
  go_loopw [8] (fun v8 wr => ∃ (r k : Nat) (u v : Nat → Int) (has frm : Nat → Nat), v8 = .int .i64 r ∧ Hid (r = k + 1) ∧ r ≤ n + 1 ∧ Hid (HI n (cstR co) k u v has ∧ Arr wr gu N u ∧ Arr wr gv N v ∧ Arr wr gh N (fun c => (has c : Int)) ∧ Arr wr gf N (fun c => (frm c : Int))) ∧ Hid (Mod (PS gu gv gh gf) w5 wr)) (fun v8 _ => n + 1 - (intOf v8).toNat)
  case atStart => exact ⟨1, 0, fun _ => 0, fun _ => 0, fun _ => 0, fun _ => 0, rfl, rfl, by omega, GS, Mod.rf _⟩
  case round =>
    clear GS
    obtain ⟨wo, rfl⟩ : ∃ wo : World, wo = wr := ⟨_, rfl⟩
    obtain ⟨r, k, u, v, has, frm, rfl, hrk, hr, GS, HM⟩ := hrel
    by_cases hrn : r ≤ n
    · have q1 : (r : Int) ≤ (n : Int) := by omega
      have wr1 : IntKind.i64.wrap ((r : Int) + 1) = ((r + 1 : Nat) : Int) := IntWalk.i64_in _ (by omega)
      obtain ⟨hI, aU, aV, aH, aF⟩ := GS.out
      have G := Lib.hid (GR.out wo gp gu gv gh gf k r u v has frm (PM.out _ HM.out) aU aV aH aF hd.out (XM.out _ HM.out) hbw.out hI (by have := hrk.out; omega) hrk.out)
      clear hI aU aV aH aF GS
      go_wp2_with (fail)
      refine G.out.mono ?_
      rintro e W1 ⟨a1, L, u2, v2, least, has2, frm2, rfl, ha, cU, cV, cH, cF, hG, hO, hM⟩
      have HM1 := Lib.hid (HM.out.tr hM)
      have hI2 := And.intro hG.slack (And.intro hG.neg (And.intro hG.pos hG.fresh))
      have T := Lib.hid (turn_any (PM.out _ HM1.out) cH cF hne.out hN.out (by omega) hG hO ha)
      have FIN := Lib.hid (And.intro cU (And.intro cV cF))
      clear G hM hG hO ha cU cV cH cF hI2 HM
      go_wp2_with (fail)
      refine T.out.mono ?_
      rintro e W2 ⟨rfl, ⟨hs, dH, hI3⟩, hM2⟩
      obtain ⟨cU, cV, cF⟩ := FIN.out
      have nd := hd.out
      simp only [List.nodup_cons, List.mem_cons, List.not_mem_nil, or_false, not_or] at nd
      have HM3 := Lib.hid (HM1.out.tr (hM2.mono fun k _ hk => Or.inr (Or.inr (Or.inl hk))))
      have GS3 : Hid (HI n (cstR co) r u2 v2 hs ∧ Arr W2 gu N u2 ∧ Arr W2 gv N v2 ∧ Arr W2 gh N (fun c => (hs c : Int)) ∧ Arr W2 gf N (fun c => (frm2 c : Int))) :=
        ⟨hI3, cU.mod hM2 nd.1.2.1, cV.mod hM2 nd.2.1.1, dH, cF.mod hM2 (fun e => nd.2.2.1 e.symm)⟩
      clear T dH hI3 hM2 cU cV cF nd HM1 FIN
      go_wp2_with (fail)
      go_roundw
      case rel => exact ⟨r + 1, r, _, _, _, _, by go_num, rfl, by omega, GS3, HM3⟩
      case measure => simp [intOf]; omega
    · obtain rfl : r = n + 1 := by omega
      obtain rfl : k = n := by have := hrk.out; omega
      clear hrk hrn hr
      obtain ⟨hI, -, -, aH, -⟩ := GS.out
      have q1 : ¬ (((k + 1 : Nat) : Int) ≤ (k : Int)) := by omega
      have PH : Hid (PB wo gp D d k N gu gv gh gf) := PM.out _ HM.out
      have XX := Lib.hid (XM.out _ HM.out)
      have BX := Lib.hid (b5.out.mod HM.out nbx)
      have FU := Lib.hid (fun c (c1 : 1 ≤ c) (c2 : c ≤ k) => hI.full c1 c2)
      have INJ := Lib.hid (fun c c' (c1 : 1 ≤ c) (c2 : c ≤ k) (d1 : 1 ≤ c') (d2 : c' ≤ k) (e : has c = has c') => hI.inj c c' c1 c2 d1 d2 e (by have := hI.full c1 c2; omega))
      replace hI := Lib.hid hI
      replace aH := Lib.hid aH
      clear GS HM PM XM b5 X5 b1 X1
      go_wp2_with (at_make; refine wpl_make_i _ rfl _ _ rfl wo.heap.size _ _ k rfl rfl rfl rfl (by omega) (Nat.le_refl _) ?_; rintro w6 o6 g6; replace o6 := Lib.hid o6; replace g6 := Lib.hid g6)
      have x6 := Lib.hid ((Ext.rf wo).grownNone g6.out)
      have a6 := Lib.hid (Arr.of_own o6.out)
      have PH6 := Lib.hid (Blk.ext PH.out x6.out)
      have aH6 := Lib.hid (aH.out.ext x6.out)
      have zx : wo.heap.size ≠ gh ∧ wo.heap.size ≠ gp := by
        have := aH.out.lt
        have := Blk.lt PH.out
        omega
      generalize hgx : wo.heap.size = gx at *
      replace hgx := Lib.hid hgx
      clear o6 g6 PH aH
      go_loopw [10] (fun v10 wr => ∃ (c : Nat) (xf : Nat → Nat), v10 = .int .i64 c ∧ 1 ≤ c ∧ c ≤ k + 1 ∧ Hid (∀ j, 1 ≤ j → j < c → xf (has j - 1) = j - 1) ∧ Hid (Arr wr gx k fun i => (xf i : Int)) ∧ Hid (Mod (fun b => b = gx) w6 wr)) (fun v10 _ => k + 1 - (intOf v10).toNat)
      case atStart => exact ⟨1, fun _ => 0, rfl, by omega, by omega, fun j h1 h2 => by omega, a6.out, Mod.rf _⟩
      case round =>
        clear a6
        obtain ⟨wp, rfl⟩ : ∃ wp : World, wp = wr := ⟨_, rfl⟩
        obtain ⟨c, xf, rfl, hc1, hck, HX, aX, HM⟩ := hrel
        by_cases hcn : c ≤ k
        · have q2 : (c : Int) ≤ (k : Int) := by omega
          have wc1 : IntKind.i64.wrap ((c : Int) + 1) = ((c + 1 : Nat) : Int) := IntWalk.i64_in _ (by omega)
          have fu := FU.out c hc1 hcn
          obtain ⟨h, hh⟩ : ∃ h, Hid (has c = h) := ⟨_, rfl⟩
          rw [hh.out] at fu
          obtain ⟨h1, hh1⟩ : ∃ h1, Hid (h - 1 = h1) := ⟨_, rfl⟩
          obtain ⟨c1, hhc⟩ : ∃ c1, Hid (c - 1 = c1) := ⟨_, rfl⟩
          have w2 : IntKind.i64.wrap ((h : Int) - 1) = (h1 : Int) := by
            have := hh1.out
            rw [show (h : Int) - 1 = (h1 : Int) by omega]
            exact IntWalk.i64_in _ (by omega)
          have w3 : IntKind.i64.wrap ((c : Int) - 1) = (c1 : Int) := by
            have := hhc.out
            rw [show (c : Int) - 1 = (c1 : Int) by omega]
            exact IntWalk.i64_in _ (by omega)
          have p3 : wp.cell? ⟨gp, 3, none⟩ = some (.slice (some ⟨gh, 0, none⟩) N N) := (Blk.mod PH6.out HM.out zx.2.symm).cell 3
          have kh := (aH6.out.mod HM.out zx.1.symm).cell (k := c) (by have := hN.out; omega)
          simp only [hh.out] at kh
          have qh : (h1 : Int) < (k : Int) := by have := hh1.out; omega
          have qh' : h1 < k := by have := hh1.out; omega
          have qc : (c : Int) < (N : Int) := by have := hN.out; omega
          have kx := aX.out.cell qh'
          have fx := aX.out.free h1
          have aX2 : Hid (Arr (wp.setCell ⟨gx, h1, none⟩ (.int .i64 c1)) gx k fun i => ((if i = h1 then c1 else xf i : Nat) : Int)) := (aX.out.set h1 (c1 : Int)).congr fun i _ => by split <;> rfl
          have HM2 := Lib.hid (HM.out.set (p := ⟨gx, h1, none⟩) (.inl rfl) (.int .i64 c1))
          have HX2 : Hid (∀ j, 1 ≤ j → j < c + 1 → (fun i => if i = h1 then c1 else xf i) (has j - 1) = j - 1) := fun j j1 j2 => by
            simp only
            by_cases e : j = c
            · subst e
              rw [hh.out, hh1.out, if_pos rfl, hhc.out]
            · have h3 := FU.out j j1 (by omega)
              have h4 := hh.out
              have h5 := hh1.out
              rw [if_neg (fun e2 => e (INJ.out j c j1 (by omega) hc1 hcn (by omega)))]
              exact HX.out j j1 (by omega)
          clear HX aX HM fu
          go_wp2_with (fail)
          go_roundw
          case rel => exact ⟨c + 1, _, by go_num, by omega, by omega, HX2, aX2, HM2⟩
          case measure => simp [intOf]; omega
        · obtain rfl : c = k + 1 := by omega
          have HU := hung_min (x := (List.range k).map xf) hn.out hI.out (by simp) (fun j j1 j2 => by
            have h3 := FU.out j j1 j2
            rw [List.getElem?_map, List.getElem?_range (by omega), Option.map_some, HX.out j j1 (by omega)])
          have RD : RdI wp (some ⟨gx, 0, none⟩) (intsN ((List.range k).map xf)) := by
            have := aX.out.rdI
            simpa [intsN, Function.comp_def] using this
          have XW : Ext w wp := (XX.out.tr x6.out).mod HM.out (fun b hb e => by
            have h1 := hgx.out
            have h2 := XX.out.size
            omega)
          have LE : Hid (Least co k (costF co (intsN ((List.range k).map xf)))) := ⟨⟨_, HU.1, rfl⟩, HU.2⟩
          have TT := Lib.hid (TO.out (some ⟨gx, 0, none⟩) k ((List.range k).map xf) wp XW RD HU.1)
          have FIN := Lib.hid (And.intro HU.1 (And.intro RD XW))
          have BXp := (BX.out.ext x6.out).mod HM.out (fun e => by
            have h1 := hgx.out
            have h2 := BX.out.lt
            omega)
          have t0 : wp.cell? ⟨w.heap.size, 0, none⟩ = some (.int .i64 2) := BXp.cell 0
          have t1 : wp.cell? ⟨w.heap.size, 1, none⟩ = some (.int .i64 k) := BXp.cell 1
          have t2 : wp.cell? ⟨w.heap.size, 2, none⟩ = some (.int .i64 cap) := BXp.cell 2
          have t3 : wp.cell? ⟨w.heap.size, 3, none⟩ = some (.slice A xw.length a) := BXp.cell 3
          have t4 : wp.cell? ⟨w.heap.size, 4, none⟩ = some (.slice B xv.length b) := BXp.cell 4
          have t5 : wp.cell? ⟨w.heap.size, 5, none⟩ = some (.slice D k d) := BXp.cell 5
          have q2 : ¬ (((k + 1 : Nat) : Int) ≤ (k : Int)) := by omega
          have mk : k ≤ maxLen := by simp only [maxLen]; omega
          clear HU RD XW BXp HX aX HM BX XX INJ FU hI
          generalize (List.range k).map xf = l at *
          go_wp2_with (fail)
          refine TT.out.mono ?_
          rintro e W9 ⟨rfl, x9⟩
          clear t0 t1 t2 t3 t4 t5 TT
          go_wp2_with (fail)
          go_ret3
          unfold AsgPost
          rw [hn.out]
          exact ⟨_, _, l, rfl, FIN.out.2.1.ext x9, FIN.out.1, Nat.le_refl _, mk, LE.out, FIN.out.2.2.tr x9⟩
end Go.Proofs.Ytleckhbmciiooaa
