/-
  TapeTells: in every row of questions a tape tells its picks and draws, one behind the other, and what comes behind the last ones. No condition.
-/
import Derived.Test.YthmjeajfchpdoaaTapeB
import Derived.Test.YthmjeajfchpdoaaRegion
import Derived.Deep.DeepCutAuto
namespace Go.Proofs.Ythmjeajfchpdoaa.tapeTells
open Go.RowKit Go.ChangeShapes Go.WideShapes Go.ChangeAt

theorem none_any (w : World) : Calls Try.prog 19 #[] w fun e w' => e = .returned (.pointer none) ∧ w = w' := by
  go_enter Try.func19, Try.ntmps19
  go_wp2
  go_ret
  exact ⟨rfl, rfl⟩

/-- what the operations of 'p, d := append([]int{}, ..), append([]int{}, ..)' yield -/
def V4 (base : Nat) (ps qs : List Int) (i : Nat) (v : Value) (w : World) : Prop :=
  if i = 0 ∨ i = 7 then ∃ g, v = .slice (some ⟨g, 0, none⟩) 0 0 ∧ base ≤ g ∧ Blk w g 3 #[]
  else if i = 6 ∨ i = 14 then ∃ A c, v = .slice A ps.length c ∧ OwI w base A c ps
  else ∃ A c, v = .slice A qs.length c ∧ OwI w base A c qs
theorem V4_ext (base : Nat) (ps qs : List Int) (i : Nat) (v : Value) (w w' : World) (h : V4 base ps qs i v w) (he : Ext w w') : V4 base ps qs i v w' := by
  unfold V4 at *
  split
  · rename_i hi
    rw [if_pos hi] at h
    obtain ⟨g, h1, h2, h3⟩ := h
    exact ⟨g, h1, h2, h3.ext he⟩
  · rename_i hi
    rw [if_neg hi] at h
    split
    · rename_i hj
      rw [if_pos hj] at h
      obtain ⟨A, c, h1, h2⟩ := h
      exact ⟨A, c, h1, h2.ext he⟩
    · rename_i hj
      rw [if_neg hj] at h
      obtain ⟨A, c, h1, h2⟩ := h
      exact ⟨A, c, h1, h2.ext he⟩
theorem V4_e {base : Nat} {ps qs : List Int} {i : Nat} {v : Value} {w : World} (hi : i = 0 ∨ i = 7) : V4 base ps qs i v w ↔ ∃ g, v = .slice (some ⟨g, 0, none⟩) 0 0 ∧ base ≤ g ∧ Blk w g 3 #[] := by unfold V4; rw [if_pos hi]
theorem V4_p {base : Nat} {ps qs : List Int} {i : Nat} {v : Value} {w : World} (hi : i = 6 ∨ i = 14) : V4 base ps qs i v w ↔ ∃ A c, v = .slice A ps.length c ∧ OwI w base A c ps := by unfold V4; rw [if_neg (by omega), if_pos hi]
theorem V4_q {base : Nat} {ps qs : List Int} {i : Nat} {v : Value} {w : World} (hi : i = 13 ∨ i = 15) : V4 base ps qs i v w ↔ ∃ A c, v = .slice A qs.length c ∧ OwI w base A c qs := by unfold V4; rw [if_neg (by omega), if_neg (by omega)]
set_option maxRecDepth 100000 in
set_option maxHeartbeats 4000000 in
theorem walk (A : Option Addr) (c : Nat) (xs : List Int) (B : Option Addr) (d : Nat) (ys : List Int) (D : Option Addr) (f : Nat) (zs : List Int) (w : World)
    (hx : RdI w A xs) (_ix : Ints xs) (lx : xs.length ≤ c) (_lc : c ≤ maxLen) (hy : RdI w B ys) (_iy : Ints ys) (ly : ys.length ≤ d) (_ld : d ≤ maxLen) (hz : RdI w D zs) (iz : Ints zs) (_lz : zs.length ≤ f) (lf : f ≤ maxLen) :
    Calls Try.prog 5 #[.slice A xs.length c, .slice B ys.length d, .slice D zs.length f] w fun e w' => e = .returned (.bool true) ∧ Ext w w' := by
  clear _lc _ld
  go_enter Try.func5, Try.ntmps5
  go_wp2_with (first | (go_at_call 19; refine (none_any _).mono ?_; rintro e w' ⟨rfl, rfl⟩) | (go_at_call 20; refine (used_none _).mono ?_; rintro e w' ⟨rfl, rfl⟩))
  refine (tapes_any _).mono ?_
  rintro e w1 ⟨rfl, e1⟩
  have hx1 := hx.ext e1
  have hy1 := hy.ext e1
  go_wp2_with (first | (go_at_call 19; refine (none_any _).mono ?_; rintro e w' ⟨rfl, rfl⟩) | (go_at_call 21; refine (pick_none _ _).mono ?_; rintro e w' ⟨rfl, rfl⟩) | (go_at_call 22; refine (draw_none _ _).mono ?_; rintro e w' ⟨rfl, rfl⟩))
  obtain ⟨ps, hp, ip, lp, lp', kp, ep⟩ := cut_min 50 hx1 _ix
  obtain ⟨qs, hq, iq, lq, lq', kq, eq⟩ := cut_min 50 hy1 _iy
  simp only [Int.cast_ofNat_Int] at ep eq
  clear hx1 hy1 hx hy _ix _iy
  have lpc : ps.length ≤ c := by omega
  have lqd : qs.length ≤ d := by omega
  go_cut [9, 10] (fun p d w' => ∃ A' c' B' d', p = .slice A' ps.length c' ∧ d = .slice B' qs.length d' ∧ OwI w' w1.heap.size A' c' ps ∧ OwI w' w1.heap.size B' d' qs ∧ Ext w1 w')
  case first =>
    obtain ⟨i0, hi0, hz0, _, _⟩ := info_parts int_info
    refine wp_region_any (by kernel_rfl) ?_
    change wpAny _ _ _ _ _ _ _ (World.drew _)
    refine wpAny_take (i := 1) (v := ?_) rfl (by kernel_rfl) (by kernel_rfl) (by kernel_rfl) (fun _ _ _ h => h) (Or.inl ⟨by rfl, ?_⟩) ?_
    case refine_2 => (intro _; go_simp; try with_reducible rfl)
    refine wpAny_take (i := 2) (v := ?_) rfl (by kernel_rfl) (by kernel_rfl) (by kernel_rfl) (fun _ _ _ h => h) (Or.inl ⟨by rfl, ?_⟩) ?_
    case refine_2 => (intro _; go_simp; try with_reducible rfl)
    refine wpAny_take (i := 3) (v := ?_) rfl (by kernel_rfl) (by kernel_rfl) (by kernel_rfl) (fun _ _ _ h => h) (Or.inl ⟨by rfl, ?_⟩) ?_
    case refine_2 => (intro _; go_simp; try with_reducible rfl)
    refine wpAny_take (i := 4) (v := ?_) rfl (by kernel_rfl) (by kernel_rfl) (by kernel_rfl) (fun _ _ _ h => h) (Or.inl ⟨by rfl, ?_⟩) ?_
    case refine_2 => (intro _; go_simp; try with_reducible rfl)
    refine wpAny_take (i := 5) (v := ?_) rfl (by kernel_rfl) (by kernel_rfl) (by kernel_rfl) (fun _ _ _ h => h) (Or.inl ⟨by rfl, ?_⟩) ?_
    case refine_2 => (intro _; go_simp; try with_reducible rfl)
    refine wpAny_take (i := 8) (v := ?_) rfl (by kernel_rfl) (by kernel_rfl) (by kernel_rfl) (fun _ _ _ h => h) (Or.inl ⟨by rfl, ?_⟩) ?_
    case refine_2 => (intro _; go_simp; try with_reducible rfl)
    refine wpAny_take (i := 9) (v := ?_) rfl (by kernel_rfl) (by kernel_rfl) (by kernel_rfl) (fun _ _ _ h => h) (Or.inl ⟨by rfl, ?_⟩) ?_
    case refine_2 => (intro _; go_simp; try with_reducible rfl)
    refine wpAny_take (i := 10) (v := ?_) rfl (by kernel_rfl) (by kernel_rfl) (by kernel_rfl) (fun _ _ _ h => h) (Or.inl ⟨by rfl, ?_⟩) ?_
    case refine_2 => (intro _; go_simp; try with_reducible rfl)
    refine wpAny_take (i := 11) (v := ?_) rfl (by kernel_rfl) (by kernel_rfl) (by kernel_rfl) (fun _ _ _ h => h) (Or.inl ⟨by rfl, ?_⟩) ?_
    case refine_2 => (intro _; go_simp; try with_reducible rfl)
    refine wpAny_take (i := 12) (v := ?_) rfl (by kernel_rfl) (by kernel_rfl) (by kernel_rfl) (fun _ _ _ h => h) (Or.inl ⟨by rfl, ?_⟩) ?_
    case refine_2 => (intro _; go_simp; try with_reducible rfl)
    refine wpAny_inv [(0, some 43), (6, some 49), (7, some 50), (13, some 56), (14, some 9), (15, some 10)] (Ext w1) (V4 w1.heap.size ps qs) Ext (by kernel_rfl) (V4_ext _ _ _) ?_ ?_ ((Ext.rf _).drew) (Nat.le_refl _)
    · intro p hpm u w2 hR hD K hK
      have hsz := hR.size
      simp only [List.mem_cons, List.not_mem_nil, or_false] at hpm
      rcases hpm with rfl | rfl | rfl | rfl | rfl | rfl
      · refine wpOp_step rfl (fun K' hK' => step_build0 rfl _ _ i0 rfl Try.underlying22 hi0 ⟨_, hz0⟩ (hK' _ _ ?_))
        exact hK _ _ ((V4_e (by omega)).2 ⟨_, rfl, hsz, .new rfl⟩) (hR.alloc _) ((Ext.rf _).alloc _)
      · obtain ⟨g, h1, h2, h3⟩ := (V4_e (by omega)).1 (hD 0 (depIn (by kernel_rfl)))
        refine wpOp_step rfl (fun K' hK' => step_copy_i _ rfl _ _ rfl w1.heap.size g ps A c (Eq.trans (b := u 0) (by kernel_rfl) h1) (by kernel_rfl) h3 h2 (hp.ext hR) (by omega) (fun A1 c1 w3 o1 x1 => hK' _ _ ?_))
        exact hK _ _ ((V4_p (by omega)).2 ⟨_, _, rfl, o1⟩) (hR.tr x1) x1
      · refine wpOp_step rfl (fun K' hK' => step_build0 rfl _ _ i0 rfl Try.underlying22 hi0 ⟨_, hz0⟩ (hK' _ _ ?_))
        exact hK _ _ ((V4_e (by omega)).2 ⟨_, rfl, hsz, .new rfl⟩) (hR.alloc _) ((Ext.rf _).alloc _)
      · obtain ⟨g, h1, h2, h3⟩ := (V4_e (by omega)).1 (hD 7 (depIn (by kernel_rfl)))
        refine wpOp_step rfl (fun K' hK' => step_copy_i _ rfl _ _ rfl w1.heap.size g qs B d (Eq.trans (b := u 7) (by kernel_rfl) h1) (by kernel_rfl) h3 h2 (hq.ext hR) (by omega) (fun A1 c1 w3 o1 x1 => hK' _ _ ?_))
        exact hK _ _ ((V4_q (by omega)).2 ⟨_, _, rfl, o1⟩) (hR.tr x1) x1
      · have h6 := (V4_p (by omega)).1 (hD 6 (depIn (by kernel_rfl)))
        refine wpOp_step rfl (fun K' hK' => step_assign rfl _ rfl (u 6) (by kernel_rfl) (hK' _ _ ?_))
        exact hK _ _ ((V4_p (by omega)).2 h6) hR (Ext.rf _)
      · have h6 := (V4_q (by omega)).1 (hD 13 (depIn (by kernel_rfl)))
        refine wpOp_step rfl (fun K' hK' => step_assign rfl _ rfl (u 13) (by kernel_rfl) (hK' _ _ ?_))
        exact hK _ _ ((V4_q (by omega)).2 h6) hR (Ext.rf _)
    · intro u w2 hR hV
      obtain ⟨A1, c1, k1, o1⟩ := (V4_p (by omega)).1 (hV (14, some 9) (by simp))
      obtain ⟨A2, c2, k2, o2⟩ := (V4_q (by omega)).1 (hV (15, some 10) (by simp))
      simp only [putAll]
      go_simp
      go_wp2_with fail
      go_meet
      exact ⟨A1, c1, A2, c2, by first | rfl | exact k1, by first | rfl | exact k2, o1, o2, hR⟩
  case rest =>
    obtain ⟨A1, c1, A2, c2, rfl, rfl, o1, o2, x2⟩ := hcut
    clear hp hq ip iq ep eq lpc lqd kp kq lp' lq' lx ly
    have E1 := e1.tr x2
    have s01 := e1.size
    clear e1
    have s12 := x2.size
    go_wp2_with (first
      | (at_builtin; refine wpl_copy_i _ rfl _ _ rfl wc.heap.size _ ps A1 c1 rfl rfl ?_ ?_ ?_ ?_ ?_; (first | exact .new (by simp) | exact .drew (.new (by simp)) | exact .alloc (.new (by simp)) _ | exact .drew (.alloc (.new (by simp)) _) | exact .alloc (.alloc (.new (by simp)) _) _ | exact .drew (.alloc (.alloc (.new (by simp)) _) _) | (repeat (first | assumption | (refine Blk.new ?_; (focus (simp; done))) | apply Blk.drew | apply Blk.drewN | apply Blk.alloc))); (first | exact Nat.le_refl _ | omega | (focus (simp; try omega))); (exact o1.read.ext ((Ext.rf _).alloc _)); omega; rintro A3 c3 w3 o3 x3; replace x3 := Ext.tr (a := wc) (by (repeat (first | assumption | exact Ext.rf _ | apply Ext.drew | apply Ext.drewN | apply Ext.alloc))) x3; have s3 := x3.size)
      | (at_builtin; refine wpl_copy_i _ rfl _ _ rfl wc.heap.size _ qs A2 c2 rfl rfl ?_ ?_ ?_ ?_ ?_; (first | exact .new (by simp) | exact .drew (.new (by simp)) | exact .alloc (.new (by simp)) _ | exact .drew (.alloc (.new (by simp)) _) | exact .alloc (.alloc (.new (by simp)) _) _ | exact .drew (.alloc (.alloc (.new (by simp)) _) _) | (repeat (first | assumption | (refine Blk.new ?_; (focus (simp; done))) | apply Blk.drew | apply Blk.drewN | apply Blk.alloc))); (first | exact Nat.le_refl _ | omega | (focus (simp; try omega))); (exact o2.read.ext (x3.alloc _)); omega; rintro A4 c4 w4 o4 x4; have x34 := Ext.tr (a := w3) (by (repeat (first | assumption | exact Ext.rf _ | apply Ext.drew | apply Ext.drewN | apply Ext.alloc))) x4; replace x4 := Ext.tr (a := wc) (by (repeat (first | assumption | exact Ext.rf _ | apply Ext.drew | apply Ext.drewN | apply Ext.alloc))) x4; have s4 := x4.size))
    have T1 : TapeRep 36 (w4.alloc (.cells #[.slice A3 ps.length c3, .slice A4 qs.length c4, .int .i64 0, .int .i64 0] 36)) wc.heap.size w4.heap.size ps qs 0 0 :=
      ⟨A3, c3, A4, c4, .new rfl, s4, (o3.ext x34).ext ((Ext.rf _).alloc _), o4.ext ((Ext.rf _).alloc _)⟩
    have x5 := x4.alloc (.cells #[.slice A3 ps.length c3, .slice A4 qs.length c4, .int .i64 0, .int .i64 0] 36)
    clear o3 o4 x3 x34 x4
    refine (tapeNew A1 A2 _ _ ps qs _ (by exact o1.read.ext x5) (by exact o2.read.ext x5) (by omega) (by omega)).mono ?_
    rintro e w6 ⟨g, rfl, T2, x6⟩
    replace T1 := T1.ext x6
    replace T2 := T2.more (base' := wc.heap.size) x5.size
    replace x6 := x5.tr x6
    have g1lt := T1.lt
    have hcap : ps.length ≤ 50 := lp
    have hbl : ∀ k, bl A1 = some k → k < wc.heap.size ∧ w1.heap.size ≤ k := fun k hk => by
      have h1 := o1.lt k hk
      exact ⟨h1.2, h1.1⟩
    replace o1 := o1.ext x6
    have E6 := E1.tr x6
    go_wp2_with fail
    go_loopw [13] (fun i wr => ∃ (k : Nat) (xs' : List Int), k ≤ ps.length ∧ i = .int .i64 k ∧ xs'.length = ps.length ∧ OwI wr w1.heap.size A1 c1 xs' ∧ TapeRep 36 wr wc.heap.size w4.heap.size ps qs 0 0 ∧ TapeRep 89 wr wc.heap.size g ps qs 0 0 ∧ Ext w wr) (fun i _ => ps.length - (intOf i).toNat)
    case atStart => exact ⟨0, ps, by omega, rfl, rfl, o1, T1, T2, E6⟩
    case round =>
      obtain ⟨k, xs', hk, rfl, hlen, ho, t1, t2, he⟩ := hrel
      by_cases hlt : k < ps.length
      · obtain ⟨ga, x, rfl, hga, hgl, hca, hfa, hxa, hsa⟩ := ho.at (k := k) (by omega)
        have hl2 := hbl ga rfl
        replace hlen := Lib.hid hlen
        replace ho := Lib.hid ho
        go_wp2
        go_roundw
        case rel =>
          have hm : ∀ u, Mod (fun j => j = ga) wr (wr.setCell ⟨ga, k, none⟩ u) := fun u => Mod.set (S := fun j => j = ga) (p := ⟨ga, k, none⟩) (Mod.rf wr) (.inl rfl) u
          exact ⟨k + 1, _, by omega, by go_num, by rw [List.length_set]; exact hlen.out, hsa.out _, t1.modLow (hm _) (fun j hj => by omega), t2.modLow (hm _) (fun j hj => by omega), he.setNew (p := ⟨ga, k, none⟩) (by show w.heap.size ≤ ga; omega) _⟩
        case measure => simp [intOf]; omega
      · clear ho hlen
        clear o1 T1 T2 hbl x6 o2 x5
        go_wp2_with fail
        go_loopw [14] (fun i wr => ∃ (I P Q : Nat), I ≤ zs.length ∧ I ≤ 60 ∧ P + Q ≤ I ∧ i = .int .i64 I ∧ TapeRep 36 wr wc.heap.size w4.heap.size ps qs P Q ∧ TapeRep 89 wr wc.heap.size g ps qs P Q ∧ Ext w wr) (fun i _ => zs.length - (intOf i).toNat)
        case atStart => exact ⟨0, 0, 0, by omega, by omega, by omega, rfl, t1, t2, he⟩
        case round =>
          obtain ⟨I, P, Q, hI1, hI2, hPQ, rfl, t1, t2, he⟩ := hrel
          have hg : ∀ j, j < w.heap.size → ¬ j = g := fun j hj e => by have := t2.ge; have := E1.size; omega
          have hg4 : ∀ j, j < w.heap.size → ¬ j = w4.heap.size := fun j hj e => by omega
          replace hg := Lib.hid hg
          replace hg4 := Lib.hid hg4
          have hP60 : P ≤ 2 ^ 60 := by omega
          have hQ60 : Q ≤ 2 ^ 60 := by omega
          have hp60 : ps.length ≤ 2 ^ 60 := by omega
          have hq60 : qs.length ≤ 2 ^ 60 := by omega
          replace t1 := Lib.hid t1
          replace t2 := Lib.hid t2
          by_cases hI : I < zs.length
          · by_cases hI6 : I < 60
            · obtain ⟨bz, oz, n, rfl, _, cz, gz, _⟩ := (hz.ext he).at hI
              have hn := iz.get gz.out
              by_cases hn1 : n < 1
              · cases hpar : ((I : Int) % 2 == 0) with
                | true =>
                  have hpar2 : ((I : Int) % 2 == 1) = false := by simp at hpar ⊢; omega
                  go_wp2_with (first
                    | (go_at_call 21; refine (pick_low _ _ _ hn1).mono ?_; rintro e w' ⟨rfl, rfl⟩)
                    | (go_at_call 24; refine (rpick_low _ _ _ hn1).mono ?_; rintro e w' ⟨rfl, rfl⟩))
                  refine (used_any g wc.heap.size ps qs P Q _ (by exact t2.out)).mono ?_
                  rintro e w7 ⟨rfl, x7⟩
                  obtain ⟨b2, b3⟩ := (t1.out.ext x7).counts
                  go_wp2_with fail
                  go_roundw
                  case rel => exact ⟨I + 1, P, Q, by omega, by omega, by omega, by go_num, t1.out.ext x7, t2.out.ext x7, he.tr x7⟩
                  case measure => simp [intOf]; omega
                | false =>
                  have hpar2 : ((I : Int) % 2 == 1) = true := by simp at hpar ⊢; omega
                  go_wp2_with (first
                    | (go_at_call 22; refine (draw_low _ _ _ hn1).mono ?_; rintro e w' ⟨rfl, rfl⟩)
                    | (go_at_call 25; refine (rdraw_low _ _ _ hn1).mono ?_; rintro e w' ⟨rfl, rfl⟩))
                  refine (used_any g wc.heap.size ps qs P Q _ (by exact t2.out)).mono ?_
                  rintro e w7 ⟨rfl, x7⟩
                  obtain ⟨b2, b3⟩ := (t1.out.ext x7).counts
                  go_wp2_with fail
                  go_roundw
                  case rel => exact ⟨I + 1, P, Q, by omega, by omega, by omega, by go_num, t1.out.ext x7, t2.out.ext x7, he.tr x7⟩
                  case measure => simp [intOf]; omega
              · have hn2 : 1 ≤ n := by omega
                cases hpar : ((I : Int) % 2 == 0) with
                | true =>
                  have hpar2 : ((I : Int) % 2 == 1) = false := by simp at hpar ⊢; omega
                  go_wp2_with fail
                  refine (pick_any g wc.heap.size ps qs P Q n _ (by exact t2.out) ⟨hn2, hn.2⟩ hP60 hp60).mono ?_
                  rintro e w7 ⟨rfl, t2', m7⟩
                  have t1' := t1.out.mod t2.out (by decide) (by decide) m7
                  have he7 := he.mod m7 hg.out
                  replace t2' := Lib.hid t2'
                  replace t1' := Lib.hid t1'
                  clear m7
                  go_wp2_with fail
                  refine (rpick_any w4.heap.size wc.heap.size ps qs P Q n _ (by exact t1'.out) ⟨hn2, hn.2⟩ hP60 hp60).mono ?_
                  rintro e w8 ⟨rfl, t1'', m8⟩
                  have t2'' := t2'.out.mod t1'.out (by decide) (by decide) m8
                  have he8 := he7.mod m8 hg4.out
                  replace t2'' := Lib.hid t2''
                  replace t1'' := Lib.hid t1''
                  clear m8 t1' t2' t1 t2
                  go_wp2_with fail
                  refine (used_any g wc.heap.size ps qs (P + 1) Q _ (by exact t2''.out)).mono ?_
                  rintro e w9 ⟨rfl, x9⟩
                  obtain ⟨b2, b3⟩ := (t1''.out.ext x9).counts
                  go_wp2_with fail
                  go_roundw
                  case rel => exact ⟨I + 1, P + 1, Q, by omega, by omega, by omega, by go_num, t1''.out.ext x9, t2''.out.ext x9, he8.tr x9⟩
                  case measure => simp [intOf]; omega
                | false =>
                  have hpar2 : ((I : Int) % 2 == 1) = true := by simp at hpar ⊢; omega
                  go_wp2_with fail
                  refine (draw_any g wc.heap.size ps qs P Q n _ (by exact t2.out) ⟨hn2, hn.2⟩ hQ60 hq60).mono ?_
                  rintro e w7 ⟨rfl, t2', m7⟩
                  have t1' := t1.out.mod t2.out (by decide) (by decide) m7
                  have he7 := he.mod m7 hg.out
                  replace t2' := Lib.hid t2'
                  replace t1' := Lib.hid t1'
                  clear m7
                  go_wp2_with fail
                  refine (rdraw_any w4.heap.size wc.heap.size ps qs P Q n _ (by exact t1'.out) ⟨hn2, hn.2⟩ hQ60 hq60).mono ?_
                  rintro e w8 ⟨rfl, t1'', m8⟩
                  have t2'' := t2'.out.mod t1'.out (by decide) (by decide) m8
                  have he8 := he7.mod m8 hg4.out
                  replace t2'' := Lib.hid t2''
                  replace t1'' := Lib.hid t1''
                  clear m8 t1' t2' t1 t2
                  go_wp2_with fail
                  refine (used_any g wc.heap.size ps qs P (Q + 1) _ (by exact t2''.out)).mono ?_
                  rintro e w9 ⟨rfl, x9⟩
                  obtain ⟨b2, b3⟩ := (t1''.out.ext x9).counts
                  go_wp2_with fail
                  go_roundw
                  case rel => exact ⟨I + 1, P, Q + 1, by omega, by omega, by omega, by go_num, t1''.out.ext x9, t2''.out.ext x9, he8.tr x9⟩
                  case measure => simp [intOf]; omega
            · go_wp2_with fail
              go_ret
              exact ⟨rfl, he⟩
          · go_wp2_with fail
            go_ret
            exact ⟨rfl, he⟩

set_option maxRecDepth 100000 in
theorem lifted (os : Os) (started : os.Started) (H : Type) (enc : TypeId × Value → H) :
    ReturnsInHanded {} Try.checked os 5 .any (Rows.tapeTellsSpec.pre6 enc Try.prog Try.f5 Rows.tapeTellsRow.domain false) (Rows.tapeTellsSpec.post enc Try.prog Try.f5 false true false false) := by
  refine returnsInHanded_of_change (C := Try.checked) own started (by kernel_rfl) Try.func5
    (ChangeSpec.witness6 (enc := enc) (C := Try.checked) false ⟨#[], #[.slice none 0 0, .slice none 0 0, .slice none 0 0], []⟩ 8 (by kernel_rfl) (by kernel_rfl) (by kernel_rfl) (by kernel_rfl)) ?_
  intro W base args ds gs before hval0 hW _ _
  have hval : ∀ (j : Nat) t v, Try.f5.params[j]? = some t → args[j]? = some v → Value.okWide Try.prog W .any base t v := hval0
  have hW' := hW
  obtain ⟨p, q, hA0, hV, rfl, hfz, hnd⟩ := hW
  have hA : DataW.TrodAll enc Try.prog W 0 (fun _ => true) true Try.f5.params.toList args.toList ds p := hA0
  rw [Try.params5] at hA hval
  obtain ⟨v0, vs0, d0, ds0, p0, q0, hargs, rfl, rfl, h0, r0⟩ := trodAll_cons hA
  obtain ⟨v1, vs1, d1, ds1, p1, q1, rfl, rfl, rfl, h1, r1⟩ := trodAll_cons r0
  obtain ⟨v2, vs2, d2, ds2, p2, q2, rfl, rfl, rfl, h2, r2⟩ := trodAll_cons r1
  obtain ⟨rfl, rfl, rfl⟩ := trodAll_nil r2
  obtain rfl : args = #[v0, v1, v2] := by cases args; simp_all
  obtain ⟨rfl, rfl⟩ := trodVars_none hV
  obtain ⟨A0, x0, c0, rfl, hx0, ix0, lx0, lc0⟩ := open_RdI h0 (hval 0 _ v0 rfl rfl)
  obtain ⟨A1, x1, c1, rfl, hx1, ix1, lx1, lc1⟩ := open_RdI h1 (hval 1 _ v1 rfl rfl)
  obtain ⟨A2, x2, c2, rfl, hx2, ix2, lx2, lc2⟩ := open_RdI h2 (hval 2 _ v2 rfl rfl)
  refine (walk A0 c0 x0 A1 c1 x1 A2 c2 x2 W hx0 ix0 lx0 lc0 hx1 ix1 lx1 lc1 hx2 ix2 lx2 lc2).mono fun e W' ⟨he, hg⟩ => ?_
  subst he
  exact ⟨_, rfl, post_law hW' rfl rfl rfl rfl rfl (readable_of (by kernel_rfl)) hg⟩

theorem proved : Rows.TapeTellsSaid :=
  OpenClaim.holds_of_wide 5 Try.f5 rfl rfl rfl rfl rfl rfl rfl ⟨rfl, rfl, rfl, rfl, rfl⟩ rfl rfl rfl rfl rfl (by kernel_rfl) Try.func5 (by kernel_rfl)
    (of_decide_eq_true (by kernel_rfl)) (by unfold Func.isWrapper; first | (rw [if_pos (by decide +kernel)]; kernel_rfl) | (rw [if_neg (by decide +kernel)]; exact ⟨rfl, rfl⟩))
    (fun os started H enc _ => lifted os started H enc)
end Go.Proofs.Ythmjeajfchpdoaa.tapeTells
