/-
  MoundJobs: in every row of calls a mound answers what the chapter says. No condition.
-/
import Derived.Test.YthmjeajfchpdoaaRefE
namespace Go.Proofs.Ythmjeajfchpdoaa.moundJobs
open Go.RowKit Go.ChangeShapes Go.WideShapes Go.ChangeAt

theorem keepI {base : Nat} {ts : List TypeId} {W W' : World} (M : ModT base ts W W') {b o : Nat} {v : Value} (hb : b < base) (hc : W.cell? ⟨b, o, none⟩ = some v) : W'.cell? ⟨b, o, none⟩ = some v := by
  rw [← hc]
  exact World.cell?_of_block (M.block b (World.block_lt_of_cell? W _ hc) fun hs => by have := hs.1; omega)

set_option maxRecDepth 100000 in
set_option maxHeartbeats 4000000 in
theorem walk (lv : Int) (A : Option Addr) (c : Nat) (xs : List JobP) (w : World) (_blv : -9223372036854775808 ≤ lv ∧ lv ≤ 9223372036854775807) (hx : RdE 4 RJob w A xs) (lx : xs.length ≤ c) (lc : c ≤ maxLen) :
    Calls Try.prog 10 #[.int .i64 lv, .slice A xs.length c] w fun e w' => e = .returned (.bool true) ∧ Ext w w' := by
  unfold maxLen at lc
  have hm := modu_bd (x := lv) (n := 6) (by omega)
  unfold modu at hm
  go_enter Try.func10, Try.ntmps10
  go_wp2_with (go_at_call 43; refine (none19 _).mono ?_; rintro e w' ⟨rfl, rfl⟩)
  refine (min_none _).mono ?_
  rintro e w1 ⟨rfl, x1⟩
  go_wp2_with (go_at_call 43; refine (none19 _).mono ?_; rintro e w' ⟨rfl, rfl⟩)
  refine (pop_none _).mono ?_
  rintro e w2 ⟨rfl, x2⟩
  have X2 := (x1.alloc _).tr x2
  clear x1 x2
  go_wp2_with (fail)
  refine (new_no 0 _ (.inl (by omega))).mono ?_
  rintro e w' ⟨rfl, rfl⟩
  go_wp2_with (fail)
  refine (new_no 7 _ (.inr (by omega))).mono ?_
  rintro e w' ⟨rfl, rfl⟩
  go_wp2_with (fail)
  refine (mounds_any _).mono ?_
  rintro e w3 ⟨rfl, x3⟩
  have X3 := (X2.alloc _).tr x3
  clear X2 x3
  go_wp2_with (first
    | (go_at_call 43; refine (none19 _).mono ?_; rintro e w' ⟨rfl, rfl⟩)
    | (go_at_call 40; refine (insert_none (0, 0) none 0 0 _).mono ?_; rintro e w4 ⟨rfl, x4⟩)
    | (go_at_call 41; refine (size_none _).mono ?_; rintro e w' ⟨rfl, rfl⟩)
    | (go_at_call 44; refine (lists_none _).mono ?_; rintro e w' ⟨rfl, rfl⟩))
  have X4 := X3.tr x4
  clear X3 x4
  generalize (IntKind.u64.wrap lv).tmod 6 = t at *
  generalize IntKind.u64.wrap lv = uw at *
  obtain ⟨q, rfl⟩ := Int.eq_ofNat_of_zero_le hm.1
  obtain ⟨n, hn, n1, n32⟩ := depth_cases (lv := 1 + q) (by omega) (by omega)
  have K := fun W => new_yes (1 + q) W (by omega) (by omega)
  have KQ := fun W => rnew_any (1 + q) W (by omega)
  rw [show ((1 + q : Nat) : Int) = 1 + (q : Int) from by omega, hn] at K KQ
  replace KQ := Lib.hid KQ
  refine (K _).mono ?_
  rintro e w5 ⟨g, rfl, R5, x5⟩
  clear K hn hm
  go_wp2_with (fail)
  refine (KQ.out _).mono ?_
  rintro e w6 ⟨g2, rfl, Q6, x6⟩
  have R6 := R5.ext x6
  have X6 := X4.tr (x5.tr x6)
  have hb4 : w.heap.size ≤ w4.heap.size := X4.size
  have x5s : w4.heap.size ≤ w5.heap.size := x5.size
  have hb5 : w.heap.size ≤ w5.heap.size := (X4.tr x5).size
  clear R5 KQ x5 x6 X4
  go_wp2_with (fail)
  go_loopw [15] (fun i wr => ∃ (k : Nat) (ls : Ls) (sz : Int), i = .int .i64 k ∧ k ≤ xs.length ∧ k ≤ 60 ∧ Hid (Kept ls sz n k) ∧ Hid (MoundRep wr w4.heap.size g ls sz) ∧ Hid (RefRep wr w5.heap.size g2 ls (1 + (q : Int))) ∧ Ext w wr) (fun i _ => 60 - (intOf i).toNat)
  case atStart => exact ⟨0, _, 0, rfl, by omega, by omega, Kept.start n, R6, Q6, X6⟩
  case round =>
    clear R6 Q6 X6
    obtain ⟨k, ls, sz, rfl, hk, hk60, hK, R, Q, X⟩ := hrel
    by_cases hlt : k < xs.length ∧ k < 60
    · obtain ⟨h1, h2⟩ := hlt
      obtain ⟨b, off, cs, j, rfl, hb, ⟨D, d, rfl, hd, id, ld, ld'⟩, _, hcs, _⟩ := (hx.ext X (fun cs j h => h.ext X)).at h1
      have c0 := hcs 0 _ rfl
      have c1 := hcs 1 _ rfl
      have c2 := hcs 2 _ rfl
      have c3 := hcs 3 _ rfl
      rw [Nat.add_zero] at c0
      clear hcs
      have hlen := hK.out.len
      have hl64 : ls.length ≤ 64 := by omega
      have hle := hK.out.le
      have hsz := hK.out.size
      have hlm : ∀ l ∈ ls, l.length ≤ 2 ^ 40 := fun l hl => Nat.le_trans (hK.out.lens l hl) (by omega)
      have Bj := Lib.hid (Blk.new (w := wr) (g := wr.heap.size) (t := 75) (cs := #[.int .i64 j.what, .int .i64 j.key, .int .i64 j.id, .slice D j.draws.length d]) rfl)
      by_cases hw : j.what = 1
      · have hw' : (j.what == 1) = true := by simpa using hw
        replace hw := Lib.hid hw
        obtain ⟨ps, hp, ip, lp, lp', kp, ep⟩ := cut_min 6 hd id
        simp only [Int.cast_ofNat_Int] at ep
        have lpd : ps.length ≤ d := by omega
        have hp := Lib.hid hp
        replace hd := Lib.hid hd
        replace id := Lib.hid id
        replace ip := Lib.hid ip
        go_wp2_with (at_builtin; refine wpl_copy_i _ rfl _ _ rfl w.heap.size _ ps D d rfl rfl ?_ ?_ ?_ ?_ ?_; (first | exact .new (by simp) | exact .drew (.new (by simp)) | exact .alloc (.new (by simp)) _ | exact .drew (.alloc (.new (by simp)) _) | exact .alloc (.alloc (.new (by simp)) _) _ | exact .drew (.alloc (.alloc (.new (by simp)) _) _) | (repeat (first | assumption | (refine Blk.new ?_; (focus (simp; done))) | apply Blk.drew | apply Blk.drewN | apply Blk.alloc))); (first | exact X.size | (simp; exact Nat.le_succ_of_le X.size) | (have := X.size; simp; omega)); (refine hp.out.ext ?_; (repeat (first | assumption | exact Ext.rf _ | apply Ext.drew | apply Ext.drewN | apply Ext.alloc))); omega; rintro A7 c7 w7 o7 x7; have y7 := Ext.tr (a := wr) (by (repeat (first | assumption | exact Ext.rf _ | apply Ext.drew | apply Ext.drewN | apply Ext.alloc))) x7; have B7 := Lib.hid (Bj.out.ext (Ext.tr (a := wr.alloc (.cells #[.int .i64 j.what, .int .i64 j.key, .int .i64 j.id, .slice D j.draws.length d] 75)) (by (repeat (first | assumption | exact Ext.rf _ | apply Ext.drew | apply Ext.drewN | apply Ext.alloc))) x7)))
        have b1 : w7.cell? ⟨wr.heap.size, 1, none⟩ = some (.int .i64 j.key) := B7.out.cell 1
        have b2 : w7.cell? ⟨wr.heap.size, 2, none⟩ = some (.int .i64 j.id) := B7.out.cell 2
        have zj := B7.out.lt
        have hc7 := o7.le
        have hX7 := X.tr y7
        replace hlm := Lib.hid hlm
        replace o7 := Lib.hid o7
        clear hp ep lp lp' kp hd id c0 c1 c2 c3 x7
        by_cases hz : leafP ls j.key ps = 0
        · have KI := fun W (h : Ext w7 W) => insert_no g w4.heap.size ls sz (j.key, j.id) A7 c7 ps n W (R.out.ext (y7.tr h)) hlen n1 n32 (o7.out.read.ext h) ip.out hc7.1 hc7.2 hz
          have KJ := fun W (h : Ext w7 W) => rinsert_no g2 w5.heap.size ls (1 + (q : Int)) (j.key, j.id) A7 c7 ps n W (Q.out.ext (y7.tr h)) hlen n1 n32 (o7.out.read.ext h) ip.out hc7.1 hc7.2 hz
          have KS := fun W (h : Ext w7 W) => same19_any g g2 w4.heap.size n k ls sz (1 + (q : Int)) W (R.out.ext (y7.tr h)) (by obtain ⟨h', q1, q2, q3, q4⟩ := Q.out.ext (y7.tr h); exact ⟨h', q1, Nat.le_trans x5s q2, Nat.le_trans x5s q3, q4⟩) hK.out n1 n32 hk60
          replace KI := Lib.hid KI
          replace KJ := Lib.hid KJ
          replace KS := Lib.hid KS
          replace hz := Lib.hid hz
          go_region_held3 (fun w' => w'.cell? ⟨wr.heap.size, 1, none⟩ = some (.int .i64 j.key) ∧ w'.cell? ⟨wr.heap.size, 2, none⟩ = some (.int .i64 j.id)) (go_keep)
            (first
              | (go_at_call 46; refine (to_any _ _ _).mono ?_; rintro e w8 ⟨rfl, x8⟩; have y8 := Ext.tr (a := w7) (by (repeat (first | assumption | exact Ext.rf _ | apply Ext.drew | apply Ext.drewN | apply Ext.alloc))) x8; have s1 := keepE y8 zj b1; have s2 := keepE y8 zj b2)
              | (go_at_call 40; refine (KI.out _ (by exact y8)).mono ?_; rintro e w9 ⟨rfl, x9⟩; have y9 := y8.tr x9; have s1 := keepE y9 zj b1; have s2 := keepE y9 zj b2)
              | (go_at_call 47; refine (KJ.out _ (by exact y9)).mono ?_; rintro e w10 ⟨rfl, x10⟩; have y10 := y9.tr x10; have s1 := keepE y10 zj b1; have s2 := keepE y10 zj b2))
          all_goals
            go_wp2_with (fail)
            refine (KS.out _ y10).mono ?_
            rintro e w11 ⟨rfl, x11⟩
            have Y := y7.tr (y10.tr x11)
            go_wp2_with (fail)
            go_roundw
            case rel => exact ⟨k + 1, ls, sz, by go_num, by omega, by omega, hK.out.more, R.out.ext Y, Q.out.ext Y, X.tr Y⟩
            case measure => simp [intOf]; omega
        · have hK' := hK.out.put (x := (j.key, j.id)) n1 hz
          have KI := fun W (h : Ext w7 W) => insert_yes g w4.heap.size ls sz (j.key, j.id) A7 c7 ps n W (R.out.ext (y7.tr h)) hlen n1 n32 (o7.out.read.ext h) ip.out hc7.1 hc7.2 hz (by omega) hlm.out
          have KJ := fun W (hq : RefRep W w5.heap.size g2 ls (1 + (q : Int))) (hr : RdI W A7 ps) => rinsert_yes g2 w5.heap.size ls (1 + (q : Int)) (j.key, j.id) A7 c7 ps n W hq hlen n1 n32 hr ip.out hc7.1 hc7.2 hz hlm.out hK.out.ord
          simp only at KI KJ hK'
          generalize ls.set (placeP ls j.key (leafP ls j.key ps)) ((j.key, j.id) :: ls.getD (placeP ls j.key (leafP ls j.key ps)) []) = ls' at *
          have KS := fun W r1 r2 => same19_any g g2 w4.heap.size n (k + 1) ls' (sz + 1) (1 + (q : Int)) W r1 r2 hK' n1 n32 (by omega)
          replace KI := Lib.hid KI
          replace KJ := Lib.hid KJ
          replace KS := Lib.hid KS
          replace hz := Lib.hid hz
          replace hK' := Lib.hid hK'
          go_region_held3 (fun w' => w'.cell? ⟨wr.heap.size, 1, none⟩ = some (.int .i64 j.key) ∧ w'.cell? ⟨wr.heap.size, 2, none⟩ = some (.int .i64 j.id)) (go_keep)
            (first
              | (go_at_call 46; refine (to_any _ _ _).mono ?_; rintro e w8 ⟨rfl, x8⟩; have y8 := Ext.tr (a := w7) (by (repeat (first | assumption | exact Ext.rf _ | apply Ext.drew | apply Ext.drewN | apply Ext.alloc))) x8; have s1 := keepE y8 zj b1; have s2 := keepE y8 zj b2)
              | (go_at_call 40; refine (KI.out _ (by exact y8)).mono ?_; rintro e w9 ⟨rfl, R9, M9⟩; have B9 := (B7.out.ext y8).modT M9 (by decide); have s1 : w9.cell? ⟨wr.heap.size, 1, none⟩ = some (.int .i64 j.key) := B9.cell 1; have s2 : w9.cell? ⟨wr.heap.size, 2, none⟩ = some (.int .i64 j.id) := B9.cell 2; have Q9 := (Q.out.ext (y7.tr y8)).modT M9 (by decide) (by decide) (by decide); have o9 := ((o7.out.ext y8).modT M9 (by decide)).read)
              | (go_at_call 47; refine (KJ.out _ (by exact Q9) (by exact o9)).mono ?_; rintro e w10 ⟨rfl, Q10, M10⟩; have B10 := B9.modT M10 (by decide); have s1 : w10.cell? ⟨wr.heap.size, 1, none⟩ = some (.int .i64 j.key) := B10.cell 1; have s2 : w10.cell? ⟨wr.heap.size, 2, none⟩ = some (.int .i64 j.id) := B10.cell 2))
          all_goals
            have R10 := R9.modT M10 (by decide) (by decide) (by decide)
            have X10 := ((hX7.tr y8).modT M9 hb4).modT M10 hb5
            clear M9 M10 B9 B10 R9 Q9 o9
            go_wp2_with (fail)
            refine (KS.out _ R10 (by obtain ⟨h', q1, q2, q3, q4⟩ := Q10; exact ⟨h', q1, Nat.le_trans x5s q2, Nat.le_trans x5s q3, q4⟩)).mono ?_
            rintro e w11 ⟨rfl, x11⟩
            have R11 := Lib.hid (R10.ext x11)
            have Q11 := Lib.hid (Q10.ext x11)
            clear R10 Q10
            go_wp2_with (fail)
            go_roundw
            case rel => exact ⟨k + 1, ls', sz + 1, by go_num, by omega, by omega, hK', R11, Q11, X10.tr x11⟩
            case measure => simp [intOf]; omega
      · have hw' : (j.what == 1) = false := by simpa using hw
        replace hw := Lib.hid hw
        clear hd id
        have Xj : Ext wr (wr.alloc (.cells #[.int .i64 j.what, .int .i64 j.key, .int .i64 j.id, .slice D j.draws.length d] 75)) := (Ext.rf _).alloc _
        replace hlm := Lib.hid hlm
        cases hr : ls.getD 1 [] with
        | nil =>
          have PI := fun W (h : Ext wr W) => pop_empty g w4.heap.size ls sz W (R.out.ext h) (by omega) hl64 hr
          have PJ := fun W (h : Ext wr W) => rpop_empty g2 w5.heap.size ls (1 + (q : Int)) W (Q.out.ext h) (by omega) hl64 hr
          have KS := fun W (h : Ext wr W) => same19_any g g2 w4.heap.size n k ls sz (1 + (q : Int)) W (R.out.ext h) (by obtain ⟨h', q1, q2, q3, q4⟩ := Q.out.ext h; exact ⟨h', q1, Nat.le_trans x5s q2, Nat.le_trans x5s q3, q4⟩) hK.out n1 n32 hk60
          replace PI := Lib.hid PI
          replace PJ := Lib.hid PJ
          replace KS := Lib.hid KS
          replace hr := Lib.hid hr
          go_wp2_with (fail)
          refine (PI.out _ Xj).mono ?_
          rintro e w8 ⟨rfl, x8⟩
          have y8 := Xj.tr x8
          go_wp2_with (fail)
          refine (PJ.out _ (y8.alloc _)).mono ?_
          rintro e w9 ⟨rfl, x9⟩
          have B9 : Blk w9 w8.heap.size 61 #[.int .i64 0, .int .i64 0] := Blk.ext (.new rfl) x9
          have c0 : w9.cell? ⟨w8.heap.size, 0, none⟩ = some (.int .i64 0) := B9.cell 0
          have c1 : w9.cell? ⟨w8.heap.size, 1, none⟩ = some (.int .i64 0) := B9.cell 1
          have z9 := B9.lt
          have y9 := (y8.alloc (.cells #[.int .i64 0, .int .i64 0] 61)).tr x9
          clear x8 x9 B9
          go_wp2_with (fail)
          refine (KS.out _ (y9.alloc _)).mono ?_
          rintro e w11 ⟨rfl, x11⟩
          have Y := (y9.alloc (.cells #[.int .i64 0, .int .i64 0] 73)).tr x11
          go_wp2_with (fail)
          go_roundw
          case rel => exact ⟨k + 1, ls, sz, by go_num, by omega, by omega, hK.out.more, R.out.ext Y, Q.out.ext Y, X.tr Y⟩
          case measure => simp [intOf]; omega
        | cons p l =>
          have hK' := hK.out.pop n1 hr
          have hlp : l.length ≤ 2 ^ 40 := by
            have h1lt : 1 < ls.length := by omega
            have := List.getElem?_eq_getElem h1lt
            have hm1 := List.getElem_mem h1lt
            rw [← getD_nil this, hr] at hm1
            have := hlm.out _ hm1
            simp at this
            omega
          have PI := fun W (h : Ext wr W) => pop_any g w4.heap.size n ls sz p l W (R.out.ext h) hlen n1 n32 hr (by omega)
          have PJ := fun W (hq : RefRep W w5.heap.size g2 ls (1 + (q : Int))) => rpop_any g2 w5.heap.size n ls (1 + (q : Int)) p l W hq hlen n1 n32 hr hlp
          generalize sinkP (2 * n) (ls.set 1 l) 1 = ls' at *
          have KS := fun W r1 r2 => same19_any g g2 w4.heap.size n k ls' (sz - 1) (1 + (q : Int)) W r1 r2 hK' n1 n32 hk60
          replace PI := Lib.hid PI
          replace PJ := Lib.hid PJ
          replace KS := Lib.hid KS
          replace hr := Lib.hid hr
          replace hK' := Lib.hid hK'
          go_wp2_with (fail)
          refine (PI.out _ Xj).mono ?_
          rintro e w8 ⟨rfl, R8, M8⟩
          have Q8 := (Q.out.ext Xj).modT M8 (by decide) (by decide) (by decide)
          have X8 := (X.tr Xj).modT M8 hb4
          replace R8 := Lib.hid R8
          clear M8
          go_wp2_with (fail)
          refine (PJ.out _ (Q8.ext ((Ext.rf _).alloc _))).mono ?_
          rintro e w9 ⟨rfl, Q9, M9⟩
          have B9 : Blk w9 w8.heap.size 61 #[.int .i64 p.1, .int .i64 p.2] := Blk.modT (.new rfl) M9 (by decide)
          have c0 : w9.cell? ⟨w8.heap.size, 0, none⟩ = some (.int .i64 p.1) := B9.cell 0
          have c1 : w9.cell? ⟨w8.heap.size, 1, none⟩ = some (.int .i64 p.2) := B9.cell 1
          have z9 := B9.lt
          have R9 := (R8.out.ext ((Ext.rf _).alloc (.cells #[.int .i64 p.1, .int .i64 p.2] 61))).modT M9 (by decide) (by decide) (by decide)
          have X9 := (X8.alloc (.cells #[.int .i64 p.1, .int .i64 p.2] 61)).modT M9 hb5
          replace R9 := Lib.hid R9
          replace Q9 := Lib.hid Q9
          clear M9 B9 Q8 R8
          go_wp2_with (fail)
          have R10 := R9.out.ext ((Ext.rf _).alloc (.cells #[.int .i64 p.1, .int .i64 p.2] 73))
          have Q10 := Q9.out.ext ((Ext.rf _).alloc (.cells #[.int .i64 p.1, .int .i64 p.2] 73))
          refine (KS.out _ R10 (by obtain ⟨h', q1, q2, q3, q4⟩ := Q10; exact ⟨h', q1, Nat.le_trans x5s q2, Nat.le_trans x5s q3, q4⟩)).mono ?_
          rintro e w11 ⟨rfl, x11⟩
          have R11 := Lib.hid (R10.ext x11)
          have Q11 := Lib.hid (Q10.ext x11)
          have X11 := (X9.alloc (.cells #[.int .i64 p.1, .int .i64 p.2] 73)).tr x11
          clear R10 Q10 x11
          go_wp2_with (fail)
          go_roundw
          case rel => exact ⟨k + 1, ls', sz - 1, by go_num, by omega, by omega, hK'.out.more, R11, Q11, X11⟩
          case measure => simp [intOf]; omega
    · by_cases h1 : k < xs.length
      · have h2 : ¬ k < 60 := by omega
        go_wp2
        go_ret
        exact ⟨rfl, X⟩
      · go_wp2
        go_ret
        exact ⟨rfl, X⟩

set_option maxRecDepth 100000 in
theorem lifted (os : Os) (started : os.Started) (H : Type) (enc : TypeId × Value → H) :
    ReturnsInHanded {} Try.checked os 10 .any (Rows.moundJobsSpec.pre6 enc Try.prog Try.f10 Rows.moundJobsRow.domain false) (Rows.moundJobsSpec.post enc Try.prog Try.f10 false true false false) := by
  refine returnsInHanded_of_change (C := Try.checked) own started (by kernel_rfl) Try.func10
    (ChangeSpec.witness6 (enc := enc) (C := Try.checked) false ⟨#[], #[.int .i64 0, .slice none 0 0], []⟩ 8 (by kernel_rfl) (by kernel_rfl) (by kernel_rfl) (by kernel_rfl)) ?_
  intro W base args ds gs before hval0 hW _ _
  have hval : ∀ (j : Nat) t v, Try.f10.params[j]? = some t → args[j]? = some v → Value.okWide Try.prog W .any base t v := hval0
  have hW' := hW
  obtain ⟨p, q, hA0, hV, rfl, hfz, hnd⟩ := hW
  have hA : DataW.TrodAll enc Try.prog W 0 (fun _ => true) true Try.f10.params.toList args.toList ds p := hA0
  rw [Try.params10] at hA hval
  obtain ⟨v0, vs0, d0, ds0, p0, q0, hargs, rfl, rfl, h0, r0⟩ := trodAll_cons hA
  obtain ⟨v1, vs1, d1, ds1, p1, q1, rfl, rfl, rfl, h1, r1⟩ := trodAll_cons r0
  obtain ⟨rfl, rfl, rfl⟩ := trodAll_nil r1
  obtain rfl : args = #[v0, v1] := by cases args; simp_all
  obtain ⟨rfl, rfl⟩ := trodVars_none hV
  obtain ⟨x0, rfl, rfl, rfl, w0⟩ := open_int Try.underlying3 (hval 0 _ v0 rfl rfl) h0
  obtain ⟨A1, x1, c1, rfl, hx1, lx1, lc1⟩ := open_RdJob h1 (hval 1 _ v1 rfl rfl)
  refine (walk x0 A1 c1 x1 W (int_bd w0) hx1 lx1 lc1).mono fun e W' ⟨he, hg⟩ => ?_
  subst he
  exact ⟨_, rfl, post_law hW' rfl rfl rfl rfl rfl (readable_of (by kernel_rfl)) hg⟩

theorem proved : Rows.MoundJobsSaid :=
  OpenClaim.holds_of_wide 10 Try.f10 rfl rfl rfl rfl rfl rfl rfl ⟨rfl, rfl, rfl, rfl, rfl⟩ rfl rfl rfl rfl rfl (by kernel_rfl) Try.func10 (by kernel_rfl)
    (of_decide_eq_true (by kernel_rfl)) (by unfold Func.isWrapper; first | (rw [if_pos (by decide +kernel)]; kernel_rfl) | (rw [if_neg (by decide +kernel)]; exact ⟨rfl, rfl⟩))
    (fun os started H enc _ => lifted os started H enc)
end Go.Proofs.Ythmjeajfchpdoaa.moundJobs
