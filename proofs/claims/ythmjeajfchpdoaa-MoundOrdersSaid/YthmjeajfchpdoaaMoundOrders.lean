/-
  MoundOrders: behind every row of calls each list rises, no place's value is above one beneath, and Min is the least of all. No condition.
-/
import Derived.Test.YthmjeajfchpdoaaMoundO
namespace Go.Proofs.Ythmjeajfchpdoaa.moundOrders
open Go.RowKit Go.ChangeShapes Go.WideShapes Go.ChangeAt

theorem insAny (g base n k : Nat) (ls : Ls) (sz : Int) (x : It) (D : Option Addr) (d : Nat) (ds : List Int) (W : World) (R : MoundRep W base g ls sz) (hK : Kept ls sz n k) (h1 : 1 ≤ n) (h32 : n ≤ 32) (hk : k ≤ 60)
    (hd : RdI W D ds) (id : Ints ds) (ld : ds.length ≤ d) (ld' : d ≤ maxLen) :
    Calls Try.prog 40 #[.pointer (some ⟨g, 0, none⟩), .agg #[.int .i64 x.1, .int .i64 x.2], .slice D ds.length d] W fun e w' => ∃ (b : Bool) (ls' : Ls) (sz' : Int), e = .returned (.bool b) ∧ MoundRep w' base g ls' sz' ∧ Kept ls' sz' n (k + 1) ∧ ModT base TS W w' := by
  by_cases hz : leafP ls x.1 ds = 0
  · exact (insert_no g base ls sz x D d ds n W R hK.len h1 h32 hd id ld ld' hz).mono fun e w' ⟨he, hx⟩ => ⟨false, ls, sz, he, R.ext hx, hK.more, ModT.of_ext hx⟩
  · have hl := hK.le
    have hs := hK.size
    exact (insert_yes g base ls sz x D d ds n W R hK.len h1 h32 hd id ld ld' hz (by omega) (fun l hl => Nat.le_trans (hK.lens l hl) (by omega))).mono fun e w' ⟨he, hr, hm⟩ => ⟨true, _, _, he, hr, hK.put h1 hz, hm⟩
theorem popAny (g base n k : Nat) (ls : Ls) (sz : Int) (W : World) (R : MoundRep W base g ls sz) (hK : Kept ls sz n k) (h1 : 1 ≤ n) (h32 : n ≤ 32) (hk : k ≤ 60) :
    Calls Try.prog 42 #[.pointer (some ⟨g, 0, none⟩)] W fun e w' => ∃ (x : It) (b : Bool) (ls' : Ls) (sz' : Int), e = .returned (.tuple #[.agg #[.int .i64 x.1, .int .i64 x.2], .bool b]) ∧ MoundRep w' base g ls' sz' ∧ Kept ls' sz' n k ∧ ModT base TS W w' := by
  have hlen := hK.len
  cases hr : ls.getD 1 [] with
  | nil => exact (pop_empty g base ls sz W R (by omega) (by omega) hr).mono fun e w' ⟨he, hx⟩ => ⟨(0, 0), false, ls, sz, he, R.ext hx, hK, ModT.of_ext hx⟩
  | cons p l =>
    have hl := hK.le
    have hs := hK.size
    exact (pop_any g base n ls sz p l W R hK.len h1 h32 hr (by omega)).mono fun e w' ⟨he, hx, hm⟩ => ⟨p, true, _, _, he, hx, hK.pop h1 hr, hm⟩

theorem keepI {base : Nat} {W W' : World} (M : ModT base TS W W') {b o : Nat} {v : Value} (hb : b < base) (hc : W.cell? ⟨b, o, none⟩ = some v) : W'.cell? ⟨b, o, none⟩ = some v := by
  rw [← hc]
  exact World.cell?_of_block (M.block b (World.block_lt_of_cell? W _ hc) fun hs => by have := hs.1; omega)
theorem keepE {W W' : World} (x : Ext W W') {b o : Nat} {v : Value} (hb : b < W.heap.size) (hc : W.cell? ⟨b, o, none⟩ = some v) : W'.cell? ⟨b, o, none⟩ = some v := (x.cells.1 _ o hb).trans hc

/-- what the law asks of the lists, told of their copies -/
theorem kept_facts {ls : Ls} {sz : Int} {n k : Nat} (h : Kept ls sz n k) : ∀ (i : Nat) (l : List It), (ls.drop 1)[i]? = some l →
    l.length ≤ k ∧ (∀ (j : Nat) (p : It), l[j]? = some p → (minP ls).2 = true ∧ (minP ls).1.1 ≤ p.1) ∧ (∀ (j : Nat) (p q : It), l[j]? = some p → l[j + 1]? = some q → p.1 ≤ q.1) ∧
    (∀ (p : It) (r : List It), 1 ≤ i → l = p :: r → ∃ (q : It) (s : List It), (ls.drop 1)[(i + 1) / 2 - 1]? = some (q :: s) ∧ q.1 ≤ p.1) := by
  intro i l hl
  rw [List.getElem?_drop] at hl
  have hg := getD_nil hl
  have hs := h.ord.sorted (1 + i)
  rw [hg] at hs
  refine ⟨h.lens l (List.mem_of_getElem? hl), fun j p hp => ?_, fun j p q hp hq => ?_, fun p r hi hpr => ?_⟩
  · have hm : p ∈ allP ls := List.mem_flatten.2 ⟨l, List.mem_of_getElem? hl, List.mem_of_getElem? hp⟩
    obtain ⟨q, s, hq, hle⟩ := h.ord.least hm
    unfold minP
    rw [hq]
    exact ⟨rfl, hle⟩
  · have := List.pairwise_iff_getElem.1 hs j (j + 1) (List.getElem?_eq_some_iff.1 hp).1 (List.getElem?_eq_some_iff.1 hq).1 (by omega)
    rw [(List.getElem?_eq_some_iff.1 hp).2, (List.getElem?_eq_some_iff.1 hq).2] at this
    exact this
  · have hh := h.ord.heap (1 + i) (by omega)
    rw [hg, hpr] at hh
    have hi2 : (1 + i) / 2 = 1 + ((i + 1) / 2 - 1) := by omega
    cases hu : ls.getD ((1 + i) / 2) [] with
    | nil => rw [hu] at hh; simp [leL] at hh
    | cons q s =>
      rw [hu] at hh
      refine ⟨q, s, ?_, hh⟩
      rw [List.getElem?_drop, ← hi2]
      rw [List.getD_eq_getElem?_getD] at hu
      cases hx : ls[(1 + i) / 2]? with
      | none => rw [hx] at hu; cases hu
      | some y => rw [hx] at hu; exact congrArg some hu

set_option maxRecDepth 100000 in
set_option maxHeartbeats 2000000 in
theorem walk (lv : Int) (A : Option Addr) (c : Nat) (xs : List JobP) (w : World) (_blv : -9223372036854775808 ≤ lv ∧ lv ≤ 9223372036854775807) (hx : RdE 4 RJob w A xs) (lx : xs.length ≤ c) (lc : c ≤ maxLen) :
    Calls Try.prog 11 #[.int .i64 lv, .slice A xs.length c] w fun e w' => e = .returned (.bool true) ∧ Ext w w' := by
  unfold maxLen at lc
  have hm := modu_bd (x := lv) (n := 5) (by omega)
  unfold modu at hm
  go_enter Try.func11, Try.ntmps11
  go_wp2_with (fail)
  generalize (IntKind.u64.wrap lv).tmod 5 = t at *
  generalize IntKind.u64.wrap lv = uw at *
  obtain ⟨q, rfl⟩ := Int.eq_ofNat_of_zero_le hm.1
  obtain ⟨n, hn, n1, n32⟩ := depth_cases (lv := 1 + q) (by omega) (by omega)
  have K := fun W => new_yes (1 + q) W (by omega) (by omega)
  rw [show ((1 + q : Nat) : Int) = 1 + (q : Int) from by omega, hn] at K
  refine (K _).mono ?_
  rintro e w1 ⟨g, rfl, R1, x1⟩
  clear K hn hm
  go_wp2_with (fail)
  refine (mounds_any _).mono ?_
  rintro e w2 ⟨rfl, x2⟩
  have R2 := R1.ext x2
  have X2 := x1.tr x2
  clear R1 x1 x2
  go_wp2_with (fail)
  go_loopw [7] (fun i wr => ∃ (k : Nat) (ls : Ls) (sz : Int), i = .int .i64 k ∧ k ≤ xs.length ∧ k ≤ 60 ∧ Hid (Kept ls sz n k) ∧ Hid (MoundRep wr w.heap.size g ls sz) ∧ Ext w wr) (fun i _ => 60 - (intOf i).toNat)
  case atStart => exact ⟨0, _, 0, rfl, by omega, by omega, Kept.start n, R2, X2⟩
  case round =>
    clear R2 X2
    obtain ⟨k, ls, sz, rfl, hk, hk60, hK, R, X⟩ := hrel
    by_cases hlt : k < xs.length ∧ k < 60
    · obtain ⟨h1, h2⟩ := hlt
      obtain ⟨b, off, cs, j, rfl, hb, ⟨D, d, rfl, hd, id, ld, ld'⟩, _, hcs, _⟩ := (hx.ext X (fun cs j h => h.ext X)).at h1
      have c0 := hcs 0 _ rfl
      rw [Nat.add_zero] at c0
      have c1 := hcs 1 _ rfl
      have c2 := hcs 2 _ rfl
      have c3 := hcs 3 _ rfl
      have hbw : b < w.heap.size := by
        rcases hx with h | ⟨b', off', h, hb', _⟩
        · rw [h] at h1; simp at h1
        · injection h with h; injection h with h; omega
      clear hcs
      have KI := fun W (h : Ext wr W) => insAny g w.heap.size n k ls sz (j.key, j.id) D d j.draws W (R.out.ext h) hK.out n1 n32 hk60 (hd.ext h) id ld ld'
      have KP := popAny g w.heap.size n k ls sz wr R.out hK.out n1 n32 hk60
      replace KI := Lib.hid KI
      replace KP := Lib.hid KP
      replace hd := Lib.hid hd
      replace id := Lib.hid id
      replace ld' := Lib.hid ld'
      by_cases hw : j.what = 1
      · have hw' : (j.what == 1) = true := by simpa using hw
        replace hw := Lib.hid hw
        go_wp2_with (fail)
        go_region_held3 (fun w' => w'.cell? ⟨b, off + k * 4 + 1, none⟩ = some (.int .i64 j.key) ∧ w'.cell? ⟨b, off + k * 4 + 2, none⟩ = some (.int .i64 j.id) ∧ w'.cell? ⟨b, off + k * 4 + 3, none⟩ = some (.slice D j.draws.length d)) (go_keep)
          (first
            | (go_at_call 46; refine (to_any _ _ _).mono ?_; rintro e w3 ⟨rfl, x3⟩; have y3 := Ext.tr (a := wr) (by (repeat (first | assumption | exact Ext.rf _ | apply Ext.drew | apply Ext.drewN | apply Ext.alloc))) x3; have k3 := y3.cells.1)
            | (go_at_call 40; refine (KI.out _ (by exact y3)).mono ?_; rintro e w4 ⟨bo, ls', sz', rfl, R4, K4, M4⟩; have s1 := keepI M4 hbw (keepE y3 hb c1); have s2 := keepI M4 hbw (keepE y3 hb c2); have s3 := keepI M4 hbw (keepE y3 hb c3)))
        all_goals
          have X4 := (X.tr y3).modT M4 (Nat.le_refl _)
          replace R4 := Lib.hid R4
          replace K4 := Lib.hid K4
          clear M4
          go_wp2_with (fail)
          go_roundw
          case rel => exact ⟨k + 1, ls', sz', by go_num, by omega, by omega, K4, R4, X4⟩
          case measure => simp [intOf]; omega
      · have hw' : (j.what == 1) = false := by simpa using hw
        replace hw := Lib.hid hw
        go_wp2_with (fail)
        refine KP.out.mono ?_
        rintro e w4 ⟨p, bo, ls', sz', rfl, R4, K4, M4⟩
        have X4 := X.modT M4 (Nat.le_refl _)
        replace R4 := Lib.hid R4
        replace K4 := Lib.hid K4.more
        clear M4
        go_wp2_with (fail)
        go_roundw
        case rel => exact ⟨k + 1, ls', sz', by go_num, by omega, by omega, K4, R4, X4⟩
        case measure => simp [intOf]; omega
    · clear hx
      have hlen := hK.out.len
      have KL := fun W (h : Ext wr W) => lists_any g w.heap.size ls sz W (R.out.ext h) (by omega) (by omega) (fun l hl => Nat.le_trans (hK.out.lens l hl) (by omega))
      have KM := fun W (h : Ext wr W) => min_any g w.heap.size ls sz W (R.out.ext h) (by omega) (by omega)
      have KZ := fun W (h : Ext wr W) => size_any g w.heap.size ls sz W (R.out.ext h)
      have hroot := Kept.root hK.out n1
      have hfacts := kept_facts hK.out
      have htl : (ls.drop 1).length = ls.length - 1 := by simp
      have hm62 : ls.length - 1 ≤ 64 := by omega
      unfold ListsPost at KL
      simp only [itV] at KM
      generalize minP ls = mp at *
      generalize ls.length - 1 = m at *
      generalize ls.drop 1 = tl at *
      obtain ⟨⟨mx, mi⟩, ok⟩ := mp
      simp only at KM hroot hfacts
      replace KL := Lib.hid KL
      replace KM := Lib.hid KM
      replace KZ := Lib.hid KZ
      replace hroot := Lib.hid hroot
      replace hfacts := Lib.hid hfacts
      replace hlen := Lib.hid hlen
      replace htl := Lib.hid htl
      by_cases h1 : k < xs.length
      case' pos => have h2 : ¬ k < 60 := by omega
      all_goals
        go_wp2_with (fail)
        refine (KL.out _ (Ext.rf _)).mono ?_
        rintro e w3 ⟨A3, c3, rfl, L3, x3⟩
        replace L3 := Lib.hid L3
        go_wp2_with (fail)
        refine (KM.out _ x3).mono ?_
        rintro e w4 ⟨rfl, x4⟩
        have L4 := Lib.hid (L3.out.ext x4)
        have y4 := x3.tr x4
        clear L3 x3 x4
        go_wp2_with (fail)
        have B4 := Lib.hid (Blk.new (w := w4) (g := w4.heap.size) (t := 61) (cs := #[.int .i64 mx, .int .i64 mi]) rfl)
        go_loopw [11] (fun i wq => ∃ ii : Nat, i = .int .i64 ii ∧ ii ≤ m ∧ Hid (Blk wq w4.heap.size 61 #[.int .i64 mx, .int .i64 mi]) ∧ Hid (RdLs wq 61 82 A3 tl) ∧ Ext w4 wq) (fun i _ => m - (intOf i).toNat)
        case atStart => exact ⟨0, rfl, by omega, B4, L4.out.ext ((Ext.rf _).alloc _), (Ext.rf _).alloc _⟩
        case round =>
          clear B4 L4
          obtain ⟨ii, rfl, hii, B, L, Y⟩ := hrel
          by_cases hlt3 : ii < m
          · obtain ⟨b1, o1, A1, c1, l, rfl, hb1, hc1, hr1, hl1, hli⟩ := L.out.at (i := ii) (by rw [htl.out]; exact hlt3)
            obtain ⟨f0, f1, f2, f3⟩ := hfacts.out ii l hli.out
            have hl60 : l.length ≤ 60 := by omega
            replace f1 := Lib.hid f1
            replace f2 := Lib.hid f2
            replace f3 := Lib.hid f3
            replace hr1 := Lib.hid hr1
            go_wp2_with (fail)
            obtain ⟨wo, rfl⟩ : ∃ wo : World, wo = wr := ⟨_, rfl⟩
            go_loopw [12] (fun i wq => ∃ kk : Nat, i = .int .i64 kk ∧ kk ≤ l.length ∧ Ext wo wq) (fun i _ => l.length - (intOf i).toNat)
            case atStart => exact ⟨0, rfl, by omega, Ext.rf _⟩
            case round =>
              obtain ⟨kk, rfl, hkk, Z⟩ := hrel
              have hc1' := (Z.cells.1 _ _ hb1).trans hc1
              by_cases hlt4 : kk < l.length
              · obtain ⟨b2, o2, rfl, hb2, hcc⟩ := (hr1.out.ext Z).form (by intro h; have := congrArg List.length h; rw [flat_len] at this; simp at this; omega)
                have bx := (B.out.ext Z).cell 0
                simp at bx
                obtain ⟨p, hp⟩ : ∃ p, l[kk]? = some p := ⟨_, List.getElem?_eq_getElem hlt4⟩
                obtain ⟨g1, g2⟩ := f1.out kk p hp
                have k1 := hcc (kk * 2) _ (flat_get hp).1
                have d1 : decide (p.1 < mx) = false := by simpa using g2
                replace hp := Lib.hid hp
                subst g1
                cases kk with
                | zero =>
                  simp only [Nat.zero_mul, Nat.add_zero] at k1
                  go_wp2_with (go_quiet (fail))
                  go_roundw
                  case rel => exact ⟨1, by go_num, by omega, Z.drewN _⟩
                  case measure => simp [intOf]; omega
                | succ k' =>
                  obtain ⟨q', hq'⟩ : ∃ q', l[k']? = some q' := ⟨_, List.getElem?_eq_getElem (by omega)⟩
                  have k2 := hcc (k' * 2) _ (flat_get hq').1
                  have d2 : decide (p.1 < q'.1) = false := by simpa using f2.out k' q' p hq' hp.out
                  replace hq' := Lib.hid hq'
                  go_wp2_with (go_quiet (fail))
                  go_roundw
                  case rel => exact ⟨k' + 1 + 1, by go_num, by omega, Z.drewN _⟩
                  case measure => simp [intOf]; omega
              · obtain rfl : kk = l.length := by omega
                obtain ⟨w6, rfl⟩ : ∃ w6 : World, w6 = wr := ⟨_, rfl⟩
                have L6 := L.out.ext Z
                have B6 := Lib.hid (B.out.ext Z)
                have Y6 := Y.tr Z
                have L7 := Lib.hid L6
                go_wp2_with (fail)
                cases ii with
                | zero =>
                  go_wp2_with (go_quiet (fail))
                  go_roundw
                  case rel => exact ⟨1, by go_num, by omega, B6, L7, Y6.drewN _⟩
                  case measure => simp [intOf]; omega
                | succ i' =>
                  have d0 : decide ((0 : Int) < (i' : Int) + 1) = true := by simp <;> omega
                  cases l with
                  | nil =>
                    go_wp2_with (go_quiet (fail))
                    go_roundw
                    case rel => exact ⟨i' + 1 + 1, by go_num, by omega, B6, L7, Y6.drewN _⟩
                    case measure => simp [intOf]; omega
                  | cons p r =>
                    obtain ⟨q', s', hu, hle⟩ := f3.out p r (by omega) rfl
                    have hup : (((i' + 1 : Nat) : Int) + 1) / 2 - 1 = (((i' + 1 + 1) / 2 - 1 : Nat) : Int) := by omega
                    have hum : (i' + 1 + 1) / 2 - 1 < m := by omega
                    simp only [hup]
                    clear hup
                    generalize (i' + 1 + 1) / 2 - 1 = u at *
                    obtain ⟨b3, o3, A4, c4, l4, hA, hb3, hc4, hr4, hl4, hli4⟩ := L6.at (i := u) (by rw [htl.out]; exact hum)
                    injection hA with hA
                    injection hA with e1 e2
                    subst e1 e2
                    have hli4 := hli4.out
                    rw [hu] at hli4
                    injection hli4 with hli4
                    subst hli4
                    obtain ⟨b5, o5, rfl, _, hcc5⟩ := hr4.form (by simp [flat_cons])
                    obtain ⟨b6, o6, rfl, _, hcc6⟩ := (hr1.out.ext Z).form (by simp [flat_cons])
                    have k5 := hcc5 0 _ rfl
                    have k6 := hcc6 0 _ rfl
                    simp only [Nat.add_zero] at k5 k6
                    have d5 : decide (p.1 < q'.1) = false := by simpa using hle
                    have d6 : (((s'.length : Int) + 1) == 0) = false := by simp <;> omega
                    have d7 : decide ((0 : Int) < (r.length : Int) + 1) = true := by simp <;> omega
                    simp only [List.length_cons] at hc4 hc1'
                    clear hcc5 hcc6 hu hr4
                    go_wp2_with (go_quiet (fail))
                    go_roundw
                    case rel => exact ⟨i' + 1 + 1, by go_num, by omega, B6, L7, Y6.drewN _⟩
                    case measure => simp [intOf]; omega
          · obtain rfl : ii = m := by omega
            go_wp2_with (fail)
            refine (KZ.out _ (y4.tr Y)).mono ?_
            rintro e w6 ⟨rfl, rfl⟩
            go_wp2_with (fail)
            go_ret
            exact ⟨ret_b (by rw [hroot.out]; simp), (X.tr y4).tr Y⟩

set_option maxRecDepth 100000 in
theorem lifted (os : Os) (started : os.Started) (H : Type) (enc : TypeId × Value → H) :
    ReturnsInHanded {} Try.checked os 11 .any (Rows.moundOrdersSpec.pre6 enc Try.prog Try.f11 Rows.moundOrdersRow.domain false) (Rows.moundOrdersSpec.post enc Try.prog Try.f11 false true false false) := by
  refine returnsInHanded_of_change (C := Try.checked) own started (by kernel_rfl) Try.func11
    (ChangeSpec.witness6 (enc := enc) (C := Try.checked) false ⟨#[], #[.int .i64 0, .slice none 0 0], []⟩ 8 (by kernel_rfl) (by kernel_rfl) (by kernel_rfl) (by kernel_rfl)) ?_
  intro W base args ds gs before hval0 hW _ _
  have hval : ∀ (j : Nat) t v, Try.f11.params[j]? = some t → args[j]? = some v → Value.okWide Try.prog W .any base t v := hval0
  have hW' := hW
  obtain ⟨p, q, hA0, hV, rfl, hfz, hnd⟩ := hW
  have hA : DataW.TrodAll enc Try.prog W 0 (fun _ => true) true Try.f11.params.toList args.toList ds p := hA0
  rw [Try.params11] at hA hval
  obtain ⟨v0, vs0, d0, ds0, p0, q0, hargs, rfl, rfl, h0, r0⟩ := trodAll_cons hA
  obtain ⟨v1, vs1, d1, ds1, p1, q1, rfl, rfl, rfl, h1, r1⟩ := trodAll_cons r0
  obtain ⟨rfl, rfl, rfl⟩ := trodAll_nil r1
  obtain rfl : args = #[v0, v1] := by cases args; simp_all
  obtain ⟨rfl, rfl⟩ := trodVars_none hV
  obtain ⟨x0, rfl, rfl, rfl, w0⟩ := open_int Try.underlying3 (hval 0 _ v0 rfl rfl) h0
  obtain ⟨A1, x1, c1, rfl, hx1, lx1, lc1⟩ := open_RdJob h1 (hval 1 _ v1 rfl rfl)
  refine (walk x0 A1 c1 x1 W (int_bd w0) hx1 lx1 lc1).mono fun e W' ⟨he, hg⟩ => ?_
  subst he
  exact ⟨_, rfl, post_law hW' rfl rfl rfl rfl rfl (readable_of (by kernel_rfl)) hg⟩

theorem proved : Rows.MoundOrdersSaid :=
  OpenClaim.holds_of_wide 11 Try.f11 rfl rfl rfl rfl rfl rfl rfl ⟨rfl, rfl, rfl, rfl, rfl⟩ rfl rfl rfl rfl rfl (by kernel_rfl) Try.func11 (by kernel_rfl)
    (of_decide_eq_true (by kernel_rfl)) (by unfold Func.isWrapper; first | (rw [if_pos (by decide +kernel)]; kernel_rfl) | (rw [if_neg (by decide +kernel)]; exact ⟨rfl, rfl⟩))
    (fun os started H enc _ => lifted os started H enc)
end Go.Proofs.Ythmjeajfchpdoaa.moundOrders
