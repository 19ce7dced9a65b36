/-
  The document's mound: leaf, Insert.
-/
import Derived.Test.YthmjeajfchpdoaaRefA
import Derived.Deep.DeepCutAuto
namespace Go.Proofs.Ythmjeajfchpdoaa
open Go.RowKit Go.ChangeShapes Go.WideShapes Go.ChangeAt

set_option maxRecDepth 100000 in
set_option maxHeartbeats 1000000 in
theorem rleaf_any (g base : Nat) (ls : Ls) (lv : Int) (key : Int) (D : Option Addr) (d : Nat) (ds : List Int) (n : Nat) (w : World) (H : RefRep w base g ls lv) (hn : ls.length = 2 * n) (h1 : 1 ≤ n) (h32 : n ≤ 32)
    (hd : RdI w D ds) (id : Ints ds) (ld : ds.length ≤ d) (ld' : d ≤ maxLen) :
    Calls Try.prog 65 #[.pointer (some ⟨g, 0, none⟩), .int .i64 key, .slice D ds.length d] w fun e w' => e = .returned (.int .i64 (leafP ls key ds : Nat)) ∧ w = w' := by
  have hl64 : ls.length ≤ 64 := by omega
  have hn2 : ls.length / 2 = n := by omega
  have K62 := fun i (hi : i < 2 * n) => rbelow_any g base ls lv i key w H hl64 (by omega)
  replace K62 := Lib.hid K62
  have hleaf : leafP ls key ds = (drawP ls key n (ds.take 4)).getD (scanP ls key n n) := by rw [leafP, hn2]
  replace hleaf := Lib.hid hleaf
  obtain ⟨h, hb, _, _, hH⟩ := H
  have c0 := hb.cell 1
  simp at c0
  clear hb hH
  have hnl : (ls.length : Int) / 2 = (n : Int) := by omega
  have hp := hd.take 4
  have ip := id.take 4
  have lp : (ds.take 4).length = min 4 ds.length := List.length_take
  replace hn := Lib.hid hn
  clear hn2 hl64 hd id
  generalize ds.take 4 = ps at *
  unfold maxLen at ld'
  go_enter Try.func65, Try.ntmps65
  go_wp2_with fail
  clear hnl
  go_loop [8] (fun i => ∃ k : Nat, k ≤ ps.length ∧ i = .int .i64 k ∧ Hid (drawP ls key n ps = drawP ls key n (ps.drop k))) (fun i => ps.length - (intOf i).toNat)
  case atStart => exact ⟨0, by omega, rfl, by exact rfl⟩
  case round =>
    obtain ⟨k, hk, rfl, hD⟩ := hrel
    by_cases hlt : k < ps.length
    · have hk4 : k < 4 := by omega
      have hkd : k < ds.length := by omega
      obtain ⟨b, off, x, rfl, _, hc, _, hdr⟩ := hp.at hlt
      have hm := modu_bd (x := x) (n := (n : Int)) (by omega)
      have hcons := drawP_cons ls key n x (ps.drop (k + 1))
      rw [← hdr.out, ← hD.out] at hcons
      replace hcons := Lib.hid hcons
      have K := K62.out (n + (modu x n).toNat) (by omega)
      have hi : ((n + (modu x n).toNat : Nat) : Int) = (n : Int) + modu x n := by omega
      rw [hi] at K
      replace hi := Lib.hid hi
      replace K := Lib.hid K
      replace lp := Lib.hid lp
      cases hf : fitsP ls (n + (modu x n).toNat) key with
      | true =>
        replace hf := Lib.hid hf
        rw [hf.out] at K
        have hend : ((leafP ls key ds : Nat) : Int) = (n : Int) + modu x n := by
          rw [hleaf.out, hcons.out, hf.out, if_pos rfl, Option.getD_some]
          exact hi.out
        replace hend := Lib.hid hend
        unfold modu at hm K hend
        clear hi hcons hdr hD
        go_wp2_with (go_at_call 66; refine K.out.mono ?_; rintro e w' ⟨rfl, rfl⟩)
        go_ret
        exact ⟨ret_i hend.out.symm, rfl⟩
      | false =>
        replace hf := Lib.hid hf
        rw [hf.out] at K
        have hnext : drawP ls key n ps = drawP ls key n (ps.drop (k + 1)) := by rw [hcons.out, hf.out]; simp
        replace hnext := Lib.hid hnext
        unfold modu at hm K
        clear hi hcons hdr hD hf
        go_wp2_with (go_at_call 66; refine K.out.mono ?_; rintro e w' ⟨rfl, rfl⟩)
        go_round
        case rel => exact ⟨k + 1, by omega, by go_num, hnext.out⟩
        case measure => simp [intOf]; omega
    · have hnone : drawP ls key n ps = none := by rw [hD.out, List.drop_of_length_le (by omega)]; rfl
      have hleaf2 : leafP ls key ds = scanP ls key n n := by rw [hleaf.out, hnone, Option.getD_none]
      replace hleaf2 := Lib.hid hleaf2
      clear hleaf hD hnone
      by_cases hk4 : k < 4
      case' pos => have hkd : ¬ k < ds.length := by omega
      all_goals
        replace lp := Lib.hid lp
        go_wp2_with fail
        go_loop [10] (fun i => ∃ k : Nat, n ≤ k ∧ k ≤ 2 * n ∧ i = .int .i64 k ∧ Hid (scanP ls key n n = scanP ls key (2 * n - k) k)) (fun i => 2 * n - (intOf i).toNat)
        case atStart => exact ⟨n, by omega, by omega, rfl, by rw [show 2 * n - n = n by omega]; exact rfl⟩
        case round =>
          obtain ⟨j, hj1, hj2, rfl, hS⟩ := hrel
          by_cases hlt2 : j < 2 * n
          · have K := K62.out j hlt2
            have hstep : scanP ls key n n = if fitsP ls j key then j else scanP ls key (2 * n - (j + 1)) (j + 1) := by
              rw [hS.out, show 2 * n - j = (2 * n - (j + 1)) + 1 by omega, scanP_succ]
            replace hstep := Lib.hid hstep
            replace K := Lib.hid K
            have hlt3 : (j : Int) < 2 * (n : Int) := by omega
            cases hf : fitsP ls j key with
            | true =>
              replace hf := Lib.hid hf
              rw [hf.out] at K
              have hend : leafP ls key ds = j := by rw [hleaf2.out, hstep.out, hf.out, if_pos rfl]
              replace hend := Lib.hid hend
              go_wp2_with (go_at_call 66; refine K.out.mono ?_; rintro e w' ⟨rfl, rfl⟩)
              go_ret
              exact ⟨ret_i (by rw [hend.out]), rfl⟩
            | false =>
              replace hf := Lib.hid hf
              rw [hf.out] at K
              have hnext : scanP ls key n n = scanP ls key (2 * n - (j + 1)) (j + 1) := by rw [hstep.out, hf.out]; simp
              replace hnext := Lib.hid hnext
              go_wp2_with (go_at_call 66; refine K.out.mono ?_; rintro e w' ⟨rfl, rfl⟩)
              go_round
              case rel => exact ⟨j + 1, by omega, by omega, by go_num, hnext.out⟩
              case measure => simp [intOf]; omega
          · have hend : leafP ls key ds = 0 := by rw [hleaf2.out, hS.out, show 2 * n - j = 0 by omega]; rfl
            replace hend := Lib.hid hend
            have hlt3 : ¬ (j : Int) < 2 * (n : Int) := by omega
            go_wp2
            go_ret
            exact ⟨ret_i (by rw [hend.out]; rfl), rfl⟩

theorem ritem_info : (Try.prog.info? 73).map (fun i => (i.zero, i.size, i.bytes)) = some (some (.agg #[.int .i64 0, .int .i64 0]), 2, 16) := by kernel_rfl
theorem rput_rep {w3 : World} {base g hh n place : Nat} {ls : Ls} {lv : Int} {A : Option Addr} {c : Nat} {l : List It} (hb : Blk w3 g 108 #[.int .i64 lv, .slice (some ⟨hh, 0, none⟩) n n]) (hn : n = ls.length) (hbg : base ≤ g) (hbh : base ≤ hh) (hH : HeadsAt w3 73 109 hh ls) (hr : RdV w3 73 A (flat l)) (hl : l.length ≤ c) :
    RefRep (w3.setCell ⟨hh, place, none⟩ (.slice A l.length c)) base g (ls.set place l) lv ∧ ModT base TSR w3 (w3.setCell ⟨hh, place, none⟩ (.slice A l.length c)) := by
  subst hn
  obtain ⟨cs, hb2, hs, hc⟩ := id hH
  have hne : ¬ g = hh := Blk.ne hb hb2 (by decide)
  refine ⟨⟨hh, ?_, hbg, hbh, hH.set (by decide) place hr hl⟩, ModT.set w3 hb2 (by simp) hbh place _⟩
  rw [List.length_set]
  exact hb.far hne _

theorem rinsert_no (g base : Nat) (ls : Ls) (lv : Int) (x : It) (D : Option Addr) (d : Nat) (ds : List Int) (n : Nat) (w : World) (H : RefRep w base g ls lv) (hn : ls.length = 2 * n) (h1 : 1 ≤ n) (h32 : n ≤ 32)
    (hd : RdI w D ds) (id : Ints ds) (ld : ds.length ≤ d) (ld' : d ≤ maxLen) (hz : leafP ls x.1 ds = 0) :
    Calls Try.prog 47 #[.pointer (some ⟨g, 0, none⟩), .agg #[.int .i64 x.1, .int .i64 x.2], .slice D ds.length d] w fun e w' => e = .returned (.bool false) ∧ Ext w w' := by
  have K := fun W (h : Ext w W) => rleaf_any g base ls lv x.1 D d ds n W (H.ext h) hn h1 h32 (hd.ext h) id ld ld'
  rw [hz] at K
  replace K := Lib.hid K
  clear hz hn
  go_enter Try.func47, Try.ntmps47
  go_wp2_with (go_at_call 65; refine (K.out _ ((Ext.rf _).alloc _)).mono ?_; rintro e w' ⟨rfl, rfl⟩)
  go_ret
  exact ⟨rfl, by (repeat (first | assumption | exact Ext.rf _ | apply Ext.drew | apply Ext.drewN | apply Ext.alloc))⟩
set_option maxRecDepth 100000 in
set_option maxHeartbeats 1000000 in
theorem rinsert_yes (g base : Nat) (ls : Ls) (lv : Int) (x : It) (D : Option Addr) (d : Nat) (ds : List Int) (n : Nat) (w : World) (H : RefRep w base g ls lv) (hn : ls.length = 2 * n) (h1 : 1 ≤ n) (h32 : n ≤ 32)
    (hd : RdI w D ds) (id : Ints ds) (ld : ds.length ≤ d) (ld' : d ≤ maxLen) (hz : leafP ls x.1 ds ≠ 0) (hll : ∀ l ∈ ls, l.length ≤ 2 ^ 40) (hO : Ordered ls) :
    Calls Try.prog 47 #[.pointer (some ⟨g, 0, none⟩), .agg #[.int .i64 x.1, .int .i64 x.2], .slice D ds.length d] w fun e w' => e = .returned (.bool true) ∧
      RefRep w' base g (ls.set (placeP ls x.1 (leafP ls x.1 ds)) (x :: ls.getD (placeP ls x.1 (leafP ls x.1 ds)) [])) lv ∧ ModT base TSR w w' := by
  have hlb := leafP_bd ls x.1 ds hn h1
  have K := fun W (h : Ext w W) => rleaf_any g base ls lv x.1 D d ds n W (H.ext h) hn h1 h32 (hd.ext h) id ld ld'
  have htop := top_eq_place hO (by omega) (leafP_fits ls x.1 ds hz)
  generalize hL : leafP ls x.1 ds = L at *
  have hL1 : 1 ≤ L := by omega
  have hpb := placeP_bd ls x.1 hL1
  have hne : ((L : Int) == 0) = false := by simp; omega
  generalize hp : placeP ls x.1 L = place at *
  have K62 := fun W (h : Ext w W) i (hi : i < 2 * n) => rbelow_any g base ls lv i x.1 W (H.ext h) (by omega) (by omega)
  replace K := Lib.hid K
  replace K62 := Lib.hid K62
  replace htop := Lib.hid htop
  have hgl : g < w.heap.size := by obtain ⟨h, hb, _⟩ := H; exact hb.lt
  clear hL hp hz hd id ld ld'
  replace hn := Lib.hid hn
  go_enter Try.func47, Try.ntmps47
  go_wp2_with (go_at_call 65; refine (K.out _ ((Ext.rf _).alloc _)).mono ?_; rintro e w' ⟨rfl, rfl⟩)
  have X0 : Ext w (w.alloc (.cells #[.int .i64 x.1, .int .i64 x.2] 73)) := (Ext.rf _).alloc _
  have B0 : Blk (w.alloc (.cells #[.int .i64 x.1, .int .i64 x.2] 73)) w.heap.size 73 #[.int .i64 x.1, .int .i64 x.2] := .new rfl
  have HX := H.ext X0
  have KB := fun i hi => K62.out _ X0 i hi
  replace KB := Lib.hid KB
  replace HX := Lib.hid HX
  have k0 := B0.cell 0
  have k1 := B0.cell 1
  have zb := B0.lt
  replace B0 := Lib.hid B0
  clear K
  generalize w.alloc (.cells #[.int .i64 x.1, .int .i64 x.2] 73) = wr at *
  have k0 : wr.cell? ⟨w.heap.size, 0, none⟩ = some (.int .i64 x.1) := k0
  have k1 : wr.cell? ⟨w.heap.size, 1, none⟩ = some (.int .i64 x.2) := k1
  go_loop [8, 9] (fun pl i => ∃ q k f : Nat, pl = .int .i64 q ∧ i = .int .i64 k ∧ q ≤ L ∧ k ≤ L ∧ k < f ∧ Hid (topP ls x.1 (L + 1) L L = topP ls x.1 f k q)) (fun _ i => (intOf i).toNat)
  case atStart => exact ⟨L, L, L + 1, rfl, rfl, by omega, by omega, by omega, rfl⟩
  case round =>
    obtain ⟨q, k, f, rfl, rfl, hq, hk, hkf, hT⟩ := hrel
    obtain ⟨f', rfl⟩ : ∃ f', f = f' + 1 := ⟨f - 1, by omega⟩
    by_cases hk0 : 0 < k
    · have hst := topP_step ls x.1 f' k q hk0
      rw [← hT.out] at hst
      have Kf := KB.out k (by omega)
      cases hf : fitsP ls k x.1 with
      | true =>
        rw [hf] at Kf hst
        replace Kf := Lib.hid Kf
        replace hst := Lib.hid hst
        go_wp2_with (go_at_call 66; refine Kf.out.mono ?_; rintro e w' ⟨rfl, rfl⟩)
        go_round
        case rel => exact ⟨k, k / 2, f', rfl, by go_num, by omega, by omega, by omega, Lib.hid (hst.out.trans (by simp))⟩
        case measure => simp [intOf]; omega
      | false =>
        rw [hf] at Kf hst
        replace Kf := Lib.hid Kf
        replace hst := Lib.hid hst
        go_wp2_with (go_at_call 66; refine Kf.out.mono ?_; rintro e w' ⟨rfl, rfl⟩)
        go_round
        case rel => exact ⟨q, k / 2, f', rfl, by go_num, by omega, by omega, by omega, Lib.hid (hst.out.trans (by simp))⟩
        case measure => simp [intOf]; omega
    · obtain rfl : k = 0 := by omega
      have hqp : q = place := by
        have := hT.out
        rw [topP_zero, htop.out] at this
        exact this.symm
      subst hqp
      clear hT htop KB K62
      have hpn : q < ls.length := by have := hn.out; omega
      obtain ⟨l', hl'⟩ : ∃ l', ls[q]? = some l' := ⟨_, List.getElem?_eq_getElem hpn⟩
      have hd := getD_nil hl'
      replace hd := Lib.hid hd
      have hlm : l'.length ≤ 2 ^ 40 := hll l' (List.mem_of_getElem? hl')
      obtain ⟨hh, hb, hbg, hbh, hH'⟩ := HX.out
      obtain ⟨A2, c2, hc2, hf2, hr2, hlc⟩ := hH'.at hl'
      have c0 := hb.cell 1
      simp at c0
      have zg := hb.lt
      have zh := hH'.lt
      clear hl' HX
      replace hb := Lib.hid hb
      replace hH' := Lib.hid hH'
      replace hr2 := Lib.hid hr2
      have hbs : ∀ u : World, (Instr.buildSlice 109 1 #[(0, .agg #[.int .i64 x.1, .int .i64 x.2])]).run Try.prog u = .ok (.slice (some ⟨u.heap.size, 0, none⟩) 1 1) (u.alloc (.cells #[.int .i64 x.1, .int .i64 x.2] 73)) := fun u => by go_simp
      go_wp2_with (fail)
      refine wp_region_any (by kernel_rfl) ?_
      change wpAny _ _ _ _ _ _ _ (World.drew _)
      refine wpAny_T (i := 0) (op := Op.move (Operand.tmp 0)) (t := 71) (d := some 30) (v := ?_) rfl (by decide +kernel) (by decide +kernel) (by decide +kernel) (fun _ _ _ h => h) ?_ ?_
      case refine_2 => (intro _; unfold exec2; go_simp; try with_reducible rfl)
      try simp only [Act.put, List.setIfInBounds_toArray, List.set_cons_zero, List.set_cons_succ]
      refine wpAny_T (i := 1) (op := Op.nilCheck (Operand.tmp 30)) (t := 0) (d := some 31) (v := ?_) rfl (by decide +kernel) (by decide +kernel) (by decide +kernel) (fun _ _ _ h => h) ?_ ?_
      case refine_2 => (intro _; unfold exec2; go_simp; try with_reducible rfl)
      try simp only [Act.put, List.setIfInBounds_toArray, List.set_cons_zero, List.set_cons_succ]
      refine wpAny_T (i := 2) (op := Op.fieldAddr 108 (Operand.tmp 31) 1) (t := 0) (d := some 32) (v := ?_) rfl (by decide +kernel) (by decide +kernel) (by decide +kernel) (fun _ _ _ h => h) ?_ ?_
      case refine_2 => (intro _; unfold exec2; go_simp; try with_reducible rfl)
      try simp only [Act.put, List.setIfInBounds_toArray, List.set_cons_zero, List.set_cons_succ]
      refine wpAny_T (i := 4) (op := Op.move (Operand.tmp 8)) (t := 3) (d := some 34) (v := ?_) rfl (by decide +kernel) (by decide +kernel) (by decide +kernel) (fun _ _ _ h => h) ?_ ?_
      case refine_2 => (intro _; unfold exec2; go_simp; try with_reducible rfl)
      try simp only [Act.put, List.setIfInBounds_toArray, List.set_cons_zero, List.set_cons_succ]
      refine wpAny_T (i := 7) (op := Op.move (Operand.tmp 0)) (t := 71) (d := some 37) (v := ?_) rfl (by decide +kernel) (by decide +kernel) (by decide +kernel) (fun _ _ _ h => h) ?_ ?_
      case refine_2 => (intro _; unfold exec2; go_simp; try with_reducible rfl)
      try simp only [Act.put, List.setIfInBounds_toArray, List.set_cons_zero, List.set_cons_succ]
      refine wpAny_T (i := 8) (op := Op.nilCheck (Operand.tmp 37)) (t := 0) (d := some 38) (v := ?_) rfl (by decide +kernel) (by decide +kernel) (by decide +kernel) (fun _ _ _ h => h) ?_ ?_
      case refine_2 => (intro _; unfold exec2; go_simp; try with_reducible rfl)
      try simp only [Act.put, List.setIfInBounds_toArray, List.set_cons_zero, List.set_cons_succ]
      refine wpAny_T (i := 9) (op := Op.fieldAddr 108 (Operand.tmp 38) 1) (t := 0) (d := some 39) (v := ?_) rfl (by decide +kernel) (by decide +kernel) (by decide +kernel) (fun _ _ _ h => h) ?_ ?_
      case refine_2 => (intro _; unfold exec2; go_simp; try with_reducible rfl)
      try simp only [Act.put, List.setIfInBounds_toArray, List.set_cons_zero, List.set_cons_succ]
      refine wpAny_T (i := 11) (op := Op.move (Operand.tmp 8)) (t := 3) (d := some 41) (v := ?_) rfl (by decide +kernel) (by decide +kernel) (by decide +kernel) (fun _ _ _ h => h) ?_ ?_
      case refine_2 => (intro _; unfold exec2; go_simp; try with_reducible rfl)
      try simp only [Act.put, List.setIfInBounds_toArray, List.set_cons_zero, List.set_cons_succ]
      refine wpAny_core (n := 2) [(3, some 33), (5, some 35), (6, some 36), (10, some 40), (12, some 42), (13, some 43), (14, some 44)] (Ext wr)
        (VF (fun | 3 => some (.slice (some ⟨hh, 0, none⟩) ls.length ls.length) | 5 => some (.agg #[.int .i64 x.1, .int .i64 x.2]) | 10 => some (.slice (some ⟨hh, 0, none⟩) ls.length ls.length) | 12 => some (.pointer (some ⟨hh, q, none⟩)) | 13 => some (.slice A2 l'.length c2) | _ => none)
          (fun i v W => (i = 6 → ∃ q, v = .slice (some ⟨q, 0, none⟩) 1 1 ∧ Blk W q 73 #[.int .i64 x.1, .int .i64 x.2]) ∧ (i = 14 → ∃ A3 c3, v = .slice A3 (x :: l').length c3 ∧ RdV W 73 A3 (flat (x :: l')) ∧ (x :: l').length ≤ c3)))
        Ext (Array.replicate 15 true ++ #[false, false]) (by kernel_rfl) (VF.stab ?_) ?_ ?_ ((Ext.rf _).drew)
      · intro j v W W' _ ⟨g6, g14⟩ hx
        refine ⟨fun h => ?_, fun h => ?_⟩
        · obtain ⟨q, q1, q2⟩ := g6 h
          exact ⟨q, q1, q2.ext hx⟩
        · obtain ⟨A3, c3, q1, q2, q3⟩ := g14 h
          exact ⟨A3, c3, q1, q2.ext hx, q3⟩
      · intro p hpm u w2 hR hD K hK
        have r0 := (hR.cells.1 _ 1 zg).trans c0
        have r2 := (hR.cells.1 _ q zh).trans hc2
        have b0 := (hR.cells.1 _ 0 zb).trans k0
        have b1 := (hR.cells.1 _ 1 zb).trans k1
        simp only [List.mem_cons, List.not_mem_nil, or_false] at hpm
        rcases hpm with rfl | rfl | rfl | rfl | rfl | rfl | rfl
        · exact op_ld (T := 106) rfl (.pointer (some ⟨g, 1, none⟩)) (by kernel_rfl) (.slice (some ⟨hh, 0, none⟩) ls.length ls.length) (by go_simp) (hK _ _ (VF.mk rfl) hR (Ext.rf _))
        · exact op_ld (T := 73) rfl (.pointer (some ⟨w.heap.size, 0, none⟩)) (by kernel_rfl) (.agg #[.int .i64 x.1, .int .i64 x.2]) (by go_simp) (hK _ _ (VF.mk rfl) hR (Ext.rf _))
        · have h5 := (hD 5 (depIn (by kernel_rfl))).k rfl
          exact op_bs1 rfl _ (Eq.trans (b := u 5) (by kernel_rfl) h5) _ (hbs _) (hK _ _ (VF.mg rfl ⟨fun _ => ⟨_, rfl, .new rfl⟩, fun h => by cases h⟩) (hR.alloc _) ((Ext.rf _).alloc _))
        · exact op_ld (T := 106) rfl (.pointer (some ⟨g, 1, none⟩)) (by kernel_rfl) (.slice (some ⟨hh, 0, none⟩) ls.length ls.length) (by go_simp) (hK _ _ (VF.mk rfl) hR (Ext.rf _))
        · have h10 := (hD 10 (depIn (by kernel_rfl))).k rfl
          exact op_ix (T := 106) rfl _ (.int .i64 (q : Int)) (Eq.trans (b := u 10) (by kernel_rfl) h10) (by kernel_rfl) (.pointer (some ⟨hh, q, none⟩)) (by go_simp) (hK _ _ (VF.mk rfl) hR (Ext.rf _))
        · have h12 := (hD 12 (depIn (by kernel_rfl))).k rfl
          exact op_ld (T := 109) rfl _ (Eq.trans (b := u 12) (by kernel_rfl) h12) (.slice A2 l'.length c2) (by go_simp) (hK _ _ (VF.mk rfl) hR (Ext.rf _))
        · have h13 := (hD 13 (depIn (by kernel_rfl))).k rfl
          obtain ⟨q, h6, hq⟩ := ((hD 6 (depIn (by kernel_rfl))).g rfl).1 rfl
          obtain ⟨i0, hi, hz0, hz1, hz2⟩ := info_parts ritem_info
          obtain ⟨A3, c3, w3, hrun, h3, x3⟩ := run_fresh_v w2 (e := 73) Try.underlying109 hi hz0 hz1 hz2 (by simp [Value.cells]) (by omega) 0 109 q 1 #[.int .i64 x.1, .int .i64 x.2] A2 l'.length c2 (flat l') hq (by omega) (by simp) (hr2.out.ext hR).rdC (flat_len l') (flat_one l') (by simp only [maxLen]; omega) (by omega)
          have e : (1 + l'.length) = (x :: l').length := by simp; omega
          rw [e] at hrun h3
          exact op_app rfl _ _ (Eq.trans (b := u 6) (by kernel_rfl) h6) (Eq.trans (b := u 13) (by kernel_rfl) h13) _ hrun (hK _ _ (VF.mg rfl ⟨(fun h => by cases h), fun _ => ⟨_, _, rfl, by simpa [flat_cons] using h3.read, h3.le.1⟩⟩) (hR.tr x3) x3)
      · intro u w3 hR hV
        have h3 := (hV (3, some 33) (by simp)).k rfl
        have h5 := (hV (5, some 35) (by simp)).k rfl
        have h10 := (hV (10, some 40) (by simp)).k rfl
        have h12 := (hV (12, some 42) (by simp)).k rfl
        have h13 := (hV (13, some 43) (by simp)).k rfl
        obtain ⟨qq, h6, hqq⟩ := ((hV (6, some 36) (by simp)).g rfl).1 rfl
        obtain ⟨A3, c3, h14, q1, q2⟩ := ((hV (14, some 44) (by simp)).g rfl).2 rfl
        simp only [putAll, h3, h5, h6, h10, h12, h13, h14]
        clear h3 h5 h6 h10 h12 h13 h14 hV hqq
        have m3 := (hR.cells.1 _ q zh).trans hc2
        have f3 := (hR.cells.2 _ q zh).trans hf2
        have FIN := Lib.hid (rput_rep (place := q) (l := x :: l') (hb.out.ext hR) rfl hbg hbh (hH'.out.ext hR) q1 q2)
        have XM := Lib.hid ((ModT.of_ext (base := base) (ts := TSR) (X0.tr hR)))
        refine wpAny_T (i := 15) (op := Op.indexAddr 106 (Operand.tmp 33) (Operand.tmp 34)) (t := 0) (d := some 45) (v := ?_) rfl (by decide +kernel) (by decide +kernel) (by decide +kernel) (fun _ _ _ h => h) ?_ ?_
        case refine_2 => (intro _; unfold exec2; go_simp; try with_reducible rfl)
        try simp only [Act.put, List.setIfInBounds_toArray, List.set_cons_zero, List.set_cons_succ]
        refine wpAny_one 16 (by kernel_rfl) (by kernel_rfl) ?_
        refine op_st rfl (.pointer (some ⟨hh, q, none⟩)) (.slice A3 (x :: l').length c3) (by kernel_rfl) (by kernel_rfl) (by go_simp; rfl) ?_
        go_simp
        go_wp2_with fail
        go_ret
        have R := FIN.out.1
        have M := FIN.out.2
        simp only [List.length_cons] at R M
        rw [hd.out]
        exact ⟨rfl, R, XM.out.tr M⟩
end Go.Proofs.Ythmjeajfchpdoaa
