/-
  An assignment by prices: a way grows: the walk.
-/
import Derived.Test.YtleckhbmciiooaaHungS
namespace Go.Proofs.Ytleckhbmciiooaa
open Go.RowKit Go.ChangeShapes Go.WideShapes Go.ChangeAt Go.Deep

set_option maxRecDepth 100000 in
set_option maxHeartbeats 4000000 in
theorem grow_any {wb w : World} {gp d n N r R gu gv gh gf : Nat} {D : Option Addr} {rows : List (List Int)} {u v : Nat → Int} {has frm : Nat → Nat}
    (hP : PB w gp D d n N gu gv gh gf) (hu : Arr w gu N u) (hv : Arr w gv N v) (hh : Arr w gh N fun c => (has c : Int)) (hf : Arr w gf N fun c => (frm c : Int)) (hd : [gu, gv, gh, gf].Nodup)
    (hC : RdE 1 RInts wb D rows) (hx : Ext wb w) (hb : ∀ k, k < wb.heap.size → ¬ PS gu gv gh gf k) (rok : RowsOk rows) (hn : rows.length = n) (hN : N = n + 1) (hI : HI n (cstR rows) r u v has) (hr : r < n) (hR : R = r + 1) :
    Calls Try.prog 63 #[.pointer (some ⟨gp, 0, none⟩), .int .i64 R] w (GrowPost n N R gu gv gh gf (cstR rows) w) := by
  have num : ∀ i c, 1 ≤ i → i ≤ n → 1 ≤ c → c ≤ n → 0 ≤ cstR rows i c ∧ cstR rows i c ≤ 2147483647 := fun i c h1 h2 h3 h4 => ends_num rok (i - 1) (c - 1) (by omega) (by omega)
  have n24 : n ≤ 24 := by rw [← hn]; exact rok.n2
  have SL := fun (W : World) (u v : Nat → Int) (hp : PB W gp D d n N gu gv gh gf) (a1 : Arr W gu N u) (a2 : Arr W gv N v) (x : Ext wb W) (i c : Nat) (i1 : 1 ≤ i) (i2 : i ≤ n) (c1 : 1 ≤ c) (c2 : c ≤ n) (bu : 0 ≤ u i ∧ u i ≤ 2147483647) (bv : -2147483647 ≤ v c ∧ v c ≤ 0) =>
    slack_any hp a1 a2 (hC.ext x fun _ _ h => h.ext x) rok hn hN i1 i2 c1 c2 bu bv
  have XM := fun (W : World) (m : Mod (PS gu gv gh gf) w W) => hx.mod m hb
  have gpn : ¬ PS gu gv gh gf gp := by
    rintro (h | h | h | h)
    · exact hu.ne hP (by decide) h.symm
    · exact hv.ne hP (by decide) h.symm
    · exact hh.ne hP (by decide) h.symm
    · exact hf.ne hP (by decide) h.symm
  have PM := fun (W : World) (m : Mod (PS gu gv gh gf) w W) => (show PB W gp D d n N gu gv gh gf from hP.mod m gpn)
  have h0 : (fun c => if c = 0 then R else has c) 0 = R := rfl
  obtain ⟨hs, hhs⟩ : ∃ hs : Nat → Nat, hs = fun c => if c = 0 then R else has c := ⟨_, rfl⟩
  have hs0 : hs 0 = R := by rw [hhs]; rfl
  have hs1 : ∀ c, 1 ≤ c → hs c = has c := fun c hc => by rw [hhs]; simp only; rw [if_neg (by omega)]
  have HO : HasOk n R hs := by rw [hR]; exact hI.hasOk (by rw [hs0, hR]) hs1
  obtain ⟨cf, cf1, cf2, cf3⟩ := hI.some_free hr
  have HF : ∃ c, 1 ≤ c ∧ c ≤ n ∧ hs c = 0 := ⟨cf, cf1, cf2, by rw [hs1 cf cf1]; exact cf3⟩
  have HG := fun (least : Nat → Int) (frm : Nat → Nat) (e : ∀ c, 1 ≤ c → c ≤ n → least c = farV) => (show GI n (cstR rows) farV R hs [] 0 u v least frm by rw [hR]; exact hI.grow hs1 e)
  have hRn : R ≤ n := by omega
  have MU := And.intro hd (And.intro hu.lt (And.intro hv.lt (And.intro hh.lt hf.lt)))
  have p0 : w.cell? ⟨gp, 0, none⟩ = some (.slice D n d) := hP.cell 0
  have p3 : w.cell? ⟨gp, 3, none⟩ = some (.slice (some ⟨gh, 0, none⟩) N N) := hP.cell 3
  have f0 := hh.free 0
  have k0 := hh.cell (k := 0) (by omega)
  have A1 := hh.set 0 (R : Int)
  have A1' : Arr (w.setCell ⟨gh, 0, none⟩ (.int .i64 R)) gh N (fun c => (hs c : Int)) := A1.congr fun i _ => by rw [hhs]; simp only; split <;> rfl
  have hne : gu ≠ gh ∧ gv ≠ gh ∧ gf ≠ gh := by
    simp only [List.nodup_cons, List.mem_cons, List.not_mem_nil, or_false, not_or] at hd
    exact ⟨hd.1.2.1, hd.2.1.1, fun e => hd.2.2.1 e.symm⟩
  have AA := And.intro A1' (And.intro (hu.far (a := ⟨gh, 0, none⟩) hne.1 (.int .i64 R)) (And.intro (hv.far (a := ⟨gh, 0, none⟩) hne.2.1 (.int .i64 R)) (And.intro (hf.far (a := ⟨gh, 0, none⟩) hne.2.2 (.int .i64 R)) ((Mod.rf (S := PS gu gv gh gf) w).set (p := ⟨gh, 0, none⟩) (.inl (.inr (.inr (.inl rfl)))) (.int .i64 R)))))
  have z0 : (0 : Int) < (N : Int) := by omega
  have e1 : (n : Int) + 1 = (N : Int) := by omega
  have w1 : IntKind.i64.wrap ((n : Int) + 1) = (N : Int) := by rw [e1]; exact IntWalk.i64_in _ (by omega)
  have szw : (w.setCell ⟨gh, 0, none⟩ (.int .i64 R)).heap.size = w.heap.size := by simp [World.setCell]
  have n24N : N ≤ 25 := by omega
  replace AA := Lib.hid AA
  replace SL := Lib.hid SL
  replace XM := Lib.hid XM
  replace PM := Lib.hid PM
  replace HO := Lib.hid HO
  replace HF := Lib.hid HF
  replace HG := Lib.hid HG
  replace hRn := Lib.hid hRn
  replace MU := Lib.hid MU
  replace num := Lib.hid num
  replace hN := Lib.hid hN
  replace hs0 := Lib.hid hs0
  replace szw := Lib.hid szw
  clear hP hu hv hh hf hd hC hx hb rok hn hI hr hR hhs hs1 h0 A1 A1' hne cf cf1 cf2 cf3
  go_enter Try.func63, Try.ntmps63
  go_upto_region 3 with (fail)
  generalize w.setCell ⟨gh, 0, none⟩ (.int .i64 R) = w1 at *
  clear p0 p3 f0 k0
  go_wp2_with (first
    | (at_make; refine wpl_make_i _ rfl _ _ rfl w1.heap.size _ _ N rfl rfl (by first | rfl | exact e1) (by first | rfl | exact e1) (by omega) (Nat.le_refl _) ?_; rintro w2 o2 g2; replace o2 := Lib.hid o2; replace g2 := Lib.hid g2)
    | (at_make; refine wpl_make_b _ rfl _ _ rfl _ _ N rfl rfl (by first | rfl | exact e1) (by first | rfl | exact e1) (by omega) ?_; rintro w3 a3 g3; replace a3 := Lib.hid a3; replace g3 := Lib.hid g3))
  replace g3 := g3.out
  replace a3 := a3.out
  have a2 := Lib.hid (Arr.of_own o2.out)
  have x2 := Lib.hid ((Ext.rf w1).grownNone g2.out)
  clear o2 g2
  have x3 := (Ext.rf w2).grownNone g3
  obtain ⟨m1, m2, m3, m4, m5⟩ := AA.out
  have z12 := a2.out.lt
  have x13 := x2.out.tr x3
  have AP : Apart w gu gv gh gf w1.heap.size w2.heap.size := by
    obtain ⟨q1, q2, q3, q4, q5⟩ := MU.out
    have q6 := szw.out
    refine ⟨?_, by omega, by have := x2.out.size; omega⟩
    simp only [List.nodup_cons, List.mem_cons, List.not_mem_nil, or_false, not_or, not_false_eq_true, List.nodup_nil, and_true] at q1 ⊢
    omega
  have GS : Hid (GrowS w w3 gu gv gh gf w1.heap.size w2.heap.size N hs u v (fun c => if c < 0 then farV else 0) frm (fun _ => false)) :=
    ⟨m2.ext x13, m3.ext x13, m1.ext x13, m4.ext x13, (a2.out.ext x3).congr fun i _ => by rw [if_neg (by omega)], a3, m5.ext x13⟩
  generalize w1.heap.size = gl at *
  generalize w2.heap.size = gs at *
  replace AP := Lib.hid AP
  clear m1 m2 m3 m4 m5 z12 x13 x3 x2 a2 a3 g3 AA szw MU
  clear w1 w2
  go_wp2_with (fail)
  go_loopw [35] (fun i wr => ∃ (k : Nat), i = .int .i64 k ∧ k ≤ N ∧ Hid (GrowS w wr gu gv gh gf gl gs N hs u v (fun c => if c < k then farV else 0) frm (fun _ => false))) (fun i _ => N - (intOf i).toNat)
  case atStart => exact ⟨0, rfl, by omega, GS⟩
  case round =>
    obtain ⟨wo, rfl⟩ : ∃ wo : World, wo = wr := ⟨_, rfl⟩
    obtain ⟨k, rfl, hk, HS⟩ := hrel
    clear GS
    by_cases hlt : k < N
    · have kl := HS.out.l.cell hlt
      have fl := HS.out.l.free k
      have q1 : (k : Int) < (N : Int) := by omega
      have F1 := Lib.hid ((HS.out.setL AP.out k farV).congL (l2 := fun c => if c < k + 1 then farV else 0) fun i _ => by
        by_cases e : i = k
        · rw [if_pos e, if_pos (by omega)]
        · rw [if_neg e]
          by_cases e2 : i < k
          · rw [if_pos e2, if_pos (by omega)]
          · rw [if_neg e2, if_neg (by omega)])
      go_wp2_with (fail)
      go_roundw
      case rel => exact ⟨k + 1, by go_num, by omega, F1⟩
      case measure => simp [intOf]; omega
    · obtain rfl : k = N := by omega
      go_wp2_with (fail)
      have HS1 := Lib.hid (HS.out.congL (l2 := fun _ => farV) fun i hi => if_pos hi)
      have G0 := Lib.hid (HG.out (fun _ => farV) frm fun _ _ _ => rfl)
      clear HS HG hlt hk
      go_loopw [9] (fun v9 wr => ∃ (a : Nat) (L : List Nat) (u v least : Nat → Int) (frm : Nat → Nat) (S : Nat → Bool), v9 = .int .i64 a ∧ a ≤ n ∧ Hid (GI n (cstR rows) farV R hs L a u v least frm) ∧ Hid (GrowS w wr gu gv gh gf gl gs k hs u v least frm S) ∧ Hid (∀ c, c ≤ n → (S c = true ↔ c ∈ L))) (fun _ wr => leftB wr gs)
      case atStart => exact ⟨0, [], u, v, _, frm, _, rfl, by omega, G0, HS1, fun c _ => by simp⟩
      case round =>
        clear G0 HS1
        obtain ⟨wp, rfl⟩ : ∃ wp : World, wp = wr := ⟨_, rfl⟩
        obtain ⟨a, L, u, v, least, frm, S, rfl, ha, GG, G1, HS⟩ := hrel
        have p3 : wp.cell? ⟨gp, 3, none⟩ = some (.slice (some ⟨gh, 0, none⟩) k k) := (PM.out _ G1.out.m).cell 3
        have q1 : (a : Int) < (k : Int) := by have := hN.out; omega
        have ka := G1.out.h.cell (k := a) (by have := hN.out; omega)
        by_cases hz : hs a = 0
        · have e0 : ((hs a : Nat) : Int) = 0 := by omega
          rw [e0] at ka
          go_wp2_with (fail)
          go_ret
          exact ⟨a, L, u, v, least, hs, frm, rfl, hz, G1.out.u, G1.out.v, G1.out.h, G1.out.f, GG.out, HO.out, G1.out.m⟩
        · have e0 : (((hs a : Nat) : Int) != 0) = true := by simp; omega
          obtain ⟨row, hrow⟩ : ∃ row, Hid (hs a = row) := ⟨_, rfl⟩
          have ks := G1.out.s.cell (k := a) (by have := hN.out; omega)
          have fs := G1.out.s.free a
          have SA : S a = false := by
            cases h : S a with
            | false => rfl
            | true => exact absurd ((HS.out a ha).1 h) GG.out.notin
          obtain ⟨S5, hS5⟩ : ∃ S5 : Nat → Bool, S5 = fun i => if i = a then true else S i := ⟨_, rfl⟩
          have G2 := Lib.hid (G1.out.setS AP.out a true)
          rw [← hS5] at G2
          have S2 : Hid (∀ c, c ≤ n → (S5 c = true ↔ c ∈ L ++ [a])) := fun c hc => by
            rw [hS5]
            simp only [List.mem_append, List.mem_singleton]
            by_cases e : c = a
            · simp [e]
            · rw [if_neg e, HS.out c hc]
              simp [e]
          have ML : Hid (∀ W, ArrB W gs k S5 → leftB W gs < leftB wp gs) := fun W h1 => by
            rw [h1.left, G1.out.s.left]
            exact left_less (by have := hN.out; omega) SA fun _ => by rw [hS5]
          have BD := Lib.hid (GG.out.bound HO.out hRn.out HF.out num.out)
          have RB : 1 ≤ row ∧ row ≤ n := by
            have h1 := HO.out.le a ha
            have h2 := hrow.out
            have h3 := hRn.out
            omega
          have hz' : Hid (hs a ≠ 0) := hz
          clear hS5 SA HS hz G1
          rw [hrow.out] at ka e0
          go_upto_region 13 with (fail)
          generalize wp.setCell ⟨gs, a, none⟩ (.bool true) = w5 at *
          clear p3 ka ks fs
          have p3 : w5.cell? ⟨gp, 3, none⟩ = some (.slice (some ⟨gh, 0, none⟩) k k) := (PM.out _ G2.out.m).cell 3
          have ka := G2.out.h.cell (k := a) (by have := hN.out; omega)
          simp only [hrow.out] at ka
          go_wp2_with (fail)
          clear p3 ka
          go_loopw [11, 12, 13] (fun v11 v12 v13 wr => ∃ (c next : Nat) (step : Int) (least2 : Nat → Int) (frm2 : Nat → Nat), v11 = .int .i64 step ∧ v12 = .int .i64 next ∧ v13 = .int .i64 c ∧ 1 ≤ c ∧ c ≤ k ∧ Hid (LookR n farV (fun c => cstR rows row c - u row - v c) S5 a least least2 frm frm2 c next step) ∧ Hid (GrowS w wr gu gv gh gf gl gs k hs u v least2 frm2 S5)) (fun _ _ v13 _ => k - (intOf v13).toNat)
          case atStart => exact ⟨1, 0, farV, least, frm, rfl, rfl, rfl, by omega, by have := hN.out; omega, LookR.start, G2⟩
          case round =>
            clear G2
            obtain ⟨wq, rfl⟩ : ∃ wq : World, wq = wr := ⟨_, rfl⟩
            obtain ⟨c, next, step, least2, frm2, rfl, rfl, rfl, hc1, hck, LR, G3⟩ := hrel
            by_cases hcn : c ≤ n
            · have q2 : (c : Int) ≤ (n : Int) := by omega
              have q3 : (c : Int) < (k : Int) := by have := hN.out; omega
              have wc1 : IntKind.i64.wrap ((c : Int) + 1) = ((c + 1 : Nat) : Int) := IntWalk.i64_in _ (by omega)
              have ks := G3.out.s.cell (k := c) (by have := hN.out; omega)
              obtain ⟨sb, hsb⟩ : ∃ sb, Hid (S5 c = sb) := ⟨_, rfl⟩
              rw [hsb.out] at ks
              cases sb with
              | true =>
                have LR2 := Lib.hid (LR.out.skip hsb.out)
                clear LR
                go_wp2_with (fail)
                go_roundw
                case rel => exact ⟨c + 1, next, step, least2, frm2, rfl, rfl, by go_num, by omega, by have := hN.out; omega, LR2, G3⟩
                case measure => simp [intOf]; omega
              | false =>
                have hb1 := BD.out.1 row RB.1 RB.2
                have hb2 := BD.out.2 c hc1 hcn
                have SC := Lib.hid (SL.out wq u v (PM.out _ G3.out.m) G3.out.u G3.out.v (XM.out _ G3.out.m) row c RB.1 RB.2 hc1 hcn hb1 hb2)
                have nb := num.out row c RB.1 RB.2 hc1 hcn
                go_wp2_with (fail)
                refine SC.out.mono ?_
                rintro e w6 ⟨rfl, x6⟩
                have G4 := Lib.hid (G3.out.ext x6)
                clear G3 x6 SC ks
                obtain ⟨x, hx⟩ : ∃ x, Hid (cstR rows row c - u row - v c = x) := ⟨_, rfl⟩
                rw [show costAt rows (row - 1) (c - 1) - u row - v c = x from hx.out]
                have xb : x < farV := by
                  have := hx.out
                  show x < 1152921504606846976
                  omega
                have lk := (LR.out.keep c (.inr (.inl (Nat.le_refl _))))
                have kl := G4.out.l.cell (k := c) (by have := hN.out; omega)
                have fl := G4.out.l.free c
                clear hb1 hb2 nb
                by_cases h1 : x < least2 c
                · have LK := LR.out.look (l2 := fun i => if i = c then x else least2 i) (f2 := fun i => if i = c then a else frm2 i) (x := x) hsb.out hc1 (.inl ⟨by rw [← lk.1]; exact hx.out ▸ h1, hx.out.symm, if_pos rfl⟩) (fun _ => rfl) (fun i hi => if_neg hi) xb
                  have G5 := Lib.hid ((G4.out.setL AP.out c x).setF AP.out c a)
                  have p4 : w6.cell? ⟨gp, 4, none⟩ = some (.slice (some ⟨gf, 0, none⟩) k k) := (PM.out _ G4.out.m).cell 4
                  have kf := G4.out.f.cell (k := c) (by have := hN.out; omega)
                  have ff := G4.out.f.free c
                  have nlf : gl ≠ gf := AP.out.ne.2.2.2.1.1.symm
                  replace LK := Lib.hid LK
                  replace lk := Lib.hid lk
                  clear LR G4
                  go_upto_region 22 with (go_region)
                  generalize (w6.setCell ⟨gl, c, none⟩ (.int .i64 x)).setCell ⟨gf, c, none⟩ (.int .i64 a) = w7 at *
                  clear kl fl p4 kf ff nlf
                  have kl : w7.cell? ⟨gl, c, none⟩ = some (.int .i64 x) := by
                    have := G5.out.l.cell (k := c) (by have := hN.out; omega)
                    rwa [if_pos rfl] at this
                  by_cases h2 : x < step
                  · have LK2 := Lib.hid (LK.out.1 h2)
                    go_wp2_with (fail)
                    go_roundw
                    case rel => exact ⟨c + 1, c, x, _, _, rfl, rfl, by go_num, by omega, by have := hN.out; omega, LK2, G5⟩
                    case measure => simp [intOf]; omega
                  · have LK2 := Lib.hid (LK.out.2 (by omega))
                    go_wp2_with (fail)
                    go_roundw
                    case rel => exact ⟨c + 1, next, step, _, _, rfl, rfl, by go_num, by omega, by have := hN.out; omega, LK2, G5⟩
                    case measure => simp [intOf]; omega
                · obtain ⟨y, hy⟩ : ∃ y, Hid (least2 c = y) := ⟨_, rfl⟩
                  rw [hy.out] at kl
                  have EL : ∀ i, least2 i = if i = c then y else least2 i := fun i => by
                    by_cases e : i = c
                    · rw [if_pos e, e, hy.out]
                    · rw [if_neg e]
                  have E1 : least c ≤ cstR rows row c - u row - v c := by
                    have := hx.out
                    rw [← lk.1]
                    omega
                  have E2 : y = least c := by rw [← hy.out]; exact lk.1
                  have LK := LR.out.look (l2 := least2) (f2 := frm2) (x := y) hsb.out hc1 (.inr ⟨E1, E2, lk.2⟩) EL (fun _ _ => rfl) (by have := hy.out; omega)
                  clear EL E1 E2
                  replace LK := Lib.hid LK
                  replace lk := Lib.hid lk
                  have h1' : ¬ x < y := by rw [← hy.out]; exact h1
                  clear LR h1
                  by_cases h2 : y < step
                  · have LK2 := Lib.hid (LK.out.1 h2)
                    go_wp2_with (fail)
                    go_roundw
                    case rel => exact ⟨c + 1, c, y, _, _, rfl, rfl, by go_num, by omega, by have := hN.out; omega, LK2, G4⟩
                    case measure => simp [intOf]; omega
                  · have LK2 := Lib.hid (LK.out.2 (by omega))
                    go_wp2_with (fail)
                    go_roundw
                    case rel => exact ⟨c + 1, next, step, _, _, rfl, rfl, by go_num, by omega, by have := hN.out; omega, LK2, G4⟩
                    case measure => simp [intOf]; omega
            · obtain rfl : c = k := by have := hN.out; omega
              have nz : ∀ j, j ≤ n → S5 j = true → hs j ≠ 0 := fun j hj hs => by
                rcases List.mem_append.1 ((S2.out j hj).1 hs) with h | h
                · exact GG.out.seen j h
                · obtain rfl := List.mem_singleton.1 h
                  exact hz'.out
              have un : ∀ j, j ≤ n → j ∉ L ++ [a] → S5 j = false := fun j hj h => by
                cases e : S5 j with
                | false => rfl
                | true => exact absurd ((S2.out j hj).1 e) h
              have K0 : 1 ≤ next ∧ next ≤ n ∧ next ∉ L ++ [a] ∧ step = least2 next ∧ ∀ j, 1 ≤ j → j ≤ n → j ∉ L ++ [a] → step ≤ least2 j := by
                rcases LR.out.best with ⟨_, _, b3⟩ | ⟨b1, b2, b3, b4, b5⟩
                · exfalso
                  obtain ⟨c0, d1, d2, d3⟩ := HF.out
                  exact nz c0 d2 (b3 c0 d1 (by omega)) d3
                · have e := hN.out
                  refine ⟨b1, by omega, fun hm => ?_, b4, fun j j1 j2 j3 => b5 j j1 (by omega) (un j j2 j3)⟩
                  rw [(S2.out next (by omega)).2 hm] at b3
                  cases b3
              have K1 : ∀ j, 1 ≤ j → j ≤ n → j ∉ L ++ [a] → (cstR rows (hs a) j - u (hs a) - v j < least j ∧ least2 j = cstR rows (hs a) j - u (hs a) - v j ∧ frm2 j = a) ∨ (least j ≤ cstR rows (hs a) j - u (hs a) - v j ∧ least2 j = least j ∧ frm2 j = frm j) := fun j j1 j2 j3 => by
                rw [hrow.out]
                exact LR.out.done j j1 (by have := hN.out; omega) (un j j2 j3)
              have K1' : ∀ j, j ∈ L ++ [a] → frm2 j = frm j := fun j hj => (LR.out.keep j (.inr (.inr ((S2.out j (GG.out.le j hj)).2 hj)))).2
              have NB : ∀ j, 1 ≤ j → j ≤ n → S5 j = false → 0 ≤ least2 j ∧ least2 j ≤ 4294967294 := fun j j1 j2 j3 => by
                have hj : j ∉ L ++ [a] := fun hm => by
                  rw [(S2.out j j2).2 hm] at j3
                  cases j3
                exact near_bd GG.out HO.out hRn.out hz'.out num.out BD.out.1 BD.out.2 j1 j2 hj (K1 j j1 j2 hj)
              have sb : 0 ≤ step ∧ step ≤ 4294967294 := by
                rw [K0.2.2.2.1]
                exact NB next K0.1 K0.2.1 (un next K0.2.1 K0.2.2.1)
              have s0 : S5 0 = true := by
                refine (S2.out 0 (by omega)).2 ?_
                have := GG.out.first
                exact List.mem_of_mem_head? this
              replace K0 := Lib.hid K0
              replace K1 := Lib.hid K1
              replace K1' := Lib.hid K1'
              replace NB := Lib.hid NB
              replace nz := Lib.hid nz
              replace un := Lib.hid un
              replace s0 := Lib.hid s0
              clear LR
              go_wp2_with (fail)
              go_loopw [103] (fun i wr => ∃ (j : Nat) (u3 v3 least3 : Nat → Int), i = .int .i64 j ∧ j ≤ c ∧ Hid (TurnR S5 hs step u v least2 u3 v3 least3 j) ∧ Hid (GrowS w wr gu gv gh gf gl gs c hs u3 v3 least3 frm2 S5)) (fun i _ => c - (intOf i).toNat)
              case atStart => exact ⟨0, u, v, least2, rfl, by omega, TurnR.start, G3⟩
              case round =>
                clear G3
                obtain ⟨wr2, rfl⟩ : ∃ wr2 : World, wr2 = wr := ⟨_, rfl⟩
                obtain ⟨j, u3, v3, least3, rfl, hj, TR, G3⟩ := hrel
                by_cases hjc : j < c
                · have q2 : (j : Int) < (c : Int) := by omega
                  have wj : IntKind.i64.wrap ((j : Int) + 1) = ((j + 1 : Nat) : Int) := IntWalk.i64_in _ (by omega)
                  have ks := G3.out.s.cell hjc
                  obtain ⟨sj, hsj⟩ : ∃ sj, Hid (S5 j = sj) := ⟨_, rfl⟩
                  rw [hsj.out] at ks
                  have jn : j ≤ n := by have := hN.out; omega
                  cases sj with
                  | true =>
                    obtain ⟨rw, hrw⟩ : ∃ rw, Hid (hs j = rw) := ⟨_, rfl⟩
                    have rw1 : 1 ≤ rw ∧ rw ≤ n := by
                      have h1 := HO.out.le j jn
                      have h2 := nz.out j jn hsj.out
                      have h3 := hRn.out
                      rw [hrw.out] at h1 h2
                      omega
                    obtain ⟨z, hzz⟩ : ∃ z, Hid (IntKind.i64.wrap (v3 j - step) = z) := ⟨_, rfl⟩
                    have INJ : ∀ s, s < j → S5 s = true → hs s ≠ hs j := fun s h1 h2 h3 => by
                      have := HO.out.inj s j (by omega) jn h3 (nz.out s (by omega) h2)
                      omega
                    have V1 : 1 ≤ j → v3 j = v j := fun h => by rw [TR.out.v j h, if_neg (by omega)]
                    obtain ⟨T1, _, T2⟩ := TR.out.seen (v2 := fun i => if i = j then z else v3 i) hsj.out INJ (fun i hi => by
                      by_cases e : i = j
                      · subst e
                        rw [if_pos rfl, if_pos rfl, ← hzz.out]
                        have h1 := BD.out.2 i hi jn
                        have h2 := V1 hi
                        exact IntWalk.i64_in _ (by omega)
                      · rw [if_neg e, if_neg e])
                    rw [hrw.out] at T1 T2
                    have bu := BD.out.1 rw rw1.1 rw1.2
                    obtain ⟨ur, hur⟩ : ∃ ur, Hid (u3 rw = ur) := ⟨_, rfl⟩
                    have wu : IntKind.i64.wrap (ur + step) = ur + step := IntWalk.i64_in _ (by rw [← hur.out, T1]; omega)
                    have q3 : (rw : Int) < (c : Int) := by omega
                    have q4 : rw < c := by omega
                    have kh := G3.out.h.cell hjc
                    simp only [hrw.out] at kh
                    have ku := G3.out.u.cell q4
                    rw [hur.out] at ku T2
                    have fu := G3.out.u.free rw
                    have p1 : wr2.cell? ⟨gp, 1, none⟩ = some (.slice (some ⟨gu, 0, none⟩) c c) := (PM.out _ G3.out.m).cell 1
                    have p3 : wr2.cell? ⟨gp, 3, none⟩ = some (.slice (some ⟨gh, 0, none⟩) c c) := (PM.out _ G3.out.m).cell 3
                    have G4 := Lib.hid (G3.out.setU AP.out rw (ur + step))
                    replace T2 := Lib.hid T2
                    clear G3 TR T1 INJ V1 bu
                    go_wp2_with (fail)
                    refine wp_region_any (by kernel_rfl) ?_
                    change wpAny _ _ _ _ _ _ _ (World.drew _)
                    refine wpAny_T (i := 0) (op := Op.move (Operand.tmp 0)) (t := 94) (d := some 110) (v := ?_) rfl (by decide +kernel) (by decide +kernel) (by decide +kernel) (fun _ _ _ h => h) ?_ ?_
                    case refine_2 => (intro _; unfold exec2; go_simp; try with_reducible rfl)
                    try simp only [Act.put, List.setIfInBounds_toArray, List.set_cons_zero, List.set_cons_succ]
                    refine wpAny_T (i := 1) (op := Op.nilCheck (Operand.tmp 110)) (t := 0) (d := some 111) (v := ?_) rfl (by decide +kernel) (by decide +kernel) (by decide +kernel) (fun _ _ _ h => h) ?_ ?_
                    case refine_2 => (intro _; unfold exec2; go_simp; try with_reducible rfl)
                    try simp only [Act.put, List.setIfInBounds_toArray, List.set_cons_zero, List.set_cons_succ]
                    refine wpAny_T (i := 2) (op := Op.fieldAddr 96 (Operand.tmp 111) 1) (t := 0) (d := some 112) (v := ?_) rfl (by decide +kernel) (by decide +kernel) (by decide +kernel) (fun _ _ _ h => h) ?_ ?_
                    case refine_2 => (intro _; unfold exec2; go_simp; try with_reducible rfl)
                    try simp only [Act.put, List.setIfInBounds_toArray, List.set_cons_zero, List.set_cons_succ]
                    refine wpAny_T (i := 4) (op := Op.move (Operand.tmp 0)) (t := 94) (d := some 114) (v := ?_) rfl (by decide +kernel) (by decide +kernel) (by decide +kernel) (fun _ _ _ h => h) ?_ ?_
                    case refine_2 => (intro _; unfold exec2; go_simp; try with_reducible rfl)
                    try simp only [Act.put, List.setIfInBounds_toArray, List.set_cons_zero, List.set_cons_succ]
                    refine wpAny_T (i := 5) (op := Op.nilCheck (Operand.tmp 114)) (t := 0) (d := some 115) (v := ?_) rfl (by decide +kernel) (by decide +kernel) (by decide +kernel) (fun _ _ _ h => h) ?_ ?_
                    case refine_2 => (intro _; unfold exec2; go_simp; try with_reducible rfl)
                    try simp only [Act.put, List.setIfInBounds_toArray, List.set_cons_zero, List.set_cons_succ]
                    refine wpAny_T (i := 6) (op := Op.fieldAddr 96 (Operand.tmp 115) 3) (t := 0) (d := some 116) (v := ?_) rfl (by decide +kernel) (by decide +kernel) (by decide +kernel) (fun _ _ _ h => h) ?_ ?_
                    case refine_2 => (intro _; unfold exec2; go_simp; try with_reducible rfl)
                    try simp only [Act.put, List.setIfInBounds_toArray, List.set_cons_zero, List.set_cons_succ]
                    refine wpAny_T (i := 8) (op := Op.move (Operand.tmp 15)) (t := 3) (d := some 118) (v := ?_) rfl (by decide +kernel) (by decide +kernel) (by decide +kernel) (fun _ _ _ h => h) ?_ ?_
                    case refine_2 => (intro _; unfold exec2; go_simp; try with_reducible rfl)
                    try simp only [Act.put, List.setIfInBounds_toArray, List.set_cons_zero, List.set_cons_succ]
                    refine wpAny_T (i := 13) (op := Op.move (Operand.tmp 11)) (t := 3) (d := some 123) (v := ?_) rfl (by decide +kernel) (by decide +kernel) (by decide +kernel) (fun _ _ _ h => h) ?_ ?_
                    case refine_2 => (intro _; unfold exec2; go_simp; try with_reducible rfl)
                    try simp only [Act.put, List.setIfInBounds_toArray, List.set_cons_zero, List.set_cons_succ]
                    refine wpAny_reads (n := 2) [(3, some 113), (7, some 117), (9, some 119), (10, some 120), (11, some 121), (12, some 122), (14, some 124)] (fun | 3 => .slice (some ⟨gu, 0, none⟩) c c | 7 => .slice (some ⟨gh, 0, none⟩) c c | 9 => .pointer (some ⟨gh, j, none⟩) | 10 => .int .i64 rw | 11 => .pointer (some ⟨gu, rw, none⟩) | 12 => .int .i64 ur | 14 => .int .i64 (ur + step) | _ => undef) #[true, true, true, true, true, true, true, true, true, true, true, true, true, true, true, false, false] (by decide +kernel) ?_ ?_
                    · intro pS hpm uS hD K hK
                      simp only [List.mem_cons, List.not_mem_nil, or_false] at hpm
                      rcases hpm with rfl | rfl | rfl | rfl | rfl | rfl | rfl
                      · exact op_ld (T := 22) (x := Operand.tmp 112) (t := 22) (d := some 113) rfl (.pointer (some ⟨gp, 1, none⟩)) (by kernel_rfl) (.slice (some ⟨gu, 0, none⟩) c c) (by go_simp) hK
                      · exact op_ld (T := 22) (x := Operand.tmp 116) (t := 22) (d := some 117) rfl (.pointer (some ⟨gp, 3, none⟩)) (by kernel_rfl) (.slice (some ⟨gh, 0, none⟩) c c) (by go_simp) hK
                      · exact op_ix (T := 22) (x := Operand.tmp 117) (y := Operand.tmp 118) (t := 0) (d := some 119) rfl (.slice (some ⟨gh, 0, none⟩) c c) (.int .i64 j) (Eq.trans (b := uS 7) (by kernel_rfl) (hD 7 (depIn (by kernel_rfl)))) (by kernel_rfl) (.pointer (some ⟨gh, j, none⟩)) (by go_simp) hK
                      · exact op_ld (T := 3) (x := Operand.tmp 119) (t := 3) (d := some 120) rfl (.pointer (some ⟨gh, j, none⟩)) (Eq.trans (b := uS 9) (by kernel_rfl) (hD 9 (depIn (by kernel_rfl)))) (.int .i64 rw) (by go_simp) hK
                      · exact op_ix (T := 22) (x := Operand.tmp 113) (y := Operand.tmp 120) (t := 0) (d := some 121) rfl (.slice (some ⟨gu, 0, none⟩) c c) (.int .i64 rw) (Eq.trans (b := uS 3) (by kernel_rfl) (hD 3 (depIn (by kernel_rfl)))) (Eq.trans (b := uS 10) (by kernel_rfl) (hD 10 (depIn (by kernel_rfl)))) (.pointer (some ⟨gu, rw, none⟩)) (by go_simp) hK
                      · exact op_ld (T := 3) (x := Operand.tmp 121) (t := 3) (d := some 122) rfl (.pointer (some ⟨gu, rw, none⟩)) (Eq.trans (b := uS 11) (by kernel_rfl) (hD 11 (depIn (by kernel_rfl)))) (.int .i64 ur) (by go_simp) hK
                      · (have e12 : uS 12 = .int .i64 ur := hD 12 (depIn (by kernel_rfl)); exact op_run (op := Op.binOp BinOp.add 3 (Operand.tmp 122) (Operand.tmp 123) 3) (t := 3) (d := some 124) rfl (.int .i64 (ur + step)) (by simp only [putAll, Act.put, List.setIfInBounds_toArray, List.set_cons_zero, List.set_cons_succ]; unfold exec2; go_simp; try simp only [e12]; try go_simp) hK)
                    simp only [putAll, Act.put, List.setIfInBounds_toArray, List.set_cons_zero, List.set_cons_succ]
                    refine wpAny_T (i := 15) (op := Op.indexAddr 22 (Operand.tmp 113) (Operand.tmp 120)) (t := 0) (d := some 125) (v := ?_) rfl (by decide +kernel) (by decide +kernel) (by decide +kernel) (fun _ _ _ h => h) ?_ ?_
                    case refine_2 => (intro _; unfold exec2; go_simp; try with_reducible rfl)
                    try simp only [Act.put, List.setIfInBounds_toArray, List.set_cons_zero, List.set_cons_succ]
                    refine wpAny_next 16 (by decide +kernel) (op_st rfl (.pointer (some ⟨gu, rw, none⟩)) (.int .i64 (ur + step)) (by kernel_rfl) (by kernel_rfl) (by go_simp; rfl) ?_)
                    refine wpAny_done (by kernel_rfl) ?_ _
                    clear kh ku fu p1 p3 ks
                    generalize wr2.setCell ⟨gu, rw, none⟩ (.int .i64 (ur + step)) = w8 at *
                    have G5 := Lib.hid (G4.out.ext ((Ext.rf _).drew))
                    have p2 : w8.drew.cell? ⟨gp, 2, none⟩ = some (.slice (some ⟨gv, 0, none⟩) c c) := (PM.out _ G5.out.m).cell 2
                    have kv := G5.out.v.cell hjc
                    have fv := G5.out.v.free j
                    have G6 := Lib.hid (G5.out.setV AP.out j z)
                    have zz := hzz.out
                    clear G4
                    go_simp
                    go_wp2_with (fail)
                    go_roundw
                    case rel => exact ⟨j + 1, _, _, least3, by go_num, by omega, T2, G6⟩
                    case measure => simp [intOf]; omega
                  | false =>
                    have j1 : 1 ≤ j := by
                      rcases Nat.eq_zero_or_pos j with rfl | h
                      · have := s0.out
                        rw [hsj.out] at this
                        cases this
                      · exact h
                    obtain ⟨T1, T2⟩ := TR.out.unseen hsj.out
                    have nb := NB.out j j1 jn hsj.out
                    have kl := G3.out.l.cell hjc
                    have fl := G3.out.l.free j
                    have wl : IntKind.i64.wrap (least3 j - step) = least3 j - step := IntWalk.i64_in _ (by rw [T1]; omega)
                    have G4 := Lib.hid (G3.out.setL AP.out j (least3 j - step))
                    replace T2 := Lib.hid T2
                    replace T1 := Lib.hid T1
                    clear G3 TR nb
                    go_wp2_with (fail)
                    go_roundw
                    case rel => exact ⟨j + 1, u3, v3, _, by go_num, by omega, T2, G4⟩
                    case measure => simp [intOf]; omega
                · obtain rfl : j = c := by omega
                  have RD := GG.out.round (frm' := frm2) (least' := least2) (u' := u3) (v' := v3) (least2 := least3) HO.out hRn.out (fun i c i1 i2 c1 c2 => by
                    have h1 := num.out i c i1 i2 c1 c2
                    have h2 := BD.out.1 i i1 i2
                    have h3 := BD.out.2 c c1 c2
                    show _ < (1152921504606846976 : Int)
                    omega) hz'.out K1.out K1'.out K0.out
                    (fun i => by
                      rw [TR.out.u]
                      by_cases e : ∃ s, s ∈ L ++ [a] ∧ hs s = i
                      · obtain ⟨s, e1, e2⟩ := e
                        have e3 := GG.out.le s e1
                        rw [if_pos (show ∃ s, s < j ∧ S5 s = true ∧ hs s = i from ⟨s, by have := hN.out; omega, (S2.out s e3).2 e1, e2⟩), if_pos (show ∃ s, s ∈ L ++ [a] ∧ hs s = i from ⟨s, e1, e2⟩)]
                      · rw [if_neg e, if_neg (show ¬ ∃ s, s < j ∧ S5 s = true ∧ hs s = i from fun ⟨s, e1, e2, e3⟩ => e ⟨s, (S2.out s (by have := hN.out; omega)).1 e2, e3⟩)])
                    (fun i i1 i2 => by
                      rw [TR.out.v i i1]
                      by_cases e : i ∈ L ++ [a]
                      · rw [if_pos e, if_pos (show i < j ∧ S5 i = true from ⟨by have := hN.out; omega, (S2.out i i2).2 e⟩)]
                      · rw [if_neg e, if_neg (show ¬ (i < j ∧ S5 i = true) from fun ⟨_, e2⟩ => e ((S2.out i i2).1 e2))])
                    (fun i i1 i2 i3 => by rw [TR.out.l, if_pos ⟨by have := hN.out; omega, un.out i i2 i3⟩])
                  have G5 := Lib.hid RD.1
                  clear RD GG TR
                  go_wp2_with (fail)
                  go_roundw
                  case rel => exact ⟨next, L ++ [a], u3, v3, least3, frm2, S5, rfl, K0.out.2.1, G5, G3, S2⟩
                  case measure => exact ML.out _ G3.out.s
end Go.Proofs.Ytleckhbmciiooaa
