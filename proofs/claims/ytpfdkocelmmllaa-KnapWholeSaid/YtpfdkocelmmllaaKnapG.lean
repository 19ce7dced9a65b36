/-
  A knapsack's kernel: what the rest may bring, Bound, Answer; of no kernel nothing is told.
-/
import Derived.Test.YtpfdkocelmmllaaKnap3
namespace Go.Proofs.Ytpfdkocelmmllaa
open Go.RowKit Go.ChangeShapes Go.WideShapes Go.ChangeAt Go.Deep

set_option maxRecDepth 100000 in
set_option maxHeartbeats 2000000 in
theorem brings_any {base g : Nat} {cap : Int} {l : List Nat} {ws vs bs : List Int} (from_ : Nat) (room : Int) (w : World) (H : KernB w base g cap l ws vs bs) (ok : KOk cap l ws vs bs) (hf : from_ ≤ l.length) (hr : 0 ≤ room ∧ room ≤ 2147483647) :
    Calls Try.prog 62 #[.pointer (some ⟨g, 0, none⟩), .int .i64 from_, .int .i64 room] w fun e w' => e = .returned (.int .i64 (bringsP room (ws.drop from_) (vs.drop from_))) ∧ Ext w w' := by
  obtain ⟨PA, pc, WA, wc, VA, vc, HA, hc, hB, -, -, ⟨rW, -⟩, ⟨rV, -⟩, -⟩ := H
  obtain ⟨okc, l64, lw, lv, lb, sw, sv⟩ := ok
  have c1 : w.cell? ⟨g, 1, none⟩ = some (.slice PA l.length pc) := hB.cell 1
  have c2 : w.cell? ⟨g, 2, none⟩ = some (.slice WA ws.length wc) := hB.cell 2
  have c3 : w.cell? ⟨g, 3, none⟩ = some (.slice VA vs.length vc) := hB.cell 3
  have zg := hB.lt
  replace hB := Lib.hid hB
  replace lw := Lib.hid lw
  replace lv := Lib.hid lv
  replace lb := Lib.hid lb
  obtain ⟨hr1, hr2⟩ := hr
  go_enter Try.func62, Try.ntmps62
  go_wp2_with (fail)
  go_loopw [2, 7, 8] (fun r o i wr => ∃ (k : Nat) (rm up : Int), i = .int .i64 k ∧ r = .int .i64 rm ∧ o = .int .i64 up ∧ k ≤ l.length ∧ 0 ≤ rm ∧ rm ≤ 2147483647 ∧ 0 ≤ up ∧ up ≤ 2147483647 * (k : Int) ∧ Hid (bringsP room (ws.drop from_) (vs.drop from_) = up + bringsP rm (ws.drop k) (vs.drop k)) ∧ Ext w wr) (fun _ _ i _ => l.length - (intOf i).toNat)
  case atStart => exact ⟨from_, room, 0, rfl, rfl, rfl, hf, hr1, hr2, by omega, by omega, (Int.zero_add _).symm, Ext.rf _⟩
  case round =>
    obtain ⟨k, rm, up, rfl, rfl, rfl, hk, b1, b2, b3, b4, HS, Y⟩ := hrel
    have k1 := keepEL Y zg c1
    by_cases hlt : k < l.length
    · have hkw : k < ws.length := by rw [lw.out]; omega
      have hkv : k < vs.length := by rw [lv.out]; omega
      obtain ⟨wb, wo, u, rfl, zu, cu, eu, du⟩ := (rW.ext Y).at hkw
      obtain ⟨vb, vo, v, rfl, zv, cv, ev, dv⟩ := (rV.ext Y).at hkv
      have bu := sw.get eu.out
      have bv := sv.get ev.out
      have k2 := keepEL Y zg c2
      have k3 := keepEL Y zg c3
      have zg' := Nat.lt_of_lt_of_le zg Y.size
      by_cases hgt : rm < u
      · have HN : Hid (bringsP room (ws.drop from_) (vs.drop from_) = up + v * rm / u) := by
          have h := HS.out
          rw [du.out, dv.out, bringsP, if_pos hgt] at h
          exact h
        have hm := mul_bd bv.1 bv.2 b1 b2
        have hq : 0 ≤ v * rm / u ∧ v * rm / u ≤ 4611686014132420609 := by
          refine ⟨Int.ediv_nonneg hm.1 (by omega), ?_⟩
          have := Int.ediv_le_self u hm.1
          omega
        have PP := Lib.hid (fun W => part_any v rm u W bv ⟨b1, b2⟩ ⟨by omega, bu.2⟩)
        generalize v * rm / u = q at *
        clear hm HS eu du ev dv sw sv
        obtain ⟨q1, q2⟩ := hq
        go_wp2_with (fail)
        go_region_held3 (fun w' => w'.cell? ⟨g, 2, none⟩ = some (.slice (some ⟨wb, wo, none⟩) ws.length wc) ∧ w'.cell? ⟨g, 3, none⟩ = some (.slice (some ⟨vb, vo, none⟩) vs.length vc) ∧ w'.cell? ⟨wb, wo + k, none⟩ = some (.int .i64 u) ∧ w'.cell? ⟨vb, vo + k, none⟩ = some (.int .i64 v)) (go_keep)
          (first | (go_at_call 97; refine (PP.out _).mono ?_; rintro e w2 ⟨rfl, x2⟩; have X2 := Ext.tr (a := wr) (by (repeat (first | assumption | exact Ext.rf _ | apply Ext.drew | apply Ext.drewN | apply Ext.alloc))) x2; have s1 := keepEL X2 zg' k2; have s2 := keepEL X2 zg' k3; have s3 := keepEL X2 zu cu; have s4 := keepEL X2 zv cv))
        all_goals go_wp2
        all_goals go_ret
        all_goals exact ⟨ret_i HN.out.symm, Ext.tr Y (by (repeat (first | assumption | exact Ext.rf _ | apply Ext.drew | apply Ext.drewN | apply Ext.alloc)))⟩
      · have HN : Hid (bringsP room (ws.drop from_) (vs.drop from_) = (up + v) + bringsP (rm - u) (ws.drop (k + 1)) (vs.drop (k + 1))) := by
          have h := HS.out
          rw [du.out, dv.out, bringsP, if_neg hgt, ← Int.add_assoc] at h
          exact h
        clear HS eu du ev dv sw sv
        go_wp2
        go_roundw
        case rel => exact ⟨k + 1, rm - u, up + v, by go_num, rfl, rfl, by omega, by omega, by omega, by omega, by omega, HN, Y⟩
        case measure => simp [intOf]; omega
    · have HN : Hid (bringsP room (ws.drop from_) (vs.drop from_) = up) := by
        have h := HS.out
        rw [List.drop_of_length_le (l := ws) (i := k) (by rw [lw.out]; omega)] at h
        rw [h]
        have h0 : bringsP rm [] (vs.drop k) = 0 := by cases vs.drop k <;> rfl
        exact (by rw [h0, Int.add_zero] : up + bringsP rm [] (vs.drop k) = up)
      clear HS sw sv
      go_wp2
      go_ret
      exact ⟨ret_i HN.out.symm, Y⟩
def BoundVal (b : Int × Int) : Value := .tuple #[.int .i64 b.1, .int .i64 b.2]
set_option maxRecDepth 100000 in
set_option maxHeartbeats 2000000 in
theorem bound_any {base g : Nat} {cap : Int} {l : List Nat} {ws vs bs : List Int} (P : Option Addr) (c : Nat) (p : List Int) (w : World) (H : KernB w base g cap l ws vs bs) (ok : KOk cap l ws vs bs) (hbs : bs = sumsL vs 0) (hP : RdI w P p) (lp : p.length ≤ 1000000000) :
    Calls Try.prog 17 #[.pointer (some ⟨g, 0, none⟩), .slice P p.length c] w fun e w' => e = .returned (BoundVal (boundP cap ws vs p)) ∧ Ext w w' := by
  have ST := state_any P c p w H ok hP lp
  have HBr := fun (room : Int) (hf : p.length ≤ l.length) (hr : 0 ≤ room ∧ room ≤ 2147483647) W (x : Ext w W) => brings_any p.length room W (H.ext x) ok hf hr
  obtain ⟨PA, pc, WA, wc, VA, vc, HA, hc, hB, -, -, -, -, ⟨rH, -⟩⟩ := H
  obtain ⟨okc, l64, lw, lv, lb, sw, sv⟩ := ok
  have c4 : w.cell? ⟨g, 4, none⟩ = some (.slice HA bs.length hc) := hB.cell 4
  have zg := hB.lt
  replace hB := Lib.hid hB
  replace ST := Lib.hid ST
  replace HBr := Lib.hid HBr
  have HK : ∀ o, stP cap 0 ws vs p = o → boundP cap ws vs p = (match o with
    | none => (0, 1)
    | some (room, out) => (out + sumL (vs.drop p.length) - bringsP room (ws.drop p.length) (vs.drop p.length), 0)) := fun o ho => by subst ho; rfl
  replace HK := Lib.hid HK
  obtain ⟨st, hst⟩ : ∃ st, Hid (stP cap 0 ws vs p = st) := ⟨_, rfl⟩
  rw [hst.out] at ST
  have HK2 := HK.out _ hst.out
  clear HK
  rcases st with _ | ⟨room, out⟩
  · simp only at HK2
    rw [HK2]
    replace hbs := Lib.hid hbs
    replace lw := Lib.hid lw
    replace lv := Lib.hid lv
    replace lb := Lib.hid lb
    clear HK2
    go_enter Try.func17, Try.ntmps17
    go_wp2_with (fail)
    refine ST.out.mono ?_
    rintro e w1 ⟨rfl, x1⟩
    unfold stVal
    go_wp2
    go_ret2
    exact ⟨rfl, x1⟩
  · simp only at HK2
    have hle : p.length ≤ l.length := by
      by_cases h : ws.length < p.length
      · have h2 := hst.out; rw [stP_long h] at h2; cases h2
      · omega
    have bR := stP_room (fun x hx => (sw x hx).1) okc.1 hst.out
    have bO := stP_out sv hst.out
    have hx : bs[p.length]? = some (sumL (vs.drop p.length)) := by
      rw [hbs]
      exact sumsL_get (by omega) (by omega)
    obtain ⟨hb, ho, x, rfl, zh, ch, ex, _⟩ := rH.at (k := p.length) (by omega)
    obtain rfl : x = sumL (vs.drop p.length) := by
      have h := ex.out
      rw [hx] at h
      exact (Option.some.inj h).symm
    have bS := sumL_bd sv p.length
    rw [lv] at bS
    have HB0 := HBr.out room hle ⟨bR.1, by omega⟩
    have bN := bringsP_nonneg (room := room) (ws := ws.drop p.length) (vs := vs.drop p.length) bR.1 (fun x hx => (sw x (List.mem_of_mem_drop hx)).1) (fun x hx => (sv x (List.mem_of_mem_drop hx)).1)
    have bL := bringsP_le (room := room) (ws := ws.drop p.length) (vs := vs.drop p.length) bR.1 (fun x hx => (sw x (List.mem_of_mem_drop hx)).1) (fun x hx => (sv x (List.mem_of_mem_drop hx)).1)
    rw [HK2]
    generalize sumL (vs.drop p.length) = S at *
    generalize bringsP room (ws.drop p.length) (vs.drop p.length) = br at *
    obtain ⟨bR1, bR2⟩ := bR
    obtain ⟨bO1, bO2⟩ := bO
    obtain ⟨bS1, bS2⟩ := bS
    have ad1 : Hid (IntKind.i64.wrap (out + S) = out + S) := IntWalk.i64_in _ (by omega)
    have ad2 : Hid (IntKind.i64.wrap (out + S - br) = out + S - br) := IntWalk.i64_in _ (by omega)
    have hpb : (p.length : Int) < (bs.length : Int) := by omega
    have hpb2 : p.length < bs.length := by omega
    replace hbs := Lib.hid hbs
    replace lw := Lib.hid lw
    replace lv := Lib.hid lv
    replace lb := Lib.hid lb
    replace HB0 := Lib.hid HB0
    clear HK2 hx ex HBr
    go_enter Try.func17, Try.ntmps17
    go_wp2_with (fail)
    refine ST.out.mono ?_
    rintro e w1 ⟨rfl, x1⟩
    unfold stVal
    have k4 := keepEL x1 zg c4
    have kh := keepEL x1 zh ch
    have zg1 := Nat.lt_of_lt_of_le zg x1.size
    have zh1 := Nat.lt_of_lt_of_le zh x1.size
    go_wp2_with (fail)
    have ad1' := ad1.out
    have ad2' := ad2.out
    go_region_held3 (fun w' => w'.cell? ⟨g, 4, none⟩ = some (.slice (some ⟨hb, ho, none⟩) bs.length hc) ∧ w'.cell? ⟨hb, ho + p.length, none⟩ = some (.int .i64 S)) (go_keep)
      (first | (go_at_call 62; refine (HB0.out _ (Ext.tr (a := w) x1 (by (repeat (first | assumption | exact Ext.rf _ | apply Ext.drew | apply Ext.drewN | apply Ext.alloc))))).mono ?_; rintro e w2 ⟨rfl, x2⟩; have X2 := Ext.tr (a := w1) (by (repeat (first | assumption | exact Ext.rf _ | apply Ext.drew | apply Ext.drewN | apply Ext.alloc))) x2; have s1 := keepEL X2 zg1 k4; have s2 := keepEL X2 zh1 kh))
    all_goals go_wp2
    all_goals go_ret2
    all_goals exact ⟨rfl, Ext.tr x1 (by (repeat (first | assumption | exact Ext.rf _ | apply Ext.drew | apply Ext.drewN | apply Ext.alloc)))⟩
end Go.Proofs.Ytpfdkocelmmllaa
