/-
  The document's kernel of a knapsack: Bound.
-/
import Derived.Test.YtpfdkocelmmllaaRefKA
namespace Go.Proofs.Ytpfdkocelmmllaa
open Go.RowKit Go.ChangeShapes Go.WideShapes Go.ChangeAt Go.Deep

set_option maxRecDepth 100000 in
set_option maxHeartbeats 4000000 in
theorem rbound_any (i : InstP) (us : List Value) (P : Option Addr) (c : Nat) (p : List Int) (w : World) (H : RInst w us i) (ok : KnapOk i) (hP : RdI w P p) (lp : p.length ≤ 1000000000) :
    Calls Try.prog 18 #[.agg (List.toArray us), .slice P p.length c] w fun e w' => e = .returned (BoundVal (boundP i.cap (wsP i) (vsP i) p)) ∧ Ext w w' := by
  have K := kok ok
  have lN := orderP_len ok
  have ST := fun (W : World) (x : Ext w W) => rstate_any i us P c p W (H.ext x) ok (hP.ext x) lp
  have LM : ∀ k q, (orderP i)[k]? = some q → q < i.weight.length ∧ q < i.value.length := fun k q h => by
    have h1 := ratioP_lt h
    have := ok.w
    have := ok.v
    omega
  have EW : ∀ k q x, (orderP i)[k]? = some q → i.weight[q]? = some x → (wsP i)[k]? = some x := fun k q x h1 h2 => inOrder_get h1 h2
  have EV : ∀ k q x, (orderP i)[k]? = some q → i.value[q]? = some x → (vsP i)[k]? = some x := fun k q x h1 h2 => inOrder_get h1 h2
  have K1 := K.cap
  have K2 := K.l64
  have K3 := K.lw
  have K4 := K.lv
  have K5 := K.sw
  have K6 := K.sv
  generalize orderP i = l at *
  generalize wsP i = ws at *
  generalize vsP i = vs at *
  clear K ok
  obtain ⟨kind, nn, cap, xw, xv, co⟩ := i
  obtain ⟨A, a, B, b, D, d, rfl, ⟨rA, iA, lA, mA⟩, ⟨rB, iB, lB, mB⟩, -⟩ := H
  simp only at *
  obtain ⟨n, rfl⟩ : ∃ n : Nat, nn = (n : Int) := ⟨nn.toNat, by omega⟩
  have hn : l.length = n := by omega
  clear lN
  have hn2 : n ≤ 64 := by omega
  replace ST := Lib.hid ST
  replace LM := Lib.hid LM
  replace EW := Lib.hid EW
  replace EV := Lib.hid EV
  replace K3 := Lib.hid K3
  replace K4 := Lib.hid K4
  replace K5 := Lib.hid K5
  replace K6 := Lib.hid K6
  replace rA := Lib.hid rA
  replace rB := Lib.hid rB
  replace iA := Lib.hid iA
  replace iB := Lib.hid iB
  replace mA := Lib.hid mA
  replace mB := Lib.hid mB
  replace hn := Lib.hid hn
  have B1 : Hid (Blk (w.alloc (.cells #[.int .i64 kind, .int .i64 n, .int .i64 cap, .slice A xw.length a, .slice B xv.length b, .slice D co.length d] 25)) w.heap.size 25 #[.int .i64 kind, .int .i64 n, .int .i64 cap, .slice A xw.length a, .slice B xv.length b, .slice D co.length d]) := .new rfl
  obtain ⟨bd, hbd⟩ : ∃ bd, Hid (boundP cap ws vs p = bd) := ⟨_, rfl⟩
  rw [hbd.out]
  have HK : ∀ o, stP cap 0 ws vs p = o → bd = (match o with
    | none => (0, 1)
    | some (room, out) => (out + sumL (vs.drop p.length) - bringsP room (ws.drop p.length) (vs.drop p.length), 0)) := fun o ho => by subst ho; exact hbd.out.symm
  have HL : Hid (∀ q, stP cap 0 ws vs p = some q → p.length ≤ n) := fun q hq => by
    by_cases h : ws.length < p.length
    · rw [stP_long h] at hq; cases hq
    · have h3 := K3.out; have h4 := hn.out; omega
  replace HK := Lib.hid HK
  obtain ⟨st, hst⟩ : ∃ st, Hid (stP cap 0 ws vs p = st) := ⟨_, rfl⟩
  rw [hst.out] at ST
  have HK2 := HK.out _ hst.out
  clear HK hbd
  rcases st with _ | ⟨room, out⟩
  · simp only at HK2
    subst HK2
    go_enter Try.func18, Try.ntmps18
    go_wp2_with (fail)
    refine (ST.out _ (by (repeat (first | assumption | exact Ext.rf _ | apply Ext.drew | apply Ext.drewN | apply Ext.alloc)))).mono ?_
    rintro e w1 ⟨x1, rfl⟩
    have X1 := Ext.tr (a := w) (by (repeat (first | assumption | exact Ext.rf _ | apply Ext.drew | apply Ext.drewN | apply Ext.alloc))) x1
    go_wp2
    go_ret2
    exact ⟨rfl, X1⟩
  · simp only at HK2
    have hle := HL.out _ hst.out
    have bR := stP_room (fun x hx => (K5.out x hx).1) K1.1 hst.out
    have bO := stP_out K6.out hst.out
    obtain ⟨T, hT⟩ : ∃ T, Hid (T = sumL (vs.drop p.length)) := ⟨_, rfl⟩
    obtain ⟨G, hG⟩ : ∃ G, Hid (G = bringsP room (ws.drop p.length) (vs.drop p.length)) := ⟨_, rfl⟩
    rw [← hT.out, ← hG.out] at HK2
    subst HK2
    have bT := sumL_bd K6.out p.length
    have b0 : 0 ≤ G := by
      rw [hG.out]
      exact bringsP_nonneg bR.1 (fun x hx => (K5.out x (List.mem_of_mem_drop hx)).1) (fun x hx => (K6.out x (List.mem_of_mem_drop hx)).1)
    have b9 : G ≤ T := by
      rw [hG.out, hT.out]
      exact bringsP_le bR.1 (fun x hx => (K5.out x (List.mem_of_mem_drop hx)).1) (fun x hx => (K6.out x (List.mem_of_mem_drop hx)).1)
    have bT2 : T ≤ 137438953408 := by
      have h3 := K4.out
      have h4 := hn.out
      rw [← hT.out] at bT
      have := bT.2
      omega
    clear bT
    obtain ⟨bR1, bR2⟩ := bR
    obtain ⟨bO1, bO2⟩ := bO
    obtain ⟨kc1, kc2⟩ := K1
    go_enter Try.func18, Try.ntmps18
    go_wp2_with (fail)
    refine (ST.out _ (by (repeat (first | assumption | exact Ext.rf _ | apply Ext.drew | apply Ext.drewN | apply Ext.alloc)))).mono ?_
    rintro e w1 ⟨x1, LA, lc, rfl, rL⟩
    have X1 := Lib.hid (Ext.tr (a := w) (by (repeat (first | assumption | exact Ext.rf _ | apply Ext.drew | apply Ext.drewN | apply Ext.alloc))) x1)
    have BB := Lib.hid (B1.out.ext x1)
    have d1 : w1.cell? ⟨w.heap.size, 1, none⟩ = some (.int .i64 n) := BB.out.cell 1
    have d3 : w1.cell? ⟨w.heap.size, 3, none⟩ = some (.slice A xw.length a) := BB.out.cell 3
    have d4 : w1.cell? ⟨w.heap.size, 4, none⟩ = some (.slice B xv.length b) := BB.out.cell 4
    have zb := BB.out.lt
    replace rL := Lib.hid rL
    clear x1
    go_wp2_with (fail)
    go_loopw [7, 10, 11, 12, 13] (fun r t u m i wr => ∃ (k : Nat) (rm rest up : Int) (more : Bool), i = .int .i64 k ∧ r = .int .i64 rm ∧ t = .int .i64 rest ∧ u = .int .i64 up ∧ m = .bool more ∧ k ≤ n ∧ 0 ≤ rm ∧ rm ≤ 2147483647 ∧ 0 ≤ rest ∧ rest ≤ 2147483647 * (k : Int) ∧ 0 ≤ up ∧ up ≤ rest ∧
        Hid (T = rest + sumL (vs.drop k)) ∧ Hid (if more = true then G = up + bringsP rm (ws.drop k) (vs.drop k) else G = up) ∧ Ext w1 wr) (fun _ _ _ _ i _ => n - (intOf i).toNat)
    case atStart => exact ⟨p.length, room, 0, 0, true, rfl, rfl, rfl, rfl, rfl, hle, bR1, by omega, by omega, by omega, by omega, by omega, by rw [Int.zero_add]; exact hT, by
      have h : G = 0 + bringsP room (ws.drop p.length) (vs.drop p.length) := by rw [Int.zero_add]; exact hG.out
      exact h, Ext.rf _⟩
    case round =>
      obtain ⟨wo, rfl⟩ : ∃ wo : World, wo = wr := ⟨_, rfl⟩
      obtain ⟨k, rm, rest, up, more, rfl, rfl, rfl, rfl, rfl, hk, q1, q2, q3, q4, q5, q6, HT, HG, Y⟩ := hrel
      have e1 := keepEL Y zb d1
      by_cases hlt : k < n
      · have hkl : k < l.length := by rw [hn.out]; exact hlt
        obtain ⟨q, hq0⟩ : ∃ q, Hid (l[k]? = some q) := ⟨l[k], List.getElem?_eq_getElem hkl⟩
        obtain ⟨qb, qo, qi, rfl, zq, cq, eq, _⟩ := (rL.out.ext Y).at (k := k) (by rw [nl_len]; exact hkl)
        obtain rfl : qi = (q : Int) := by
          have h1 := nl_get hq0.out
          rw [eq.out] at h1
          exact Option.some.inj h1
        obtain ⟨hqw, hqv⟩ := LM.out k q hq0.out
        obtain ⟨wb, wo', u, rfl, zu, cu, eu, _⟩ := (rA.out.ext (X1.out.tr Y)).at hqw
        obtain ⟨vb, vo', v, rfl, zv, cv, ev, _⟩ := (rB.out.ext (X1.out.tr Y)).at hqv
        have du : Hid (ws.drop k = u :: ws.drop (k + 1)) := by
          obtain ⟨h1, h2⟩ := List.getElem?_eq_some_iff.1 (EW.out k q u hq0.out eu.out)
          exact (by rw [List.drop_eq_getElem_cons h1, h2] : ws.drop k = u :: ws.drop (k + 1))
        have dv : Hid (vs.drop k = v :: vs.drop (k + 1)) := by
          obtain ⟨h1, h2⟩ := List.getElem?_eq_some_iff.1 (EV.out k q v hq0.out ev.out)
          exact (by rw [List.drop_eq_getElem_cons h1, h2] : vs.drop k = v :: vs.drop (k + 1))
        have bu := K5.out.get (EW.out k q u hq0.out eu.out)
        have bv := K6.out.get (EV.out k q v hq0.out ev.out)
        have e3 := keepEL Y zb d3
        have e4 := keepEL Y zb d4
        have qi1 : (q : Int) < (xw.length : Int) := by omega
        have qi2 : (q : Int) < (xv.length : Int) := by omega
        have qi3 : (k : Int) < (l.length : Int) := by omega
        have HT2 : Hid (T = (rest + v) + sumL (vs.drop (k + 1))) := by
          have h := HT.out
          rw [dv.out] at h
          simp only [sumL] at h
          have h2 : T = (rest + v) + sumL (vs.drop (k + 1)) := by omega
          exact h2
        clear HT eu ev eq
        cases more with
        | false =>
          have hG2 : (if (false : Bool) = true then G = up + bringsP rm (ws.drop (k + 1)) (vs.drop (k + 1)) else G = up) := by
            have h := HG.out
            rw [if_neg (by decide)] at h ⊢
            exact h
          have HG2 := Lib.hid hG2
          clear hG2 HG du dv
          go_wp2_with (go_quiet (fail))
          go_roundw
          case rel => exact ⟨k + 1, rm, rest + v, up, false, by go_num, rfl, rfl, rfl, rfl, by omega, by omega, by omega, by omega, by omega, by omega, by omega, HT2, HG2, by repeat (first | exact Y | apply Ext.drewN)⟩
          case measure => simp [intOf]; omega
        | true =>
          have hG1 : G = up + bringsP rm (u :: ws.drop (k + 1)) (v :: vs.drop (k + 1)) := by
            have h := HG.out
            rw [if_pos rfl, du.out, dv.out] at h
            exact h
          replace hG1 := Lib.hid hG1
          clear HG du dv
          by_cases hle2 : u ≤ rm
          · have hG2 : (if (true : Bool) = true then G = (up + v) + bringsP (rm - u) (ws.drop (k + 1)) (vs.drop (k + 1)) else G = up + v) := by
              have h := hG1.out
              rw [bringsP, if_neg (by omega), ← Int.add_assoc] at h
              rw [if_pos rfl]
              exact h
            have HG2 := Lib.hid hG2
            clear hG2
            go_wp2_with (go_quiet (fail))
            go_roundw
            case rel => exact ⟨k + 1, rm - u, rest + v, up + v, true, by go_num, rfl, rfl, rfl, rfl, by omega, by omega, by omega, by omega, by omega, by omega, by omega, HT2, HG2, by repeat (first | exact Y | apply Ext.drewN)⟩
            case measure => simp [intOf]; omega
          · have hm := mul_bd bv.1 bv.2 q1 q2
            have hpos : 0 < u := by omega
            have hqv2 : v * rm / u ≤ v := by
              have h1 : v * rm ≤ v * u := Int.mul_le_mul_of_nonneg_left (by omega) bv.1
              have h2 : v * rm / u ≤ v * u / u := Int.ediv_le_ediv hpos h1
              rwa [Int.mul_ediv_cancel _ (by omega)] at h2
            have hq0' : 0 ≤ v * rm / u := Int.ediv_nonneg hm.1 (by omega)
            have hG2 : (if (false : Bool) = true then G = (up + v * rm / u) + bringsP rm (ws.drop (k + 1)) (vs.drop (k + 1)) else G = up + v * rm / u) := by
              have h := hG1.out
              rw [bringsP, if_pos (by omega)] at h
              rw [if_neg (by decide)]
              exact h
            have HG2 := Lib.hid hG2
            clear hG2
            obtain ⟨z, hz⟩ : ∃ z, Hid (z = v * rm / u) := ⟨_, rfl⟩
            rw [← hz.out] at hqv2 hq0' HG2
            have w1' : wrap64 (v * rm) = v * rm := IntWalk.wrap64_in _ ⟨by omega, by omega⟩
            have w2' : (v * rm).tdiv u = z := by rw [Int.tdiv_eq_ediv_of_nonneg hm.1, hz.out]
            have w3' : v * rm / u = z := hz.out.symm
            clear hm
            go_wp2_with (go_quiet (fail))
            go_roundw
            case rel => exact ⟨k + 1, rm, rest + v, up + z, false, by go_num, rfl, rfl, rfl, rfl, by omega, by omega, by omega, by omega, by omega, by omega, by omega, HT2, HG2, by repeat (first | exact Y | apply Ext.drewN)⟩
            case measure => simp [intOf]; omega
      · obtain rfl : k = n := by omega
        have HT2 : Hid (rest = T) := by
          have h := HT.out
          rw [List.drop_of_length_le (l := vs) (i := k) (by have h3 := K4.out; have h4 := hn.out; omega)] at h
          simp only [sumL] at h
          have h2 : rest = T := by omega
          exact h2
        have HG2 : Hid (up = G) := by
          have h := HG.out
          rw [List.drop_of_length_le (l := ws) (i := k) (by have h3 := K3.out; have h4 := hn.out; omega)] at h
          have h0 : bringsP rm [] (vs.drop k) = 0 := by cases vs.drop k <;> rfl
          rw [h0, Int.add_zero] at h
          have h2 : up = G := by
            cases more with
            | true => rw [if_pos rfl] at h; exact h.symm
            | false => rw [if_neg (by decide)] at h; exact h.symm
          exact h2
        obtain rfl := HT2.out
        obtain rfl := HG2.out
        clear HT HG hT hG HT2 HG2
        go_wp2_with (fail)
        go_ret2
        exact ⟨rfl, X1.out.tr Y⟩
end Go.Proofs.Ytpfdkocelmmllaa
