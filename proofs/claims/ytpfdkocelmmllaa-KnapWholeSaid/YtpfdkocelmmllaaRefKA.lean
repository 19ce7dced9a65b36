/-
  The document's kernel of a knapsack: where a beginning has come to.
-/
import Derived.Test.YtpfdkocelmmllaaBigI
namespace Go.Proofs.Ytpfdkocelmmllaa
open Go.RowKit Go.ChangeShapes Go.WideShapes Go.ChangeAt Go.Deep

def orderP (i : InstP) : List Nat := ratioP i.value i.weight
def wsP (i : InstP) : List Int := inOrder (orderP i) i.weight
def vsP (i : InstP) : List Int := inOrder (orderP i) i.value
theorem orderP_len {i : InstP} (ok : KnapOk i) : ((orderP i).length : Int) = i.n := by unfold orderP; rw [ratioP_len]; exact ok.v
theorem small_inOrder {l : List Nat} {v : List Int} (h : Small31 v) : Small31 (inOrder l v) := by
  intro x hx
  obtain ⟨q, hq, rfl⟩ := List.mem_map.1 hx
  cases hv : v[q]? with
  | none => simp [List.getD, hv]
  | some y => rw [getD_some hv]; exact h.get hv
theorem kok {i : InstP} (ok : KnapOk i) : KOk i.cap (orderP i) (wsP i) (vsP i) (sumsL (vsP i) 0) :=
  ⟨ok.cap, by have := orderP_len ok; have := ok.n2; omega, inOrder_len _ _, inOrder_len _ _, by rw [sumsL_len]; unfold vsP; rw [inOrder_len], small_inOrder ok.sw, small_inOrder ok.sv⟩
def RStPost (l : List Nat) (st : Option (Int × Int)) (w : World) (e : Ending) (w' : World) : Prop := Ext w w' ∧ match st with
  | none => e = .returned (.tuple #[.slice none 0 0, .int .i64 0, .int .i64 0, .bool false])
  | some (r, o) => ∃ A c, e = .returned (.tuple #[.slice A l.length c, .int .i64 r, .int .i64 o, .bool true]) ∧ RdI w' A (nl l)
set_option maxRecDepth 100000 in
set_option maxHeartbeats 4000000 in
theorem rstate_any (i : InstP) (us : List Value) (P : Option Addr) (c : Nat) (p : List Int) (w : World) (H : RInst w us i) (ok : KnapOk i) (hP : RdI w P p) (lp : p.length ≤ 1000000000) :
    Calls Try.prog 63 #[.agg (List.toArray us), .slice P p.length c] w (RStPost (orderP i) (stP i.cap 0 (wsP i) (vsP i) p) w) := by
  have K := kok ok
  have lN := orderP_len ok
  have RA := fun (A B : Option Addr) (a b : Nat) (W : World) (hA : RdI W A i.value) (hB : RdI W B i.weight) => rratio_any A B a b i.value i.weight W hA hB (by have := ok.w; have := ok.v; omega) (by have := ok.v; have := ok.n2; omega) ok.sv ok.sw
  have LM : ∀ k q, (orderP i)[k]? = some q → q < i.weight.length ∧ q < i.value.length := fun k q h => by
    have h1 := ratioP_lt h
    have := ok.w
    have := ok.v
    omega
  have EW : ∀ k q x, (orderP i)[k]? = some q → i.weight[q]? = some x → (wsP i)[k]? = some x := fun k q x h1 h2 => inOrder_get h1 h2
  have EV : ∀ k q x, (orderP i)[k]? = some q → i.value[q]? = some x → (vsP i)[k]? = some x := fun k q x h1 h2 => inOrder_get h1 h2
  change ∀ (A B : Option Addr) (a b : Nat) (W : World), RdI W A i.value → RdI W B i.weight → Calls Try.prog _ _ W (RRatioPost (orderP i) W) at RA
  have K1 := K.cap
  have K2 := K.l64
  have K3 := K.lw
  have K4 := K.lv
  have K5 := K.sw
  have K6 := K.sv
  generalize orderP i = l at *
  generalize wsP i = ws at *
  generalize vsP i = vs at *
  clear K ok
  obtain ⟨kind, nn, cap, xw, xv, co⟩ := i
  obtain ⟨A, a, B, b, D, d, rfl, ⟨rA, iA, lA, mA⟩, ⟨rB, iB, lB, mB⟩, -⟩ := H
  simp only at *
  obtain ⟨n, rfl⟩ : ∃ n : Nat, nn = (n : Int) := ⟨nn.toNat, by omega⟩
  have hn : l.length = n := by omega
  clear lN
  obtain ⟨kc1, kc2⟩ := K1
  replace RA := Lib.hid RA
  replace LM := Lib.hid LM
  replace EW := Lib.hid EW
  replace EV := Lib.hid EV
  replace K3 := Lib.hid K3
  replace K4 := Lib.hid K4
  replace K5 := Lib.hid K5
  replace K6 := Lib.hid K6
  replace rA := Lib.hid rA
  replace rB := Lib.hid rB
  replace iA := Lib.hid iA
  replace iB := Lib.hid iB
  replace mA := Lib.hid mA
  replace mB := Lib.hid mB
  have hn2 : n ≤ 64 := by omega
  replace hn := Lib.hid hn
  have B1 : Hid (Blk (w.alloc (.cells #[.int .i64 kind, .int .i64 n, .int .i64 cap, .slice A xw.length a, .slice B xv.length b, .slice D co.length d] 25)) w.heap.size 25 #[.int .i64 kind, .int .i64 n, .int .i64 cap, .slice A xw.length a, .slice B xv.length b, .slice D co.length d]) := .new rfl
  obtain ⟨st, hst⟩ : ∃ st, Hid (stP cap 0 ws vs p = st) := ⟨_, rfl⟩
  rw [hst.out]
  go_enter Try.func63, Try.ntmps63
  go_wp2_with (fail)
  refine (RA.out B A b a _ (rB.out.ext ((Ext.rf _).alloc _)) (rA.out.ext ((Ext.rf _).alloc _))).mono ?_
  rintro e w2 ⟨LA, lc, rfl, oL, x2⟩
  have X2 := Lib.hid (Ext.tr (a := w) (by (repeat (first | assumption | exact Ext.rf _ | apply Ext.drew | apply Ext.drewN | apply Ext.alloc))) x2)
  have B2 := Lib.hid (B1.out.ext x2)
  have rL := Lib.hid oL.read
  have d1 : w2.cell? ⟨w.heap.size, 1, none⟩ = some (.int .i64 n) := B2.out.cell 1
  have d2 : w2.cell? ⟨w.heap.size, 2, none⟩ = some (.int .i64 cap) := B2.out.cell 2
  have d3 : w2.cell? ⟨w.heap.size, 3, none⟩ = some (.slice A xw.length a) := B2.out.cell 3
  have d4 : w2.cell? ⟨w.heap.size, 4, none⟩ = some (.slice B xv.length b) := B2.out.cell 4
  have zb := B2.out.lt
  clear x2 oL
  by_cases hlen : n < p.length
  · have HN : Hid (st = none) := by
      have h := hst.out
      rw [stP_long (by rw [K3.out, hn.out]; exact hlen)] at h
      exact h.symm
    go_wp2_with (fail)
    refine bodyPost_ret (v := .tuple #[.slice none 0 0, .int .i64 0, .int .i64 0, .bool false]) (by simp [results, Try.results63, go_sem]) rfl ?_
    rw [HN.out]
    exact ⟨X2.out, rfl⟩
  · have hlb : decide (n < p.length) = false := by simpa using hlen
    go_wp2_with (fail)
    go_loopw [10, 11, 12] (fun r o i wr => ∃ (k : Nat) (room out : Int), i = .int .i64 k ∧ r = .int .i64 room ∧ o = .int .i64 out ∧ k ≤ p.length ∧ 0 ≤ room ∧ room ≤ 2147483647 ∧ 0 ≤ out ∧ out ≤ 2147483647 * (k : Int) ∧ Hid (st = stP room out (ws.drop k) (vs.drop k) (p.drop k)) ∧ Ext w2 wr) (fun _ _ i _ => p.length - (intOf i).toNat)
    case atStart => exact ⟨0, cap, 0, rfl, rfl, rfl, by omega, kc1, kc2, by omega, by omega, hst.out.symm, Ext.rf _⟩
    case round =>
      obtain ⟨wo, rfl⟩ : ∃ wo : World, wo = wr := ⟨_, rfl⟩
      obtain ⟨k, room, out, rfl, rfl, rfl, hk, b1, b2, b3, b4, HS, Y⟩ := hrel
      by_cases hlt : k < p.length
      · obtain ⟨pb, po, x, rfl, _, cx, ex, dx⟩ := (hP.ext (X2.out.tr Y)).at hlt
        have hkl : k < l.length := by rw [hn.out]; omega
        obtain ⟨q, hq0⟩ : ∃ q, Hid (l[k]? = some q) := ⟨l[k], List.getElem?_eq_getElem hkl⟩
        obtain ⟨qb, qo, qi, rfl, zq, cq, eq, _⟩ := (rL.out.ext Y).at (k := k) (by rw [nl_len]; exact hkl)
        obtain rfl : qi = (q : Int) := by
          have h1 := nl_get hq0.out
          rw [eq.out] at h1
          exact Option.some.inj h1
        obtain ⟨hqw, hqv⟩ := LM.out k q hq0.out
        obtain ⟨wb, wo', u, rfl, zu, cu, eu, _⟩ := (rA.out.ext (X2.out.tr Y)).at hqw
        obtain ⟨vb, vo', v, rfl, zv, cv, ev, _⟩ := (rB.out.ext (X2.out.tr Y)).at hqv
        have du : Hid (ws.drop k = u :: ws.drop (k + 1)) := by
          obtain ⟨h1, h2⟩ := List.getElem?_eq_some_iff.1 (EW.out k q u hq0.out eu.out)
          exact (by rw [List.drop_eq_getElem_cons h1, h2] : ws.drop k = u :: ws.drop (k + 1))
        have dv : Hid (vs.drop k = v :: vs.drop (k + 1)) := by
          obtain ⟨h1, h2⟩ := List.getElem?_eq_some_iff.1 (EV.out k q v hq0.out ev.out)
          exact (by rw [List.drop_eq_getElem_cons h1, h2] : vs.drop k = v :: vs.drop (k + 1))
        have bu := K5.out.get (EW.out k q u hq0.out eu.out)
        have bv := K6.out.get (EV.out k q v hq0.out ev.out)
        have e3 := keepEL Y zb d3
        have e4 := keepEL Y zb d4
        have HT : Hid (st = if x = 1 then (if room - u < 0 then none else stP (room - u) out (ws.drop (k + 1)) (vs.drop (k + 1)) (p.drop (k + 1))) else if x = 0 then (if room < 0 then none else stP room (out + v) (ws.drop (k + 1)) (vs.drop (k + 1)) (p.drop (k + 1))) else none) := by
          have h := HS.out
          rw [dx.out, du.out, dv.out] at h
          exact h
        have wr1 : Hid (IntKind.i64.wrap (room - u) = room - u) := IntWalk.i64_in _ (by omega)
        have wr2 : Hid (IntKind.i64.wrap (out + v) = out + v) := IntWalk.i64_in _ (by omega)
        clear HS ex eu ev dx du dv eq
        have qi1 : (q : Int) < (xw.length : Int) := by omega
        have qi2 : (q : Int) < (xv.length : Int) := by omega
        have qi3 : (k : Int) < (l.length : Int) := by omega
        by_cases x1 : x = 1
        · subst x1
          have wr1' := wr1.out
          by_cases hneg : room - u < 0
          · have HN : Hid (st = none) := by
              have h := HT.out
              rw [if_pos rfl, if_pos hneg] at h
              exact h
            go_wp2_with (go_quiet (fail))
            all_goals (refine bodyPost_ret (v := .tuple #[.slice none 0 0, .int .i64 0, .int .i64 0, .bool false]) (by simp [results, Try.results63, go_sem]) rfl ?_)
            all_goals rw [HN.out]
            all_goals exact ⟨Ext.tr X2.out (by repeat (first | exact Y | apply Ext.drewN)), rfl⟩
          · have HN : Hid (st = stP (room - u) out (ws.drop (k + 1)) (vs.drop (k + 1)) (p.drop (k + 1))) := by
              have h := HT.out
              rw [if_pos rfl, if_neg hneg] at h
              exact h
            go_wp2_with (go_quiet (fail))
            go_roundw
            case rel => exact ⟨k + 1, room - u, out, by go_num, rfl, rfl, by omega, by omega, by omega, by omega, by omega, HN, by repeat (first | exact Y | apply Ext.drewN)⟩
            case measure => simp [intOf]; omega
        · have x1' : (x == 1) = false := by simpa using x1
          have x1n : (x != 1) = true := by simpa using x1
          by_cases x0 : x = 0
          · subst x0
            have wr2' := wr2.out
            have HN : Hid (st = stP room (out + v) (ws.drop (k + 1)) (vs.drop (k + 1)) (p.drop (k + 1))) := by
              have h := HT.out
              rw [if_neg x1, if_pos rfl, if_neg (by omega)] at h
              exact h
            clear x1
            go_wp2_with (go_quiet (fail))
            go_roundw
            case rel => exact ⟨k + 1, room, out + v, by go_num, rfl, rfl, by omega, by omega, by omega, by omega, by omega, HN, by repeat (first | exact Y | apply Ext.drewN)⟩
            case measure => simp [intOf]; omega
          · have x0n : (x != 0) = true := by simpa using x0
            have HN : Hid (st = none) := by
              have h := HT.out
              rw [if_neg x1, if_neg x0] at h
              exact h
            clear x1 x0
            go_wp2_with (go_quiet (fail))
            all_goals (refine bodyPost_ret (v := .tuple #[.slice none 0 0, .int .i64 0, .int .i64 0, .bool false]) (by simp [results, Try.results63, go_sem]) rfl ?_)
            all_goals rw [HN.out]
            all_goals exact ⟨Ext.tr X2.out (by repeat (first | exact Y | apply Ext.drewN)), rfl⟩
      · have HN : Hid (st = some (room, out)) := by
          have h := HS.out
          rw [List.drop_of_length_le (l := p) (i := k) (by omega)] at h
          have h2 : stP room out (ws.drop k) (vs.drop k) [] = some (room, out) := by cases ws.drop k <;> cases vs.drop k <;> rfl
          rw [h2] at h
          exact h
        clear HS
        go_wp2_with (fail)
        refine bodyPost_ret (v := .tuple #[.slice LA l.length lc, .int .i64 room, .int .i64 out, .bool true]) (by simp [results, Try.results63, go_sem]) rfl ?_
        rw [HN.out]
        exact ⟨Ext.tr X2.out Y, LA, lc, rfl, rL.out.ext Y⟩
end Go.Proofs.Ytpfdkocelmmllaa
