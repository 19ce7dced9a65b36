/-
  The document's kernel of a knapsack: where a beginning has come to.
  A tour's kernel: Mirror, New, Depth.
  The kind of a problem in form.
  What the checker knows of a problem of any kind, plainly: how deep, which numbers may follow (rising), what it costs at least.
  The document's Perm (kurganref08), of all lists.
  kurganref08.Small at a checked knapsack.
    kurganref08.Cost at a checked knapsack and an answer of zeros and ones.
  Ways from city to city: what is left of a way, and how much it may cost at most.
  A tour's kernel: where a beginning has come to.
  Operations that only read, in whatever order; what is left may wait for them through others.
  A tour's kernel: where one may go to from a city; the two least numbers.
    A tour's kernel: the two least numbers.
    A tour's kernel: what rows cost at least, then columns.
  A tour's kernel: what meets at each city, at least.
  A tour's kernel: what may follow a beginning.
    A tour's kernel: no kernel; the answer of a whole list.
  A tour's kernel: what no answer that begins so is below.
  One number of the costs in memory.
  The document's tour: mirror, rest.
    The document's tour: where a beginning has come to.
    The document's tour: the answer of a whole list.
    The document's tour: what may follow.
    The law's own example of a tour, plainly.
  The document's tour: what meets at each city, at least.
  The document's tour: what no answer that begins so is below.
  A core of a drawn region, with words that need not be kept once they are spent.
-/
import Derived.Test.YtpapkofildcdiaaCheckTellsP3
namespace Go.Proofs.Ytpapkofildcdiaa
open Go.RowKit Go.ChangeShapes Go.WideShapes Go.ChangeAt Go.Deep

def orderP (i : InstP) : List Nat := ratioP i.value i.weight
def wsP (i : InstP) : List Int := inOrder (orderP i) i.weight
def vsP (i : InstP) : List Int := inOrder (orderP i) i.value
theorem orderP_len {i : InstP} (ok : KnapOk i) : ((orderP i).length : Int) = i.n := by unfold orderP; rw [ratioP_len]; exact ok.v
theorem small_inOrder {l : List Nat} {v : List Int} (h : Small31 v) : Small31 (inOrder l v) := by
  intro x hx
  obtain ⟨q, hq, rfl⟩ := List.mem_map.1 hx
  cases hv : v[q]? with
  | none => simp [List.getD, hv]
  | some y => rw [getD_some hv]; exact h.get hv
theorem kok {i : InstP} (ok : KnapOk i) : KOk i.cap (orderP i) (wsP i) (vsP i) (sumsL (vsP i) 0) :=
  ⟨ok.cap, by have := orderP_len ok; have := ok.n2; omega, inOrder_len _ _, inOrder_len _ _, by rw [sumsL_len]; unfold vsP; rw [inOrder_len], small_inOrder ok.sw, small_inOrder ok.sv⟩
def RStPost (l : List Nat) (st : Option (Int × Int)) (w : World) (e : Ending) (w' : World) : Prop := Ext w w' ∧ match st with
  | none => e = .returned (.tuple #[.slice none 0 0, .int .i64 0, .int .i64 0, .bool false])
  | some (r, o) => ∃ A c, e = .returned (.tuple #[.slice A l.length c, .int .i64 r, .int .i64 o, .bool true]) ∧ RdI w' A (nl l)
set_option maxRecDepth 100000 in
set_option maxHeartbeats 4000000 in
theorem rstate_any (i : InstP) (us : List Value) (P : Option Addr) (c : Nat) (p : List Int) (w : World) (H : RInst w us i) (ok : KnapOk i) (hP : RdI w P p) (lp : p.length ≤ 1000000000) :
    Calls Try.prog 49 #[.agg (List.toArray us), .slice P p.length c] w (RStPost (orderP i) (stP i.cap 0 (wsP i) (vsP i) p) w) := by
  have K := kok ok
  have lN := orderP_len ok
  have RA := fun (A B : Option Addr) (a b : Nat) (W : World) (hA : RdI W A i.value) (hB : RdI W B i.weight) => rratio_any A B a b i.value i.weight W hA hB (by have := ok.w; have := ok.v; omega) (by have := ok.v; have := ok.n2; omega) ok.sv ok.sw
  have LM : ∀ k q, (orderP i)[k]? = some q → q < i.weight.length ∧ q < i.value.length := fun k q h => by
    have h1 := ratioP_lt h
    have := ok.w
    have := ok.v
    omega
  have EW : ∀ k q x, (orderP i)[k]? = some q → i.weight[q]? = some x → (wsP i)[k]? = some x := fun k q x h1 h2 => inOrder_get h1 h2
  have EV : ∀ k q x, (orderP i)[k]? = some q → i.value[q]? = some x → (vsP i)[k]? = some x := fun k q x h1 h2 => inOrder_get h1 h2
  change ∀ (A B : Option Addr) (a b : Nat) (W : World), RdI W A i.value → RdI W B i.weight → Calls Try.prog _ _ W (RRatioPost (orderP i) W) at RA
  have K1 := K.cap
  have K2 := K.l64
  have K3 := K.lw
  have K4 := K.lv
  have K5 := K.sw
  have K6 := K.sv
  generalize orderP i = l at *
  generalize wsP i = ws at *
  generalize vsP i = vs at *
  clear K ok
  obtain ⟨kind, nn, cap, xw, xv, co⟩ := i
  obtain ⟨A, a, B, b, D, d, rfl, ⟨rA, iA, lA, mA⟩, ⟨rB, iB, lB, mB⟩, -⟩ := H
  simp only at *
  obtain ⟨n, rfl⟩ : ∃ n : Nat, nn = (n : Int) := ⟨nn.toNat, by omega⟩
  have hn : l.length = n := by omega
  clear lN
  obtain ⟨kc1, kc2⟩ := K1
  replace RA := Lib.hid RA
  replace LM := Lib.hid LM
  replace EW := Lib.hid EW
  replace EV := Lib.hid EV
  replace K3 := Lib.hid K3
  replace K4 := Lib.hid K4
  replace K5 := Lib.hid K5
  replace K6 := Lib.hid K6
  replace rA := Lib.hid rA
  replace rB := Lib.hid rB
  replace iA := Lib.hid iA
  replace iB := Lib.hid iB
  replace mA := Lib.hid mA
  replace mB := Lib.hid mB
  have hn2 : n ≤ 64 := by omega
  replace hn := Lib.hid hn
  have B1 : Hid (Blk (w.alloc (.cells #[.int .i64 kind, .int .i64 n, .int .i64 cap, .slice A xw.length a, .slice B xv.length b, .slice D co.length d] 25)) w.heap.size 25 #[.int .i64 kind, .int .i64 n, .int .i64 cap, .slice A xw.length a, .slice B xv.length b, .slice D co.length d]) := .new rfl
  obtain ⟨st, hst⟩ : ∃ st, Hid (stP cap 0 ws vs p = st) := ⟨_, rfl⟩
  rw [hst.out]
  go_enter Try.func49, Try.ntmps49
  go_wp2_with (fail)
  refine (RA.out B A b a _ (rB.out.ext ((Ext.rf _).alloc _)) (rA.out.ext ((Ext.rf _).alloc _))).mono ?_
  rintro e w2 ⟨LA, lc, rfl, oL, x2⟩
  have X2 := Lib.hid (Ext.tr (a := w) (by (repeat (first | assumption | exact Ext.rf _ | apply Ext.drew | apply Ext.drewN | apply Ext.alloc))) x2)
  have B2 := Lib.hid (B1.out.ext x2)
  have rL := Lib.hid oL.read
  have d1 : w2.cell? ⟨w.heap.size, 1, none⟩ = some (.int .i64 n) := B2.out.cell 1
  have d2 : w2.cell? ⟨w.heap.size, 2, none⟩ = some (.int .i64 cap) := B2.out.cell 2
  have d3 : w2.cell? ⟨w.heap.size, 3, none⟩ = some (.slice A xw.length a) := B2.out.cell 3
  have d4 : w2.cell? ⟨w.heap.size, 4, none⟩ = some (.slice B xv.length b) := B2.out.cell 4
  have zb := B2.out.lt
  clear x2 oL
  by_cases hlen : n < p.length
  · have HN : Hid (st = none) := by
      have h := hst.out
      rw [stP_long (by rw [K3.out, hn.out]; exact hlen)] at h
      exact h.symm
    go_wp2_with (fail)
    refine bodyPost_ret (v := .tuple #[.slice none 0 0, .int .i64 0, .int .i64 0, .bool false]) (by simp [results, Try.results49, go_sem]) rfl ?_
    rw [HN.out]
    exact ⟨X2.out, rfl⟩
  · have hlb : decide (n < p.length) = false := by simpa using hlen
    go_wp2_with (fail)
    go_loopw [10, 11, 12] (fun r o i wr => ∃ (k : Nat) (room out : Int), i = .int .i64 k ∧ r = .int .i64 room ∧ o = .int .i64 out ∧ k ≤ p.length ∧ 0 ≤ room ∧ room ≤ 2147483647 ∧ 0 ≤ out ∧ out ≤ 2147483647 * (k : Int) ∧ Hid (st = stP room out (ws.drop k) (vs.drop k) (p.drop k)) ∧ Ext w2 wr) (fun _ _ i _ => p.length - (intOf i).toNat)
    case atStart => exact ⟨0, cap, 0, rfl, rfl, rfl, by omega, kc1, kc2, by omega, by omega, hst.out.symm, Ext.rf _⟩
    case round =>
      obtain ⟨wo, rfl⟩ : ∃ wo : World, wo = wr := ⟨_, rfl⟩
      obtain ⟨k, room, out, rfl, rfl, rfl, hk, b1, b2, b3, b4, HS, Y⟩ := hrel
      by_cases hlt : k < p.length
      · obtain ⟨pb, po, x, rfl, _, cx, ex, dx⟩ := (hP.ext (X2.out.tr Y)).at hlt
        have hkl : k < l.length := by rw [hn.out]; omega
        obtain ⟨q, hq0⟩ : ∃ q, Hid (l[k]? = some q) := ⟨l[k], List.getElem?_eq_getElem hkl⟩
        obtain ⟨qb, qo, qi, rfl, zq, cq, eq, _⟩ := (rL.out.ext Y).at (k := k) (by rw [nl_len]; exact hkl)
        obtain rfl : qi = (q : Int) := by
          have h1 := nl_get hq0.out
          rw [eq.out] at h1
          exact Option.some.inj h1
        obtain ⟨hqw, hqv⟩ := LM.out k q hq0.out
        obtain ⟨wb, wo', u, rfl, zu, cu, eu, _⟩ := (rA.out.ext (X2.out.tr Y)).at hqw
        obtain ⟨vb, vo', v, rfl, zv, cv, ev, _⟩ := (rB.out.ext (X2.out.tr Y)).at hqv
        have du : Hid (ws.drop k = u :: ws.drop (k + 1)) := by
          obtain ⟨h1, h2⟩ := List.getElem?_eq_some_iff.1 (EW.out k q u hq0.out eu.out)
          exact (by rw [List.drop_eq_getElem_cons h1, h2] : ws.drop k = u :: ws.drop (k + 1))
        have dv : Hid (vs.drop k = v :: vs.drop (k + 1)) := by
          obtain ⟨h1, h2⟩ := List.getElem?_eq_some_iff.1 (EV.out k q v hq0.out ev.out)
          exact (by rw [List.drop_eq_getElem_cons h1, h2] : vs.drop k = v :: vs.drop (k + 1))
        have bu := K5.out.get (EW.out k q u hq0.out eu.out)
        have bv := K6.out.get (EV.out k q v hq0.out ev.out)
        have e3 := keepEL Y zb d3
        have e4 := keepEL Y zb d4
        have HT : Hid (st = if x = 1 then (if room - u < 0 then none else stP (room - u) out (ws.drop (k + 1)) (vs.drop (k + 1)) (p.drop (k + 1))) else if x = 0 then (if room < 0 then none else stP room (out + v) (ws.drop (k + 1)) (vs.drop (k + 1)) (p.drop (k + 1))) else none) := by
          have h := HS.out
          rw [dx.out, du.out, dv.out] at h
          exact h
        have wr1 : Hid (IntKind.i64.wrap (room - u) = room - u) := IntWalk.i64_in _ (by omega)
        have wr2 : Hid (IntKind.i64.wrap (out + v) = out + v) := IntWalk.i64_in _ (by omega)
        clear HS ex eu ev dx du dv eq
        have qi1 : (q : Int) < (xw.length : Int) := by omega
        have qi2 : (q : Int) < (xv.length : Int) := by omega
        have qi3 : (k : Int) < (l.length : Int) := by omega
        by_cases x1 : x = 1
        · subst x1
          have wr1' := wr1.out
          by_cases hneg : room - u < 0
          · have HN : Hid (st = none) := by
              have h := HT.out
              rw [if_pos rfl, if_pos hneg] at h
              exact h
            go_wp2_with (go_quiet (fail))
            all_goals (refine bodyPost_ret (v := .tuple #[.slice none 0 0, .int .i64 0, .int .i64 0, .bool false]) (by simp [results, Try.results49, go_sem]) rfl ?_)
            all_goals rw [HN.out]
            all_goals exact ⟨Ext.tr X2.out (by repeat (first | exact Y | apply Ext.drewN)), rfl⟩
          · have HN : Hid (st = stP (room - u) out (ws.drop (k + 1)) (vs.drop (k + 1)) (p.drop (k + 1))) := by
              have h := HT.out
              rw [if_pos rfl, if_neg hneg] at h
              exact h
            go_wp2_with (go_quiet (fail))
            go_roundw
            case rel => exact ⟨k + 1, room - u, out, by go_num, rfl, rfl, by omega, by omega, by omega, by omega, by omega, HN, by repeat (first | exact Y | apply Ext.drewN)⟩
            case measure => simp [intOf]; omega
        · have x1' : (x == 1) = false := by simpa using x1
          have x1n : (x != 1) = true := by simpa using x1
          by_cases x0 : x = 0
          · subst x0
            have wr2' := wr2.out
            have HN : Hid (st = stP room (out + v) (ws.drop (k + 1)) (vs.drop (k + 1)) (p.drop (k + 1))) := by
              have h := HT.out
              rw [if_neg x1, if_pos rfl, if_neg (by omega)] at h
              exact h
            clear x1
            go_wp2_with (go_quiet (fail))
            go_roundw
            case rel => exact ⟨k + 1, room, out + v, by go_num, rfl, rfl, by omega, by omega, by omega, by omega, by omega, HN, by repeat (first | exact Y | apply Ext.drewN)⟩
            case measure => simp [intOf]; omega
          · have x0n : (x != 0) = true := by simpa using x0
            have HN : Hid (st = none) := by
              have h := HT.out
              rw [if_neg x1, if_neg x0] at h
              exact h
            clear x1 x0
            go_wp2_with (go_quiet (fail))
            all_goals (refine bodyPost_ret (v := .tuple #[.slice none 0 0, .int .i64 0, .int .i64 0, .bool false]) (by simp [results, Try.results49, go_sem]) rfl ?_)
            all_goals rw [HN.out]
            all_goals exact ⟨Ext.tr X2.out (by repeat (first | exact Y | apply Ext.drewN)), rfl⟩
      · have HN : Hid (st = some (room, out)) := by
          have h := HS.out
          rw [List.drop_of_length_le (l := p) (i := k) (by omega)] at h
          have h2 : stP room out (ws.drop k) (vs.drop k) [] = some (room, out) := by cases ws.drop k <;> cases vs.drop k <;> rfl
          rw [h2] at h
          exact h
        clear HS
        go_wp2_with (fail)
        refine bodyPost_ret (v := .tuple #[.slice LA l.length lc, .int .i64 room, .int .i64 out, .bool true]) (by simp [results, Try.results49, go_sem]) rfl ?_
        rw [HN.out]
        exact ⟨Ext.tr X2.out Y, LA, lc, rfl, rL.out.ext Y⟩
end Go.Proofs.Ytpapkofildcdiaa
namespace Go.Proofs.Ytpapkofildcdiaa
open Go.RowKit Go.ChangeShapes Go.WideShapes Go.ChangeAt Go.Deep

/-- does each way cost what the way back does? -/
def mirP (rows : List (List Int)) : Bool := decide (∀ x, x < rows.length → ∀ y, y < x → costAt rows x y = costAt rows y x)
theorem mirP_true {rows : List (List Int)} (h : ∀ x, x < rows.length → ∀ y, y < x → costAt rows x y = costAt rows y x) : mirP rows = true := decide_eq_true h
theorem mirP_false {rows : List (List Int)} {x y : Nat} (hx : x < rows.length) (hy : y < x) (h : costAt rows x y ≠ costAt rows y x) : mirP rows = false := decide_eq_false fun k => h (k x hx y hy)
theorem mirP_sym {rows : List (List Int)} (h : mirP rows = true) (a b : Nat) (ha : a < rows.length) (hb : b < rows.length) : costAt rows a b = costAt rows b a := by
  have k := of_decide_eq_true h
  rcases Nat.lt_trichotomy a b with hc | hc | hc
  · exact (k b hb a hc).symm
  · subst hc; rfl
  · exact k a ha b hc
set_option maxRecDepth 100000 in
set_option maxHeartbeats 4000000 in
theorem mirror_any (i : InstP) (us : List Value) (w : World) (H : RInst w us i) (hc : checkP i = 0) (hk : i.kind = 3) :
    Calls Try.prog 36 #[.agg (List.toArray us)] w fun e w' => e = .returned (.bool (mirP i.cost)) ∧ Ext w w' := by
  have ok := square_ok hc (by omega)
  have lw : i.weight.length ≤ 1000000000 := by rw [ok.w]; simp
  have lv : i.value.length ≤ 1000000000 := by rw [ok.v]; simp
  have CH := fun (W : World) (x : Ext w W) => check_any i us W (H.ext x) lw lv
  rw [hc] at CH
  have rok := rows_ok ok
  have n24 := rok.n2
  clear ok lw lv hc
  obtain ⟨kind, nn, cap, xw, xv, co⟩ := i
  obtain ⟨A, a, B, b, D, d, rfl, -, -, ⟨hC, -, -⟩⟩ := H
  simp only at *
  subst hk
  have B1 : Hid (Blk (w.alloc (.cells #[.int .i64 3, .int .i64 nn, .int .i64 cap, .slice A xw.length a, .slice B xv.length b, .slice D co.length d] 25)) w.heap.size 25 #[.int .i64 3, .int .i64 nn, .int .i64 cap, .slice A xw.length a, .slice B xv.length b, .slice D co.length d]) := .new rfl
  replace CH := Lib.hid CH
  replace hC := Lib.hid hC
  replace rok := Lib.hid rok
  obtain ⟨mm, hmm⟩ : ∃ mm, Hid (mirP co = mm) := ⟨_, rfl⟩
  rw [hmm.out]
  go_enter Try.func36, Try.ntmps36
  go_wp2_with (fail)
  refine (CH.out _ (by (repeat (first | assumption | exact Ext.rf _ | apply Ext.drew | apply Ext.drewN | apply Ext.alloc)))).mono ?_
  rintro e w1 ⟨rfl, x1⟩
  have X1 := Lib.hid (Ext.tr (a := w) (by (repeat (first | assumption | exact Ext.rf _ | apply Ext.drew | apply Ext.drewN | apply Ext.alloc))) x1)
  have BB := Lib.hid (B1.out.ext x1)
  have d5 : w1.cell? ⟨w.heap.size, 5, none⟩ = some (.slice D co.length d) := BB.out.cell 5
  clear x1
  go_wp2_with (fail)
  go_loopw [17] (fun v wr => ∃ k : Nat, v = .int .i64 k ∧ k ≤ co.length ∧ Hid (∀ x, x < k → ∀ y, y < x → costAt co x y = costAt co y x) ∧ Hid (Ext w1 wr)) (fun v _ => co.length - (intOf v).toNat)
  case atStart => exact ⟨0, rfl, by omega, fun x hx => absurd hx (Nat.not_lt_zero _), Ext.rf _⟩
  case round =>
    obtain ⟨wo, rfl⟩ : ∃ wo : World, wo = wr := ⟨_, rfl⟩
    obtain ⟨k, rfl, hk, HS, Y⟩ := hrel
    by_cases hlt : k < co.length
    · have XW : Hid (Ext w wo) := X1.out.tr Y.out
      obtain ⟨cb, cof, D', row, d', rfl, zb, cD, er, _, rD, iD, ld, md⟩ := (hC.out.ext XW.out fun _ _ h => h.ext XW.out).ints hlt
      have lrow := rok.out.row row (List.mem_of_getElem? er.out)
      have q1 : (k : Int) < (co.length : Int) := by omega
      replace er := Lib.hid er.out
      replace rD := Lib.hid rD
      go_wp2_with (fail)
      go_loopw [23] (fun v wr => ∃ j : Nat, v = .int .i64 j ∧ j ≤ k ∧ Hid (∀ y, y < j → costAt co k y = costAt co y k) ∧ Hid (Ext wo wr)) (fun v _ => k - (intOf v).toNat)
      case atStart => exact ⟨0, rfl, by omega, fun y hy => absurd hy (Nat.not_lt_zero _), Ext.rf _⟩
      case round =>
        obtain ⟨wi, rfl⟩ : ∃ wi : World, wi = wr := ⟨_, rfl⟩
        obtain ⟨j, rfl, hj, HJ, Z⟩ := hrel
        have XZ := Lib.hid (Ext.tr (a := w) (XW.out) Z.out)
        by_cases hlj : j < k
        · obtain ⟨cb', cof', D2, row2, d2, hq, zb2, cD2, er2, _, rD2, iD2, ld2, md2⟩ := (hC.out.ext XZ.out fun _ _ h => h.ext XZ.out).ints (r := j) (by omega)
          obtain ⟨rfl, rfl⟩ : cb = cb' ∧ cof = cof' := by simpa using hq
          have lrow2 := rok.out.row row2 (List.mem_of_getElem? er2.out)
          obtain ⟨rb, ro, x, rfl, zx, cx, ex, _⟩ := (rD.out.ext Z.out).at (k := j) (by omega)
          obtain ⟨rb2, ro2, y, rfl, zy, cy, ey, _⟩ := rD2.at (k := k) (by omega)
          have d5' : wi.cell? ⟨w.heap.size, 5, none⟩ = some (.slice (some ⟨cb, cof, none⟩) co.length d) := ((BB.out.ext Y.out).ext Z.out).cell 5
          have exy : Hid (costAt co k j = x ∧ costAt co j k = y) := by
            refine ⟨?_, ?_⟩
            · unfold costAt; rw [getD_some er.out, getD_some ex.out]
            · unfold costAt; rw [getD_some er2.out, getD_some ey.out]
          have q2 : (j : Int) < (co.length : Int) := by omega
          have q3 : (j : Int) < (row.length : Int) := by omega
          have q4 : (k : Int) < (row2.length : Int) := by omega
          replace ex := Lib.hid ex.out
          replace ey := Lib.hid ey.out
          replace er2 := Lib.hid er2.out
          replace rD2 := Lib.hid rD2
          clear hq
          by_cases hxy : x = y
          · subst hxy
            have t0 : (x != x) = false := by simp
            have NX : Hid (∀ yy, yy < j + 1 → costAt co k yy = costAt co yy k) := fun yy hy => by
              by_cases e : yy = j
              · subst e; rw [exy.out.1, exy.out.2]
              · exact HJ.out yy (by omega)
            go_wp2_with (fail)
            go_quiet (fail)
            go_wp2_with (fail)
            go_roundw
            case rel => exact ⟨j + 1, by go_num, by omega, NX, Z.out.drewN _⟩
            case measure => simp [intOf]; omega
          · have t0 : (x != y) = true := by simpa using hxy
            have HM : Hid (mm = false) := by
              have h : mm = false := by
                rw [← hmm.out]
                exact mirP_false hlt hlj (by rw [exy.out.1, exy.out.2]; exact hxy)
              exact h
            go_wp2_with (fail)
            go_quiet (fail)
            go_wp2_with (fail)
            go_ret
            rw [HM.out]
            exact ⟨rfl, XZ.out.drewN _⟩
        · obtain rfl : j = k := by omega
          have q2 : ¬ (j : Int) < (j : Int) := by omega
          have HS3 : Hid (∀ x, x < j + 1 → ∀ y, y < x → costAt co x y = costAt co y x) := fun x hx => by
            by_cases e : x = j
            · subst e; exact HJ.out
            · exact HS.out x (by omega)
          have YZ := Lib.hid (Y.out.tr Z.out)
          go_wp2_with (fail)
          go_roundw
          case rel => exact ⟨j + 1, by go_num, by omega, HS3, YZ.out⟩
          case measure => simp [intOf]; omega
    · obtain rfl : k = co.length := by omega
      have HM : Hid (mm = true) := by
        have h : mm = true := by
          rw [← hmm.out]
          exact mirP_true HS.out
        exact h
      have q2 : ¬ (co.length : Int) < (co.length : Int) := by omega
      have XW := Lib.hid (X1.out.tr Y.out)
      go_wp2_with (fail)
      go_ret
      rw [HM.out]
      exact ⟨rfl, XW.out⟩
end Go.Proofs.Ytpapkofildcdiaa
namespace Go.Proofs.Ytpapkofildcdiaa
open Go.RowKit Go.ChangeShapes Go.WideShapes Go.ChangeAt Go.Deep

theorem check_kind {i : InstP} (h : checkP i = 0) : i.kind = 1 ∨ i.kind = 2 ∨ i.kind = 3 := by
  unfold checkP at h
  by_cases hs : sizeP i.kind i.n = 0
  · exact sizeP_kind hs
  · rw [if_neg hs] at h
    exact absurd h hs
end Go.Proofs.Ytpapkofildcdiaa
namespace Go.Proofs.Ytpapkofildcdiaa

theorem KrnOk.perm {D : Nat} {kids kids' : List Int → List Int} {bound : List Int → Int} {okp : List Int → Prop} {bx : List Int → Int} (h : KrnOk D kids bound okp bx) (hk : ∀ p, okp p → p.length < D → ∀ n, n ∈ kids p ↔ n ∈ kids' p) : KrnOk D kids' bound okp bx where
  len := h.len
  kid := fun p ho hl n hn => h.kid p ho hl n ((hk p ho hl n).2 hn)
  leaf := h.leaf
  low := h.low
  node := fun p ho hl => node_perm (hk p ho hl) (h.node p ho hl)
def depthI (i : InstP) : Nat := if i.kind = 3 then i.n.toNat - 1 else i.n.toNat
def kidsK (cap : Int) (ws p : List Int) : List Int := match ws.drop p.length with
  | [] => []
  | w :: _ => if w ≤ roomC cap ws p then [0, 1] else [0]
/-- the numbers from some on that aren't in a list -/
def absL (a n : Nat) (p : List Int) : List Int := intsN ((List.range n).filter fun c => decide (a ≤ c) && !p.contains (c : Int))
def kidsI (i : InstP) (p : List Int) : List Int := if i.kind = 1 then kidsK i.cap (wsP i) p else absL (if i.kind = 2 then 0 else 1) i.cost.length p
def boundI (i : InstP) (p : List Int) : Int := if i.kind = 1 then (boundP i.cap (wsP i) (vsP i) p).1 else if i.kind = 2 then (boundA i.cost p).1 else (boundT i.cost (mirP i.cost) p).1
def okI (i : InstP) (p : List Int) : Prop := if i.kind = 1 then ∃ q, stP i.cap 0 (wsP i) (vsP i) p = some q else if i.kind = 2 then ∃ m, freeP i.cost.length p = some m else ∃ s, walkP i.cost p = some s
def bxI (i : InstP) (p : List Int) : Int := if i.kind = 1 then bestAt i.cap (wsP i) (vsP i) p else if i.kind = 2 then bestA i.cost i.cost.length (i.cost.length - p.length) p else bestT i.cost (i.cost.length - 1 - p.length) p
theorem contains_ints {l : List Nat} {c : Nat} : (intsN l).contains (c : Int) = true ↔ c ∈ l := by
  rw [List.contains_iff_mem]
  unfold intsN
  rw [List.mem_map]
  constructor
  · rintro ⟨d, hd, e⟩
    have : d = c := by omega
    exact this ▸ hd
  · exact fun h => ⟨c, h, rfl⟩
theorem absL_mems {n : Nat} {p : List Int} {l : List Nat} {m a : Nat} (hp : p = intsN l) (hm : ∀ x, x ∈ memsM m ↔ (x < n ∧ a ≤ x) ∧ x ∉ l) : absL a n p = intsN (memsM m) := by
  unfold absL
  congr 1
  refine List.Perm.eq_of_pairwise (le := (· < ·)) (fun a b _ _ h1 h2 => by omega) (List.Pairwise.filter _ List.pairwise_lt_range) (memsM_sorted m) ?_
  refine (List.perm_ext_iff_of_nodup ((List.Pairwise.filter _ List.pairwise_lt_range).imp fun h => Nat.ne_of_lt h) ((memsM_sorted m).imp fun h => Nat.ne_of_lt h)).2 fun c => ?_
  rw [hm c, List.mem_filter, List.mem_range, Bool.and_eq_true, decide_eq_true_eq, Bool.not_eq_true', hp]
  have := contains_ints (l := l) (c := c)
  constructor
  · rintro ⟨h1, h2, h3⟩
    exact ⟨⟨h1, h2⟩, fun h => by rw [this.2 h] at h3; cases h3⟩
  · rintro ⟨⟨h1, h2⟩, h3⟩
    refine ⟨h1, h2, ?_⟩
    cases h4 : (intsN l).contains (c : Int) with
    | false => rfl
    | true => exact absurd (this.1 h4) h3
theorem abs_assign {n : Nat} (h24 : n ≤ 24) {p : List Int} {m : Nat} (h : freeP n p = some m) : absL 0 n p = intsN (memsM m) := by
  obtain ⟨l, e1, _, _, e4⟩ := freeP_cols h24 h
  exact absL_mems e1 fun x => by rw [e4 x]; simp
theorem abs_tour {rows : List (List Int)} (h1 : 1 ≤ rows.length) (h24 : rows.length ≤ 24) {p : List Int} {m last : Nat} {cost : Int} (h : walkP rows p = some (m, last, cost)) : absL 1 rows.length p = intsN (memsM m) := by
  obtain ⟨l, W⟩ := walk_ok h1 h24 h
  exact absL_mems W.eq fun x => by
    rw [W.rest x]
    constructor
    · rintro ⟨⟨h1, h2⟩, h3⟩; exact ⟨⟨h1, by omega⟩, h3⟩
    · rintro ⟨⟨h1, h2⟩, h3⟩; exact ⟨⟨h1, by omega⟩, h3⟩
theorem kidsK_P {cap : Int} {ws vs p : List Int} {r o : Int} (h : stP cap 0 ws vs p = some (r, o)) (n : Int) : n ∈ (kidsP cap ws vs p).1 ↔ n ∈ kidsK cap ws p := by
  have e := (st_roomC h).1
  unfold kidsP kidsK
  rw [h, e]
  simp only
  cases ws.drop p.length with
  | nil => simp
  | cons w t =>
    simp only
    split <;> simp [or_comm]
theorem knap_facts {i : InstP} (ok : KnapOk i) : (wsP i).length = (vsP i).length ∧ ((wsP i).length : Int) = i.n ∧ (∀ x ∈ wsP i, 0 ≤ x) ∧ (∀ x ∈ vsP i, 0 ≤ x ∧ x ≤ 2147483647) ∧ Falls (wsP i) (vsP i) := by
  have sw := ok.sw
  have sv := ok.sv
  have hw : ∀ x ∈ i.weight, 0 ≤ x := fun x hx => (sw x hx).1
  have hv : ∀ x ∈ i.value, 0 ≤ x := fun x hx => (sv x hx).1
  have l1 : (wsP i).length = (orderP i).length := inOrder_len _ _
  have l2 : (vsP i).length = (orderP i).length := inOrder_len _ _
  have lo := orderP_len ok
  refine ⟨by omega, by omega, fun x hx => (small_inOrder sw x hx).1, fun x hx => small_inOrder sv x hx, ?_⟩
  exact falls_of hv hw (ratioP_sorted hw)
theorem num_of {rows : List (List Int)} (ok : RowsOk rows) (a b : Nat) (ha : a < rows.length) (hb : b < rows.length) : 0 ≤ costAt rows a b ∧ costAt rows a b ≤ 2147483647 := by
  unfold costAt
  have e : rows.getD a [] = rows[a] := by simp [List.getD, List.getElem?_eq_getElem ha]
  rw [e]
  exact ok.get (List.getElem_mem ha) hb
theorem okI_nil {i : InstP} (hc : checkP i = 0) : okI i [] := by
  unfold okI
  rcases check_kind hc with h | h | h
  · rw [if_pos h]
    exact ⟨(i.cap, 0), by cases wsP i <;> cases vsP i <;> rfl⟩
  · rw [if_neg (by omega), if_pos h]
    exact ⟨_, freeP_root⟩
  · rw [if_neg (by omega), if_neg (by omega)]
    exact ⟨_, walkP_root⟩
theorem krn_inst {i : InstP} (hc : checkP i = 0) : KrnOk (depthI i) (kidsI i) (boundI i) (okI i) (bxI i) := by
  rcases check_kind hc with h | h | h
  · have ok := knap_ok hc h
    obtain ⟨f1, f2, f3, f4, f5⟩ := knap_facts ok
    have K := (krn_knap ok.cap.1 f3 f4 f1 f5).perm (kids' := kidsK i.cap (wsP i)) fun p ⟨⟨r, o⟩, hp⟩ _ n => kidsK_P hp n
    have hd : depthI i = (wsP i).length := by unfold depthI; rw [if_neg (by omega)]; omega
    have e1 : kidsI i = kidsK i.cap (wsP i) := by funext p; unfold kidsI; rw [if_pos h]
    have e2 : boundI i = fun p => (boundP i.cap (wsP i) (vsP i) p).1 := by funext p; unfold boundI; rw [if_pos h]
    have e3 : okI i = fun p => ∃ q, stP i.cap 0 (wsP i) (vsP i) p = some q := by funext p; unfold okI; rw [if_pos h]
    have e4 : bxI i = bestAt i.cap (wsP i) (vsP i) := by funext p; unfold bxI; rw [if_pos h]
    rw [hd, e1, e2, e3, e4]
    exact K
  · have sq := square_ok hc (by omega)
    have rok := rows_ok sq
    have K := (krn_assign rok).perm (kids' := absL 0 i.cost.length) fun p ⟨m, hp⟩ _ n => by
      obtain ⟨l, e1, e2, _⟩ := kidsA_of hp
      rw [e1, abs_assign rok.n2 hp]
      unfold intsN
      rw [List.mem_map, List.mem_map]
      exact ⟨fun ⟨c, hc, e⟩ => ⟨c, e2.mem_iff.1 hc, e⟩, fun ⟨c, hc, e⟩ => ⟨c, e2.mem_iff.2 hc, e⟩⟩
    have hd : depthI i = i.cost.length := by unfold depthI; rw [if_neg (by omega)]; have := sq.len; omega
    have e1 : kidsI i = absL 0 i.cost.length := by funext p; unfold kidsI; rw [if_neg (by omega), if_pos h]
    have e2 : boundI i = fun p => (boundA i.cost p).1 := by funext p; unfold boundI; rw [if_neg (by omega), if_pos h]
    have e3 : okI i = fun p => ∃ m, freeP i.cost.length p = some m := by funext p; unfold okI; rw [if_neg (by omega), if_pos h]
    have e4 : bxI i = fun p => bestA i.cost i.cost.length (i.cost.length - p.length) p := by funext p; unfold bxI; rw [if_neg (by omega), if_pos h]
    rw [hd, e1, e2, e3, e4]
    exact K
  · have sq := square_ok hc (by omega)
    have rok := rows_ok sq
    have K := (krn_tour (mi := mirP i.cost) rok (num_of rok) (fun h => mirP_sym h)).perm (kids' := absL 1 i.cost.length) fun p ⟨⟨m, last, cost⟩, hp⟩ _ n => by
      obtain ⟨l, e1, e2, _⟩ := kidsT_of hp
      rw [e1, abs_tour rok.n1 rok.n2 hp]
      unfold intsN
      rw [List.mem_map, List.mem_map]
      exact ⟨fun ⟨c, hc, e⟩ => ⟨c, e2.mem_iff.1 hc, e⟩, fun ⟨c, hc, e⟩ => ⟨c, e2.mem_iff.2 hc, e⟩⟩
    have hd : depthI i = i.cost.length - 1 := by unfold depthI; rw [if_pos h]; have := sq.len; omega
    have e1 : kidsI i = absL 1 i.cost.length := by funext p; unfold kidsI; rw [if_neg (by omega), if_neg (by omega)]
    have e2 : boundI i = fun p => (boundT i.cost (mirP i.cost) p).1 := by funext p; unfold boundI; rw [if_neg (by omega), if_neg (by omega)]
    have e3 : okI i = fun p => ∃ s, walkP i.cost p = some s := by funext p; unfold okI; rw [if_neg (by omega), if_neg (by omega)]
    have e4 : bxI i = fun p => bestT i.cost (i.cost.length - 1 - p.length) p := by funext p; unfold bxI; rw [if_neg (by omega), if_neg (by omega)]
    rw [hd, e1, e2, e3, e4]
    exact K
end Go.Proofs.Ytpapkofildcdiaa
namespace Go.Proofs.Ytpapkofildcdiaa
open Go.RowKit Go.ChangeShapes Go.WideShapes Go.ChangeAt Go.Deep

/-- each of 0 to n - 1, once? -/
def permB (x : List Int) (n : Nat) : Bool := decide (x.length = n ∧ ∀ k, k < n → x.count (k : Int) = 1)
set_option maxRecDepth 100000 in
set_option maxHeartbeats 2000000 in
theorem perm_gen (P : Option Addr) (c n : Nat) (x : List Int) (w : World) (hP : RdI w P x) (hn : n ≤ 1000) :
    Calls Try.prog 26 #[.slice P x.length c, .int .i64 n] w fun e w' => e = .returned (.bool (permB x n)) ∧ Ext w w' := by
  by_cases hl : x.length = n
  · have PB : Hid (∀ b : Bool, (b = true ↔ ∀ k, k < n → x.count (k : Int) = 1) → permB x n = b) := fun b h => by
      unfold permB
      rw [Bool.eq_iff_iff, decide_eq_true_iff, h]
      exact ⟨fun h => h.2, fun h => ⟨hl, h⟩⟩
    have ne0 : ((n : Int) != (n : Int)) = false := by simp
    generalize permB x n = pb at *
    have hlen : Hid (x.length = n) := by
      have h : x.length = n := hl
      exact h
    rw [hl]
    clear hl
    replace hP := Lib.hid hP
    go_enter Try.func26, Try.ntmps26
    go_wp2_with (fail)
    go_loopw [5] (fun v wr => ∃ k : Nat, v = .int .i64 k ∧ k ≤ n ∧ Hid (∀ k', k' < k → x.count (k' : Int) = 1) ∧ Hid (Ext w wr)) (fun v _ => n - (intOf v).toNat)
    case atStart => exact ⟨0, rfl, by omega, fun k' h => by omega, Ext.rf _⟩
    case round =>
      obtain ⟨wo, rfl⟩ : ∃ wo : World, wo = wr := ⟨_, rfl⟩
      obtain ⟨k, rfl, hk, HK, Y⟩ := hrel
      by_cases hkn : k < n
      · have q1 : (k : Int) < (n : Int) := by omega
        go_wp2_with (fail)
        go_loopw [7, 6] (fun v fv wr => ∃ j : Nat, v = .int .i64 j ∧ fv = .int .i64 ((x.take j).count (k : Int) : Nat) ∧ j ≤ n ∧ Hid (Ext w wr)) (fun v _ _ => n - (intOf v).toNat)
        case atStart => exact ⟨0, rfl, by rw [List.take_zero, List.count_nil]; rfl, by omega, Y⟩
        case round =>
          obtain ⟨wi, rfl⟩ : ∃ wi : World, wi = wr := ⟨_, rfl⟩
          obtain ⟨j, rfl, rfl, hj, YI⟩ := hrel
          have hcl := List.count_le_length (a := (k : Int)) (l := x.take j)
          rw [List.length_take] at hcl
          by_cases hjn : j < n
          · have q2 : (j : Int) < (n : Int) := by omega
            obtain ⟨pb', po, y, rfl, _, cx, ey, _⟩ := (hP.out.ext YI.out).at (k := j) (by rw [hlen.out]; exact hjn)
            have HC : Hid ((x.take (j + 1)).count (k : Int) = (x.take j).count (k : Int) + if y = (k : Int) then 1 else 0) := by
              have h : (x.take (j + 1)).count (k : Int) = (x.take j).count (k : Int) + if y = (k : Int) then 1 else 0 := by
                rw [List.take_add_one, ey.out, List.count_append]
                simp [List.count_cons]
              exact h
            clear ey
            generalize (x.take j).count (k : Int) = cn at *
            by_cases hyk : y = (k : Int)
            · subst hyk
              rw [if_pos rfl] at HC
              go_wp2_with (fail)
              go_roundw
              case rel => exact ⟨j + 1, by go_num, by rw [HC.out]; go_num, by omega, YI⟩
              case measure => simp [intOf]; omega
            · have HC2 : Hid ((x.take (j + 1)).count (k : Int) = cn) := by
                have h := HC.out
                rw [if_neg hyk] at h
                exact h
              clear HC
              have t2 : (y == (k : Int)) = false := by rw [beq_eq_false_iff_ne]; exact hyk
              go_wp2_with (fail)
              go_roundw
              case rel => exact ⟨j + 1, by go_num, by rw [HC2.out], by omega, YI⟩
              case measure => simp [intOf]; omega
          · have q2 : ¬ (j : Int) < (n : Int) := by omega
            have e1 : x.take j = x := List.take_of_length_le (by rw [hlen.out]; omega)
            rw [e1]
            clear e1 hcl
            by_cases hc1 : x.count (k : Int) = 1
            · have HK2 : Hid (∀ k', k' < k + 1 → x.count (k' : Int) = 1) := fun k' h => by
                by_cases e : k' = k
                · subst e; exact hc1
                · exact HK.out k' (by omega)
              rw [hc1]
              clear hc1
              go_wp2_with (fail)
              go_roundw
              case rel => exact ⟨k + 1, by go_num, by omega, HK2, YI⟩
              case measure => simp [intOf]; omega
            · have R := PB.out false (by
                constructor
                · intro h; cases h
                · intro h; exact absurd (h k hkn) hc1)
              have t3 : (((x.count (k : Int) : Nat) : Int) != 1) = true := by
                rw [bne_iff_ne]
                omega
              replace hc1 := Lib.hid hc1
              generalize x.count (k : Int) = cn at *
              go_wp2_with (fail)
              go_ret
              exact ⟨by first | rfl | (rw [R]; rfl), YI.out⟩
      · have q1 : ¬ (k : Int) < (n : Int) := by omega
        have R := PB.out true ⟨fun _ k' h => HK.out k' (by omega), fun _ => rfl⟩
        go_wp2_with (fail)
        go_ret
        exact ⟨by first | rfl | (rw [R]; rfl), Y.out⟩
  · have PB : permB x n = false := by
      unfold permB
      exact decide_eq_false fun h => hl h.1
    have ne0 : ((x.length : Int) != (n : Int)) = true := by rw [bne_iff_ne]; omega
    rw [PB]
    replace hl := Lib.hid hl
    go_enter Try.func26, Try.ntmps26
    go_wp2_with (fail)
    go_ret
    exact ⟨rfl, by (repeat (first | assumption | exact Ext.rf _ | apply Ext.drew | apply Ext.drewN | apply Ext.alloc))⟩
theorem perm_of_sub : ∀ {r x : List Int}, r.Nodup → (∀ y ∈ r, y ∈ x) → r.length = x.length → r.Perm x
  | [], x, _, _, hl => by rw [List.eq_nil_of_length_eq_zero hl.symm]
  | a :: r, x, hd, hs, hl => by
    obtain ⟨h1, h2⟩ := List.nodup_cons.1 hd
    have ha : a ∈ x := hs a (by simp)
    have hp := List.perm_cons_erase ha
    have ih := perm_of_sub (r := r) (x := x.erase a) h2 (fun y hy => by
      have hne : y ≠ a := fun e => h1 (e ▸ hy)
      exact (List.mem_erase_of_ne hne).2 (hs y (by simp [hy]))) (by
      have := hp.length_eq
      simp only [List.length_cons] at this hl
      omega)
    exact (ih.cons a).trans hp.symm
theorem count_one_i {k : Int} : ∀ {l : List Int}, l.Nodup → k ∈ l → l.count k = 1
  | [], _, h => by cases h
  | x :: l, hd, h => by
    have hd' := List.nodup_cons.1 hd
    by_cases e : x = k
    · subst e
      rw [List.count_cons_self, List.count_eq_zero.2 hd'.1]
    · rw [List.count_cons_of_ne e]
      rcases List.mem_cons.1 h with h | h
      · exact absurd h.symm e
      · exact count_one_i hd'.2 h
theorem permB_iff {x : List Int} {n : Nat} : permB x n = true ↔ ∃ l : List Nat, x = intsN l ∧ l.Perm (List.range n) := by
  unfold permB
  rw [decide_eq_true_iff]
  constructor
  · rintro ⟨h1, h2⟩
    have hsub : intsN (List.range n) ⊆ x := fun y hy => by
      obtain ⟨k, hk, rfl⟩ := List.mem_map.1 hy
      have := h2 k (List.mem_range.1 hk)
      exact List.count_pos_iff.1 (by omega)
    have hnd : (intsN (List.range n)).Nodup := by
      unfold intsN
      refine List.pairwise_map.2 (List.nodup_range.imp ?_)
      intro a b hab e
      exact hab (by omega)
    have hp : (intsN (List.range n)).Perm x := perm_of_sub hnd (fun y hy => hsub hy) (by rw [intsN_len, List.length_range]; omega)
    refine ⟨x.map Int.toNat, ?_, ?_⟩
    · unfold intsN
      rw [List.map_map]
      refine (List.map_id x).symm.trans (List.map_congr_left fun y hy => ?_)
      obtain ⟨k, _, rfl⟩ := List.mem_map.1 (hp.mem_iff.2 hy)
      simp
    · have := hp.symm.map Int.toNat
      refine this.trans ?_
      unfold intsN
      rw [List.map_map]
      have e : (List.range n).map (Int.toNat ∘ fun n : Nat => (n : Int)) = List.range n := by
        refine (List.map_congr_left fun k _ => ?_).trans (List.map_id _)
        simp
      rw [e]
  · rintro ⟨l, rfl, hl⟩
    refine ⟨by rw [intsN_len, hl.length_eq, List.length_range], fun k hk => ?_⟩
    have h1 : (intsN l).Perm (intsN (List.range n)) := hl.map _
    rw [h1.count_eq]
    have hm : (k : Int) ∈ intsN (List.range n) := List.mem_map.2 ⟨k, List.mem_range.2 hk, rfl⟩
    have hnd : (intsN (List.range n)).Nodup := by
      unfold intsN
      refine List.pairwise_map.2 (List.nodup_range.imp ?_)
      intro a b hab e
      exact hab (by omega)
    exact count_one_i hnd hm
end Go.Proofs.Ytpapkofildcdiaa
namespace Go.Proofs.Ytpapkofildcdiaa
open Go.RowKit Go.ChangeShapes Go.WideShapes Go.ChangeAt Go.Deep

end Go.Proofs.Ytpapkofildcdiaa
namespace Go.Proofs.Ytpapkofildcdiaa
open Go.RowKit Go.ChangeShapes Go.WideShapes Go.ChangeAt Go.Deep

set_option maxRecDepth 100000 in
set_option maxHeartbeats 4000000 in
theorem rcost_any (i : InstP) (us : List Value) (P : Option Addr) (c : Nat) (x : List Int) (w : World) (H : RInst w us i) (hc : checkP i = 0) (hk : i.kind = 1) (hP : RdI w P x) (lx : (x.length : Int) = i.n) (h01 : ∀ v ∈ x, v = 0 ∨ v = 1) :
    Calls Try.prog 12 #[.agg (List.toArray us), .slice P x.length c] w fun e w' => e = .returned (BoundVal (costP i.cap i.weight i.value x)) ∧ Ext w w' := by
  have CH := fun (W : World) (x : Ext w W) => rcheck_any i us W (H.ext x)
  rw [hc] at CH
  have ok := knap_ok hc hk
  have k1 := ok.n1
  have k2 := ok.n2
  have k3 := ok.w
  have k4 := ok.v
  have k5 := ok.cap
  have k6 := Lib.hid ok.sw
  have k7 := Lib.hid ok.sv
  clear ok hc
  obtain ⟨kind, nn, cap, xw, xv, co⟩ := i
  obtain ⟨A, a, B, b, D, d, rfl, ⟨rA, iA, lA, mA⟩, ⟨rB, iB, lB, mB⟩, -⟩ := H
  simp only at *
  subst hk
  obtain ⟨n, rfl⟩ : ∃ n : Nat, nn = (n : Int) := ⟨nn.toNat, by omega⟩
  have lxn : x.length = n := by omega
  have lwn : xw.length = n := by omega
  have lvn : xv.length = n := by omega
  have hn2 : n ≤ 64 := by omega
  replace lwn := Lib.hid lwn
  replace lvn := Lib.hid lvn
  replace lxn := Lib.hid lxn
  clear lx k3 k4
  have W1 : ∀ k v u, x[k]? = some v → xw[k]? = some u → takenL (x.take (k + 1)) xw = takenL (x.take k) xw + if v = 1 then u else 0 := fun k v u h1 h2 => sumZip_take _ k x xw h1 h2
  have V1 : ∀ k v u, x[k]? = some v → xv[k]? = some u → leftL (x.take (k + 1)) xv = leftL (x.take k) xv + if v = 1 then 0 else u := fun k v u h1 h2 => sumZip_take _ k x xv h1 h2
  replace W1 := Lib.hid W1
  replace V1 := Lib.hid V1
  replace CH := Lib.hid CH
  replace rA := Lib.hid rA
  replace rB := Lib.hid rB
  replace hP := Lib.hid hP
  replace mA := Lib.hid mA
  replace mB := Lib.hid mB
  replace iA := Lib.hid iA
  replace iB := Lib.hid iB
  replace h01 := Lib.hid h01
  have B1 : Hid (Blk (w.alloc (.cells #[.int .i64 1, .int .i64 n, .int .i64 cap, .slice A xw.length a, .slice B xv.length b, .slice D co.length d] 25)) w.heap.size 25 #[.int .i64 1, .int .i64 n, .int .i64 cap, .slice A xw.length a, .slice B xv.length b, .slice D co.length d]) := .new rfl
  have lz := List.take_length (l := x)
  have bW : ∀ k, k ≤ n → 0 ≤ takenL (x.take k) xw ∧ takenL (x.take k) xw ≤ 2147483647 * (k : Int) := by
    intro k
    induction k with
    | zero => intro _; simp [takenL, sumL]
    | succ k ih =>
      intro hk
      have h0 := ih (by omega)
      have h8 : k < x.length := by rw [lxn.out]; omega
      have e1 : x[k]? = some x[k] := List.getElem?_eq_getElem h8
      have h9 : k < xw.length := by rw [lwn.out]; omega
      have e2 : xw[k]? = some xw[k] := List.getElem?_eq_getElem h9
      have h1 := W1.out k _ _ e1 e2
      have h2 := k6.out.get e2
      rw [h1]
      split <;> omega
  have bV : ∀ k, k ≤ n → 0 ≤ leftL (x.take k) xv ∧ leftL (x.take k) xv ≤ 2147483647 * (k : Int) := by
    intro k
    induction k with
    | zero => intro _; simp [leftL, sumL]
    | succ k ih =>
      intro hk
      have h0 := ih (by omega)
      have h8 : k < x.length := by rw [lxn.out]; omega
      have e1 : x[k]? = some x[k] := List.getElem?_eq_getElem h8
      have h9 : k < xv.length := by rw [lvn.out]; omega
      have e2 : xv[k]? = some xv[k] := List.getElem?_eq_getElem h9
      have h1 := V1.out k _ _ e1 e2
      have h2 := k7.out.get e2
      rw [h1]
      split <;> omega
  replace bW := Lib.hid bW
  replace bV := Lib.hid bV
  obtain ⟨cc, hcc⟩ : ∃ cc, Hid (costP cap xw xv x = cc) := ⟨_, rfl⟩
  have HC : Hid (cc = if cap < takenL (x.take n) xw then (0, 9) else (leftL (x.take n) xv, 0)) := by
    have h : cc = if cap < takenL (x.take n) xw then (0, 9) else (leftL (x.take n) xv, 0) := by
      rw [← hcc.out, ← lxn.out, lz]
      rfl
    exact h
  rw [hcc.out]
  clear hcc lz
  go_enter Try.func12, Try.ntmps12
  go_wp2_with (fail)
  refine (CH.out _ (by (repeat (first | assumption | exact Ext.rf _ | apply Ext.drew | apply Ext.drewN | apply Ext.alloc)))).mono ?_
  rintro e w1 ⟨rfl, x1⟩
  have X1 := Lib.hid (Ext.tr (a := w) (by (repeat (first | assumption | exact Ext.rf _ | apply Ext.drew | apply Ext.drewN | apply Ext.alloc))) x1)
  have BB := Lib.hid (B1.out.ext x1)
  have d0 : w1.cell? ⟨w.heap.size, 0, none⟩ = some (.int .i64 1) := BB.out.cell 0
  have d1 : w1.cell? ⟨w.heap.size, 1, none⟩ = some (.int .i64 n) := BB.out.cell 1
  have zb := BB.out.lt
  clear x1
  have exn : (x.length : Int) = (n : Int) := by rw [lxn.out]
  have d2 : w1.cell? ⟨w.heap.size, 2, none⟩ = some (.int .i64 cap) := BB.out.cell 2
  have d3 : w1.cell? ⟨w.heap.size, 3, none⟩ = some (.slice A xw.length a) := BB.out.cell 3
  have d4 : w1.cell? ⟨w.heap.size, 4, none⟩ = some (.slice B xv.length b) := BB.out.cell 4
  go_wp2_with (fail)
  go_loopw [9, 10, 11] (fun a b i wr => ∃ k : Nat, i = .int .i64 k ∧ a = .int .i64 (takenL (x.take k) xw) ∧ b = .int .i64 (leftL (x.take k) xv) ∧ k ≤ n ∧ Ext w1 wr) (fun _ _ i _ => n - (intOf i).toNat)
  case atStart => exact ⟨0, rfl, rfl, rfl, by omega, Ext.rf _⟩
  case round =>
    obtain ⟨wo, rfl⟩ : ∃ wo : World, wo = wr := ⟨_, rfl⟩
    obtain ⟨k, rfl, rfl, rfl, hk, Y⟩ := hrel
    have e1 := keepEL Y zb d1
    have e2 := keepEL Y zb d2
    have e3 := keepEL Y zb d3
    have e4 := keepEL Y zb d4
    obtain ⟨tw1, tw2⟩ := bW.out k hk
    obtain ⟨tv1, tv2⟩ := bV.out k hk
    by_cases hlt : k < n
    · obtain ⟨pb, po, y, rfl, zy, cy, ey, _⟩ := (hP.out.ext (X1.out.tr Y)).at (k := k) (by rw [lxn.out]; exact hlt)
      obtain ⟨ab, ao, u, rfl, zu, cu, eu, _⟩ := (rA.out.ext (X1.out.tr Y)).at (k := k) (by rw [lwn.out]; exact hlt)
      obtain ⟨vb, vo, v, rfl, zv, cv, ev, _⟩ := (rB.out.ext (X1.out.tr Y)).at (k := k) (by rw [lvn.out]; exact hlt)
      have sW := Lib.hid (W1.out k y u ey.out eu.out)
      have sV := Lib.hid (V1.out k y v ey.out ev.out)
      have bu := k6.out.get eu.out
      have bv := k7.out.get ev.out
      have q1 : (k : Int) < (x.length : Int) := by omega
      have q2 : (k : Int) < (xw.length : Int) := by rw [lwn.out]; omega
      have q3 : (k : Int) < (xv.length : Int) := by rw [lvn.out]; omega
      have hy := h01.out y (List.mem_of_getElem? ey.out)
      obtain ⟨tw, htw⟩ : ∃ tw, tw = takenL (x.take k) xw := ⟨_, rfl⟩
      obtain ⟨tv, htv⟩ : ∃ tv, tv = leftL (x.take k) xv := ⟨_, rfl⟩
      rw [← htw] at tw1 tw2 sW ⊢
      rw [← htv] at tv1 tv2 sV ⊢
      clear ey eu ev htw htv e2
      by_cases y1 : y = 1
      · subst y1
        have sW2 : Hid (takenL (x.take (k + 1)) xw = tw + u) := by
          have h := sW.out
          rw [if_pos rfl] at h
          exact h
        have sV2 : Hid (leftL (x.take (k + 1)) xv = tv) := by
          have h := sV.out
          rw [if_pos rfl, Int.add_zero] at h
          exact h
        clear sW sV hy
        have w1' : IntKind.i64.wrap (tw + u) = tw + u := IntWalk.i64_in _ (by omega)
        go_wp2_with (go_quiet (fail))
        go_roundw
        case rel => exact ⟨k + 1, by go_num, by rw [sW2.out], by rw [sV2.out], by omega, by repeat (first | exact Y | apply Ext.drewN)⟩
        case measure => simp [intOf]; omega
      · obtain rfl : y = 0 := by omega
        have sW2 : Hid (takenL (x.take (k + 1)) xw = tw) := by
          have h := sW.out
          rw [if_neg (by decide), Int.add_zero] at h
          exact h
        have sV2 : Hid (leftL (x.take (k + 1)) xv = tv + v) := by
          have h := sV.out
          rw [if_neg (by decide)] at h
          exact h
        clear sW sV hy y1
        have w1' : IntKind.i64.wrap (tv + v) = tv + v := IntWalk.i64_in _ (by omega)
        go_wp2_with (go_quiet (fail))
        go_roundw
        case rel => exact ⟨k + 1, by go_num, by rw [sW2.out], by rw [sV2.out], by omega, by repeat (first | exact Y | apply Ext.drewN)⟩
        case measure => simp [intOf]; omega
    · obtain rfl : k = n := by omega
      obtain ⟨tw, htw⟩ : ∃ tw, tw = takenL (x.take k) xw := ⟨_, rfl⟩
      obtain ⟨tv, htv⟩ : ∃ tv, tv = leftL (x.take k) xv := ⟨_, rfl⟩
      rw [← htw] at tw1 tw2 HC ⊢
      rw [← htv] at tv1 tv2 HC ⊢
      clear htw htv e3 e4
      by_cases hcap : cap < tw
      · have hb : decide (cap < tw) = true := decide_eq_true hcap
        have HC2 : Hid (cc = (0, 9)) := by
          have h := HC.out
          rw [if_pos hcap] at h
          exact h
        clear HC hcap
        go_wp2_with (fail)
        go_ret2
        rw [HC2.out]
        exact ⟨rfl, X1.out.tr Y⟩
      · have hb : decide (cap < tw) = false := decide_eq_false hcap
        have HC2 : Hid (cc = (tv, 0)) := by
          have h := HC.out
          rw [if_neg hcap] at h
          exact h
        clear HC hcap
        go_wp2_with (fail)
        go_ret2
        rw [HC2.out]
        exact ⟨rfl, X1.out.tr Y⟩
end Go.Proofs.Ytpapkofildcdiaa
namespace Go.Proofs.Ytpapkofildcdiaa

/-- what is left of a round trip behind its first so many ways -/
def restW (co : List (List Int)) : List Nat → Int
  | [] => 0
  | u :: q => pathT co u q
theorem pathT_bd {rows : List (List Int)} (num : ∀ a b, a < rows.length → b < rows.length → 0 ≤ costAt rows a b ∧ costAt rows a b ≤ 2147483647) : ∀ (q : List Nat) (s : Nat), s < rows.length → (∀ x ∈ q, x < rows.length) → 0 ≤ pathT rows s q ∧ pathT rows s q ≤ 2147483647 * ((q.length : Int) + 1)
  | [], s, hs, _ => by have := num s 0 hs (by omega); simp only [pathT, List.length_nil]; omega
  | u :: q, s, hs, h => by
    have h1 := num s u hs (h u (by simp))
    have h2 := pathT_bd num q u (h u (by simp)) fun x hx => h x (by simp [hx])
    simp only [pathT, List.length_cons]
    omega
theorem intsN_at {l : List Nat} {k y : Nat} (h : l[k]? = some y) : (intsN l)[k]? = some (y : Int) := by simp [intsN, h]
end Go.Proofs.Ytpapkofildcdiaa
namespace Go.Proofs.Ytpapkofildcdiaa
open Go.RowKit Go.ChangeShapes Go.WideShapes Go.ChangeAt Go.Deep

theorem walkT_cons (rows : List (List Int)) (m last : Nat) (cost c : Int) (p : List Int) : walkT rows m last cost (c :: p) = if 0 ≤ c ∧ c < 64 ∧ m.testBit c.toNat = true then walkT rows (clrM m c.toNat) c.toNat (cost + costAt rows last c.toNat) p else none := rfl
end Go.Proofs.Ytpapkofildcdiaa
namespace Go.Proofs.Ytpapkofildcdiaa
open Go

section
variable {P : Program} {ops : Array Oper} {Q : Exit → Act → World → Prop}
/-- operations that only read, of which it is known what each yields; what is left may wait for them through others -/
theorem wpAny_reads2 (rem : List (Nat × Option Tmp)) (f : Nat → Value) {listed0 : Array Bool} (listed1 : Array Bool) (hok : coreOk2 ops listed0 listed1 rem = true) {a0 : Act} {w : World} {n : Nat}
    (step : ∀ p ∈ rem, ∀ u : Nat → Value, (∀ j ∈ depsOf ops rem p.1, u j = f j) → ∀ K : Act → World → Prop, K ((putAll a0 rem u).put p.2 (f p.1)) w → wpOp P ops Q p.1 K (putAll a0 rem u) w)
    (done : wpAny P .any ops Q n listed1 (putAll a0 rem f) w) : wpAny P .any ops Q (rem.length + n) listed0 a0 w := by
  refine wpAny_core2 rem (fun w' => w' = w) (fun i v _ => v = f i) (fun _ _ => True) listed1 hok (fun _ _ _ _ h _ => h) ?_ n ?_ rfl
  · rintro p hp u w' rfl hD K hK
    exact step p hp u hD K (hK _ _ rfl rfl trivial)
  · rintro u w' rfl hV
    have : ∀ qs : List (Nat × Option Tmp), (∀ p ∈ qs, u p.1 = f p.1) → putAll a0 qs u = putAll a0 qs f := by
      intro qs
      induction qs with
      | nil => intro _; rfl
      | cons q qs ih =>
        intro h
        simp only [putAll, ih (fun p hp => h p (List.mem_cons_of_mem _ hp)), h q List.mem_cons_self]
    rw [this rem hV]
    exact done
end
end Go.Proofs.Ytpapkofildcdiaa
namespace Go.Proofs.Ytpapkofildcdiaa
open Go.RowKit Go.ChangeShapes Go.WideShapes Go.ChangeAt Go.Deep

end Go.Proofs.Ytpapkofildcdiaa
namespace Go.Proofs.Ytpapkofildcdiaa
open Go.RowKit Go.ChangeShapes Go.WideShapes Go.ChangeAt Go.Deep

end Go.Proofs.Ytpapkofildcdiaa
namespace Go.Proofs.Ytpapkofildcdiaa
open Go.RowKit Go.ChangeShapes Go.WideShapes Go.ChangeAt Go.Deep Go.Shelf
attribute [local go_sem] Oper.semAt_some

theorem ibs1g_run (u : World) (x : Int) : (Instr.buildSlice 22 1 #[(0, .int .i64 x)]).run Try.prog u = .ok (.slice (some ⟨u.heap.size, 0, none⟩) 1 1) (u.alloc (.cells #[.int .i64 x] 3)) := by go_simp
end Go.Proofs.Ytpapkofildcdiaa
namespace Go.Proofs.Ytpapkofildcdiaa
open Go.RowKit Go.ChangeShapes Go.WideShapes Go.ChangeAt Go.Deep Go.Shelf
attribute [local go_sem] Oper.semAt_some

theorem putP_bd {B n : Int} {p : Int × Int} (h1 : 0 ≤ p.1 ∧ p.1 ≤ B) (h2 : 0 ≤ p.2 ∧ p.2 ≤ B) (hn : 0 ≤ n ∧ n ≤ B) : (0 ≤ (putP p n).1 ∧ (putP p n).1 ≤ B) ∧ 0 ≤ (putP p n).2 ∧ (putP p n).2 ≤ B := by
  unfold putP
  split
  · exact ⟨hn, h1⟩
  · split
    · exact ⟨h1, hn⟩
    · exact ⟨h1, h2⟩
theorem foldP_bd {B : Int} {f : Nat → Int} : ∀ (l : List Nat) (p : Int × Int), (0 ≤ p.1 ∧ p.1 ≤ B) → (0 ≤ p.2 ∧ p.2 ≤ B) → (∀ v ∈ l, 0 ≤ f v ∧ f v ≤ B) → (0 ≤ (l.foldl (fun p v => putP p (f v)) p).1 ∧ (l.foldl (fun p v => putP p (f v)) p).1 ≤ B) ∧ 0 ≤ (l.foldl (fun p v => putP p (f v)) p).2 ∧ (l.foldl (fun p v => putP p (f v)) p).2 ≤ B
  | [], _, h1, h2, _ => ⟨h1, h2⟩
  | v :: l, p, h1, h2, h => by
    have h3 := putP_bd h1 h2 (h v (by simp))
    exact foldP_bd l _ h3.1 h3.2 fun x hx => h x (by simp [hx])
end Go.Proofs.Ytpapkofildcdiaa
namespace Go.Proofs.Ytpapkofildcdiaa
open Go.RowKit Go.ChangeShapes Go.WideShapes Go.ChangeAt Go.Deep

theorem walk_last {rows : List (List Int)} (h1 : 1 ≤ rows.length) {p : List Int} {m last : Nat} {cost : Int} {l : List Nat} (h : WalkOk rows p m last cost l) : last < rows.length := by
  rw [h.last]
  rcases lastT_mem l 0 with e | e
  · rw [e]; exact h1
  · exact (h.inn _ e).1
end Go.Proofs.Ytpapkofildcdiaa
namespace Go.Proofs.Ytpapkofildcdiaa
open Go.RowKit Go.ChangeShapes Go.WideShapes Go.ChangeAt Go.Deep

end Go.Proofs.Ytpapkofildcdiaa
namespace Go.Proofs.Ytpapkofildcdiaa
open Go.RowKit Go.ChangeShapes Go.WideShapes Go.ChangeAt Go.Deep

theorem sumL_map_bd {f : Nat → Int} {B : Int} : ∀ (l : List Nat), (∀ x ∈ l, 0 ≤ f x ∧ f x ≤ B) → 0 ≤ sumL (l.map f) ∧ sumL (l.map f) ≤ B * (l.length : Int)
  | [], _ => by simp [sumL]
  | x :: l, h => by
    have h1 := h x (by simp)
    have h2 := sumL_map_bd l fun y hy => h y (by simp [hy])
    have h3 : B * ((l.length : Int) + 1) = B * (l.length : Int) + B := by rw [Int.mul_add, Int.mul_one]
    simp only [List.map_cons, sumL, List.length_cons, Int.natCast_add, Int.natCast_one]
    omega
theorem wayC_bd {rows : List (List Int)} (num : ∀ a b, a < rows.length → b < rows.length → 0 ≤ costAt rows a b ∧ costAt rows a b ≤ 2147483647) : ∀ (l : List Nat) (s : Nat), s < rows.length → (∀ x ∈ l, x < rows.length) → 0 ≤ wayC rows s (intsN l) ∧ wayC rows s (intsN l) ≤ 2147483647 * (l.length : Int)
  | [], _, _, _ => by simp [wayC, intsN]
  | x :: l, s, hs, h => by
    have h1 := num s x hs (h x (by simp))
    have h2 := wayC_bd num l x (h x (by simp)) fun y hy => h y (by simp [hy])
    have e : wayC rows s (intsN (x :: l)) = costAt rows s x + wayC rows x (intsN l) := by simp [intsN, wayC]
    rw [e]
    simp only [List.length_cons, Int.natCast_add, Int.natCast_one]
    omega
section
variable {rows : List (List Int)} {us : List Nat} {last : Nat}
theorem reduceT_bd (num : ∀ a b, a < rows.length → b < rows.length → 0 ≤ costAt rows a b ∧ costAt rows a b ≤ 2147483647) (h0 : 0 < rows.length) (hl : last < rows.length) (hu : ∀ x ∈ us, x < rows.length) (hlen : us.length ≤ 24) : 0 ≤ reduceT rows us last ∧ reduceT rows us last ≤ 2147483647 * 100 := by
  have hcol : ∀ {s : Nat}, ∀ d ∈ colsT us last s, d < rows.length := fun {s} d h => by
    unfold colsT at h
    split at h
    · exact hu d h
    · rcases List.mem_cons.1 h with rfl | h
      · exact h0
      · exact hu d (List.mem_filter.1 h).1
  have hsrc : ∀ s ∈ last :: us, s < rows.length := fun s h => by
    rcases List.mem_cons.1 h with rfl | h
    · exact hl
    · exact hu s h
  have hoff : ∀ s ∈ last :: us, 0 ≤ offT rows us last s ∧ offT rows us last s ≤ 2147483647 := fun s hs => by
    have h1 := leastN_bd (f := fun dst => costAt rows s dst) (B := 2147483647) (l := colsT us last s) (b := -1) (fun c hc => by
      have := num s c (hsrc s hs) (hcol c hc)
      omega) (by omega) (by omega)
    unfold offT
    omega
  have h1 := sumL_map_bd (f := fun src => offT rows us last src) (last :: us) hoff
  have h2 := sumL_map_bd (f := fun dst => max (colT rows us last dst) 0) (B := 4294967294) (0 :: us) fun d hd => by
    have hd' : d < rows.length := by
      rcases List.mem_cons.1 hd with rfl | hd
      · exact h0
      · exact hu d hd
    have h3 : -4294967294 ≤ colT rows us last d ∧ colT rows us last d ≤ 4294967294 := by
      unfold colT
      refine leastN_bd (fun s hs => ?_) (by omega) (by omega)
      have h4 := num s d (hsrc s (List.mem_filter.1 hs).1) hd'
      have h5 := hoff s (List.mem_filter.1 hs).1
      omega
    omega
  unfold reduceT
  simp only [List.length_cons] at h1 h2
  omega
theorem endsT_bd (num : ∀ a b, a < rows.length → b < rows.length → 0 ≤ costAt rows a b ∧ costAt rows a b ≤ 2147483647) (h0 : 0 < rows.length) (hl : last < rows.length) (hu : ∀ x ∈ us, x < rows.length) (hlen : us.length ≤ 24) (hne : us ≠ []) : 0 ≤ endsT rows us last ∧ endsT rows us last ≤ 4294967294 * 30 := by
  have h1 := sumL_map_bd (f := fun u => (pairT rows us last u).1 + (pairT rows us last u).2) (B := 4294967294) us fun y hy => by
    have k0 := hu y hy
    have k1 := num y last k0 hl
    have k2 := num y 0 k0 h0
    have h3 := foldP_bd (B := 2147483647) (f := fun v => costAt rows y v) (us.filter fun j => decide (y ≠ j)) (min (costAt rows y last) (costAt rows y 0), max (costAt rows y last) (costAt rows y 0)) (by simp only; omega) (by simp only; omega) fun v hv => num y v k0 (hu v (List.mem_filter.1 hv).1)
    have h4 : pairT rows us last y = (us.filter fun j => decide (y ≠ j)).foldl (fun p v => putP p (costAt rows y v)) (min (costAt rows y last) (costAt rows y 0), max (costAt rows y last) (costAt rows y 0)) := rfl
    rw [← h4] at h3
    omega
  have h2 := leastN_pos (f := fun u => costAt rows last u) (B := 2147483647) (l := us) (fun x hx => num last x hl (hu x hx)) hne (by omega)
  have h3 := leastN_pos (f := fun u => costAt rows u 0) (B := 2147483647) (l := us) (fun x hx => num x 0 (hu x hx) h0) hne (by omega)
  unfold endsT
  omega
end
end Go.Proofs.Ytpapkofildcdiaa
namespace Go.Proofs.Ytpapkofildcdiaa
open Go.RowKit Go.ChangeShapes Go.WideShapes Go.ChangeAt Go.Deep

/-- one number of the ways' costs, in memory -/
theorem cost_at {w : World} {D : Option Addr} {co : List (List Int)} (rok : RowsOk co) (hC : RdE 1 RInts w D co) {r c : Nat} (hr : r < co.length) (hc : c < co.length) :
    ∃ cb cof rb ro d', D = some ⟨cb, cof, none⟩ ∧ w.cell? ⟨cb, cof + r, none⟩ = some (.slice (some ⟨rb, ro, none⟩) co.length d') ∧ w.cell? ⟨rb, ro + c, none⟩ = some (.int .i64 (costAt co r c)) := by
  obtain ⟨cb, cof, D', row, d', rfl, zb, cD, er, _, rD, iD, ld, md⟩ := hC.ints hr
  have lrow := rok.row row (List.mem_of_getElem? er.out)
  obtain ⟨rb, ro, x, rfl, zx, cx, ex, _⟩ := rD.at (k := c) (by omega)
  refine ⟨cb, cof, rb, ro, d', rfl, by rw [cD, lrow], ?_⟩
  rw [cx]
  unfold costAt
  rw [getD_some er.out, getD_some ex.out]
theorem cost_in {w : World} {cb cof : Nat} {co : List (List Int)} (rok : RowsOk co) (hC : RdE 1 RInts w (some ⟨cb, cof, none⟩) co) {r c : Nat} (hr : r < co.length) (hc : c < co.length) :
    ∃ rb ro d', w.cell? ⟨cb, cof + r, none⟩ = some (.slice (some ⟨rb, ro, none⟩) co.length d') ∧ w.cell? ⟨rb, ro + c, none⟩ = some (.int .i64 (costAt co r c)) := by
  obtain ⟨cb', cof', rb, ro, d', h, h1, h2⟩ := cost_at rok hC hr hc
  obtain ⟨rfl, rfl⟩ : cb = cb' ∧ cof = cof' := by simpa using h
  exact ⟨rb, ro, d', h1, h2⟩
theorem ends_num {rows : List (List Int)} (ok : RowsOk rows) (a b : Nat) (ha : a < rows.length) (hb : b < rows.length) : 0 ≤ costAt rows a b ∧ costAt rows a b ≤ 2147483647 := by
  have e1 : rows[a]? = some rows[a] := List.getElem?_eq_getElem ha
  have e2 := ok.row _ (List.getElem_mem ha)
  have e3 : (rows[a])[b]? = some (rows[a])[b] := List.getElem?_eq_getElem (by omega)
  unfold costAt
  rw [getD_some e1, getD_some e3]
  exact ok.num _ (List.getElem_mem ha) _ (List.getElem_mem _)
end Go.Proofs.Ytpapkofildcdiaa
namespace Go.Proofs.Ytpapkofildcdiaa
open Go.RowKit Go.ChangeShapes Go.WideShapes Go.ChangeAt Go.Deep

set_option maxRecDepth 100000 in
set_option maxHeartbeats 4000000 in
theorem rmirror_any (i : InstP) (us : List Value) (w : World) (H : RInst w us i) (ok : SquareOk i) :
    Calls Try.prog 53 #[.agg (List.toArray us)] w fun e w' => e = .returned (.bool (mirP i.cost)) ∧ Ext w w' := by
  have rok := rows_ok ok
  have n24 := rok.n2
  have hnn : i.n = (i.cost.length : Int) := ok.len.symm
  clear ok
  obtain ⟨kind, nn, cap, xw, xv, co⟩ := i
  obtain ⟨A, a, B, b, D, d, rfl, -, -, ⟨hC, -, -⟩⟩ := H
  simp only at *
  subst hnn
  have B1 : Hid (Blk (w.alloc (.cells #[.int .i64 kind, .int .i64 co.length, .int .i64 cap, .slice A xw.length a, .slice B xv.length b, .slice D co.length d] 25)) w.heap.size 25 #[.int .i64 kind, .int .i64 co.length, .int .i64 cap, .slice A xw.length a, .slice B xv.length b, .slice D co.length d]) := .new rfl
  replace hC := Lib.hid hC
  replace rok := Lib.hid rok
  obtain ⟨mm, hmm⟩ : ∃ mm, Hid (mirP co = mm) := ⟨_, rfl⟩
  rw [hmm.out]
  go_enter Try.func53, Try.ntmps53
  have X1 : Hid (Ext w (w.alloc (.cells #[.int .i64 kind, .int .i64 co.length, .int .i64 cap, .slice A xw.length a, .slice B xv.length b, .slice D co.length d] 25))) := (Ext.rf _).alloc _
  go_wp2_with (fail)
  generalize w.alloc (.cells #[.int .i64 kind, .int .i64 co.length, .int .i64 cap, .slice A xw.length a, .slice B xv.length b, .slice D co.length d] 25) = w1 at *
  have BB := B1
  go_loopw [3] (fun v wr => ∃ k : Nat, v = .int .i64 k ∧ k ≤ co.length ∧ Hid (∀ x, x < k → ∀ y, y < x → costAt co x y = costAt co y x) ∧ Hid (Ext w1 wr)) (fun v _ => co.length - (intOf v).toNat)
  case atStart => exact ⟨0, rfl, by omega, fun x hx => absurd hx (Nat.not_lt_zero _), Ext.rf _⟩
  case round =>
    obtain ⟨wo, rfl⟩ : ∃ wo : World, wo = wr := ⟨_, rfl⟩
    obtain ⟨k, rfl, hk, HS, Y⟩ := hrel
    have cN : wo.cell? ⟨w.heap.size, 1, none⟩ = some (.int .i64 co.length) := (BB.out.ext Y.out).cell 1
    by_cases hlt : k < co.length
    · have XW : Hid (Ext w wo) := X1.out.tr Y.out
      obtain ⟨cb, cof, D', row, d', rfl, zb, cD, er, _, rD, iD, ld, md⟩ := (hC.out.ext XW.out fun _ _ h => h.ext XW.out).ints hlt
      have lrow := rok.out.row row (List.mem_of_getElem? er.out)
      have q1 : (k : Int) < (co.length : Int) := by omega
      replace er := Lib.hid er.out
      replace rD := Lib.hid rD
      go_wp2_with (fail)
      go_loopw [4] (fun v wr => ∃ j : Nat, v = .int .i64 j ∧ j ≤ k ∧ Hid (∀ y, y < j → costAt co k y = costAt co y k) ∧ Hid (Ext wo wr)) (fun v _ => k - (intOf v).toNat)
      case atStart => exact ⟨0, rfl, by omega, fun y hy => absurd hy (Nat.not_lt_zero _), Ext.rf _⟩
      case round =>
        obtain ⟨wi, rfl⟩ : ∃ wi : World, wi = wr := ⟨_, rfl⟩
        obtain ⟨j, rfl, hj, HJ, Z⟩ := hrel
        have XZ := Lib.hid (Ext.tr (a := w) (XW.out) Z.out)
        by_cases hlj : j < k
        · obtain ⟨cb', cof', D2, row2, d2, hq, zb2, cD2, er2, _, rD2, iD2, ld2, md2⟩ := (hC.out.ext XZ.out fun _ _ h => h.ext XZ.out).ints (r := j) (by omega)
          obtain ⟨rfl, rfl⟩ : cb = cb' ∧ cof = cof' := by simpa using hq
          have cDk := (Z.out.cells.1 _ (cof + k) zb).trans cD
          have lrow2 := rok.out.row row2 (List.mem_of_getElem? er2.out)
          obtain ⟨rb, ro, x, rfl, zx, cx, ex, _⟩ := (rD.out.ext Z.out).at (k := j) (by omega)
          obtain ⟨rb2, ro2, y, rfl, zy, cy, ey, _⟩ := rD2.at (k := k) (by omega)
          have d5' : wi.cell? ⟨w.heap.size, 5, none⟩ = some (.slice (some ⟨cb, cof, none⟩) co.length d) := ((BB.out.ext Y.out).ext Z.out).cell 5
          have exy : Hid (costAt co k j = x ∧ costAt co j k = y) := by
            refine ⟨?_, ?_⟩
            · unfold costAt; rw [getD_some er.out, getD_some ex.out]
            · unfold costAt; rw [getD_some er2.out, getD_some ey.out]
          have q2 : (j : Int) < (co.length : Int) := by omega
          have q3 : (j : Int) < (row.length : Int) := by omega
          have q4 : (k : Int) < (row2.length : Int) := by omega
          replace ex := Lib.hid ex.out
          replace ey := Lib.hid ey.out
          replace er2 := Lib.hid er2.out
          replace rD2 := Lib.hid rD2
          have q5 : (k : Int) < (co.length : Int) := by omega
          clear hq
          by_cases hxy : x = y
          · subst hxy
            have t0 : (x != x) = false := by simp
            have NX : Hid (∀ yy, yy < j + 1 → costAt co k yy = costAt co yy k) := fun yy hy => by
              by_cases e : yy = j
              · subst e; rw [exy.out.1, exy.out.2]
              · exact HJ.out yy (by omega)
            go_wp2_with (fail)
            go_quiet (fail)
            go_wp2_with (fail)
            go_roundw
            case rel => exact ⟨j + 1, by go_num, by omega, NX, Z.out.drewN _⟩
            case measure => simp [intOf]; omega
          · have t0 : (x != y) = true := by simpa using hxy
            have HM : Hid (mm = false) := by
              have h : mm = false := by
                rw [← hmm.out]
                exact mirP_false hlt hlj (by rw [exy.out.1, exy.out.2]; exact hxy)
              exact h
            go_wp2_with (fail)
            go_quiet (fail)
            go_wp2_with (fail)
            go_ret
            rw [HM.out]
            exact ⟨rfl, XZ.out.drewN _⟩
        · obtain rfl : j = k := by omega
          have q2 : ¬ (j : Int) < (j : Int) := by omega
          have HS3 : Hid (∀ x, x < j + 1 → ∀ y, y < x → costAt co x y = costAt co y x) := fun x hx => by
            by_cases e : x = j
            · subst e; exact HJ.out
            · exact HS.out x (by omega)
          have YZ := Lib.hid (Y.out.tr Z.out)
          go_wp2_with (fail)
          go_roundw
          case rel => exact ⟨j + 1, by go_num, by omega, HS3, YZ.out⟩
          case measure => simp [intOf]; omega
    · obtain rfl : k = co.length := by omega
      have HM : Hid (mm = true) := by
        have h : mm = true := by
          rw [← hmm.out]
          exact mirP_true HS.out
        exact h
      have q2 : ¬ (co.length : Int) < (co.length : Int) := by omega
      have XW := Lib.hid (X1.out.tr Y.out)
      go_wp2_with (fail)
      go_ret
      rw [HM.out]
      exact ⟨rfl, XW.out⟩
end Go.Proofs.Ytpapkofildcdiaa
namespace Go.Proofs.Ytpapkofildcdiaa
open Go.RowKit Go.ChangeShapes Go.WideShapes Go.ChangeAt Go.Deep

theorem results_four {fn : Func} {t u v x : Tmp} (h : fn.results = #[.tmp t, .tmp u, .tmp v, .tmp x]) (tmps : Array Value) (P : Program) (w : World) :
    (results fn tmps).run P w = .ok (.tuple #[tmps.getD t undef, tmps.getD u undef, tmps.getD v undef, tmps.getD x undef]) w := by
  simp [results, h]
abbrev used1 : Array Value := #[.bool true, .bool false, .bool false, .bool false, .bool false, .bool false, .bool false, .bool false, .bool false, .bool false, .bool false, .bool false, .bool false, .bool false, .bool false, .bool false, .bool false, .bool false, .bool false, .bool false, .bool false, .bool false, .bool false, .bool false]
theorem usedC_rest {n : Nat} (h1 : 1 ≤ n) (h : n ≤ 24) : usedC n (restM n) = used1 := by
  unfold restM
  rw [← usedC_set (subN_full h).1 (by omega), usedC_full h]
  rfl
def RestSome (m last : Nat) (cost : Int) (w : World) (e : Ending) (w' : World) : Prop := ∃ A c, e = .returned (.tuple #[.slice A (memsM m).length c, .int .i64 last, .int .i64 cost, .bool true]) ∧ OwI w' w.heap.size A c (intsN (memsM m)) ∧ Ext w w'
def RRest (r : Option (Nat × Nat × Int)) (w : World) (e : Ending) (w' : World) : Prop := match r with
  | none => e = .returned (.tuple #[.slice none 0 0, .int .i64 0, .int .i64 0, .bool false]) ∧ Ext w w'
  | some (m, last, cost) => RestSome m last cost w e w'
set_option maxRecDepth 100000 in
set_option maxHeartbeats 4000000 in
theorem rrest_any (i : InstP) (us : List Value) (P : Option Addr) (pc : Nat) (p : List Int) (w : World) (H : RInst w us i) (n : Nat) (hn : i.n = n) (hcn : i.cost.length = n) (rok : RowsOk i.cost) (h1 : 1 ≤ n) (h24 : n ≤ 24) (hP : RdI w P p) (lp : p.length ≤ 1000000000) :
    Calls Try.prog 52 #[.agg (List.toArray us), .slice P p.length pc] w (RRest (walkP i.cost p) w) := by
  obtain ⟨kind, nn, cap, xw, xv, co⟩ := i
  obtain ⟨A, a, B, b, D, d, rfl, -, -, ⟨hC, -, -⟩⟩ := H
  simp only at *
  subst hn
  replace hC := Lib.hid hC
  replace rok := Lib.hid rok
  replace hcn := Lib.hid hcn
  have UF : Hid (SubN n (restM n)) := restM_sub h24
  obtain ⟨r, hr⟩ : ∃ r, Hid (walkP co p = r) := ⟨_, rfl⟩
  rw [hr.out]
  unfold walkP at hr
  rw [hcn.out] at hr
  replace hP := Lib.hid hP
  have B1 : Hid (Blk (w.alloc (.cells #[.int .i64 kind, .int .i64 n, .int .i64 cap, .slice A xw.length a, .slice B xv.length b, .slice D co.length d] 25)) w.heap.size 25 #[.int .i64 kind, .int .i64 n, .int .i64 cap, .slice A xw.length a, .slice B xv.length b, .slice D co.length d]) := .new rfl
  by_cases hlen : n - 1 < p.length
  · have hr2 : Hid (r = none) := by
      have h := hr.out
      rw [if_pos hlen] at h
      exact h.symm
    have hlb : (n : Int) - 1 < (p.length : Int) := by omega
    have hw : IntKind.i64.wrap ((n : Int) - 1) = (n : Int) - 1 := IntWalk.i64_in _ (by omega)
    rw [hr2.out]
    unfold RRest
    clear hr hr2
    go_enter Try.func52, Try.ntmps52
    go_wp2_with (fail)
    ((try simp only [Exit.inBlock, Exit.then]); refine bodyPost_ret (results_four rfl _ _ _) rfl ?_)
    exact ⟨rfl, by (repeat (first | assumption | exact Ext.rf _ | apply Ext.drew | apply Ext.drewN | apply Ext.alloc))⟩
  · have hr2 : Hid (walkT co (restM n) 0 0 p = r) := by
      have h := hr.out
      rw [if_neg hlen] at h
      exact h
    have hlb : ¬ (n : Int) - 1 < (p.length : Int) := by omega
    have hw : IntKind.i64.wrap ((n : Int) - 1) = (n : Int) - 1 := IntWalk.i64_in _ (by omega)
    obtain ⟨m0, hm0⟩ : ∃ m0, Hid (m0 = restM n) := ⟨restM n, by exact rfl⟩
    have FU2 : Hid (usedC n m0 = used1) := by rw [hm0.out]; exact usedC_rest h1 h24
    rw [← hm0.out] at hr2 UF
    have START : Hid (Ext w ((w.alloc (.cells #[.int .i64 kind, .int .i64 n, .int .i64 cap, .slice A xw.length a, .slice B xv.length b, .slice D co.length d] 25)).alloc (.cells #[.bool true, .bool false, .bool false, .bool false, .bool false, .bool false, .bool false, .bool false, .bool false, .bool false, .bool false, .bool false, .bool false, .bool false, .bool false, .bool false, .bool false, .bool false, .bool false, .bool false, .bool false, .bool false, .bool false, .bool false] 89)) ∧ Blk ((w.alloc (.cells #[.int .i64 kind, .int .i64 n, .int .i64 cap, .slice A xw.length a, .slice B xv.length b, .slice D co.length d] 25)).alloc (.cells #[.bool true, .bool false, .bool false, .bool false, .bool false, .bool false, .bool false, .bool false, .bool false, .bool false, .bool false, .bool false, .bool false, .bool false, .bool false, .bool false, .bool false, .bool false, .bool false, .bool false, .bool false, .bool false, .bool false, .bool false] 89)) w.heap.size 25 #[.int .i64 kind, .int .i64 n, .int .i64 cap, .slice A xw.length a, .slice B xv.length b, .slice D co.length d] ∧ Blk ((w.alloc (.cells #[.int .i64 kind, .int .i64 n, .int .i64 cap, .slice A xw.length a, .slice B xv.length b, .slice D co.length d] 25)).alloc (.cells #[.bool true, .bool false, .bool false, .bool false, .bool false, .bool false, .bool false, .bool false, .bool false, .bool false, .bool false, .bool false, .bool false, .bool false, .bool false, .bool false, .bool false, .bool false, .bool false, .bool false, .bool false, .bool false, .bool false, .bool false] 89)) (w.heap.size + 1) 89 (usedC n m0)) :=
      ⟨((Ext.rf _).alloc _).alloc _, B1.out.alloc _, by rw [FU2.out]; exact .new (by simp)⟩
    clear hr
    go_enter Try.func52, Try.ntmps52
    go_wp2_with (fail)
    go_loopw [11, 10, 9] (fun v cv lv wr => ∃ (k m last : Nat) (cost : Int), v = .int .i64 k ∧ cv = .int .i64 cost ∧ lv = .int .i64 last ∧ k ≤ p.length ∧ Hid (walkT co m last cost (p.drop k) = r) ∧ Hid (SubN n m) ∧ Hid (last < n ∧ 0 ≤ cost ∧ cost ≤ 2147483647 * (k : Int)) ∧ Hid (Ext w wr ∧ Blk wr w.heap.size 25 #[.int .i64 kind, .int .i64 n, .int .i64 cap, .slice A xw.length a, .slice B xv.length b, .slice D co.length d] ∧ Blk wr (w.heap.size + 1) 89 (usedC n m))) (fun v _ _ _ => p.length - (intOf v).toNat)
    case atStart => exact ⟨0, m0, 0, 0, rfl, rfl, rfl, by omega, hr2, UF, by exact (show 0 < n ∧ (0 : Int) ≤ 0 ∧ (0 : Int) ≤ 2147483647 * ((0 : Nat) : Int) from ⟨by omega, by omega, by omega⟩), START⟩
    case round =>
      obtain ⟨wo, rfl⟩ : ∃ wo : World, wo = wr := ⟨_, rfl⟩
      clear START FU2
      obtain ⟨k, m, last, cost, rfl, rfl, rfl, hk, HF, HU, HL, HH⟩ := hrel
      obtain ⟨Y, bI, bU⟩ := HH.out
      have cN : wo.cell? ⟨w.heap.size, 1, none⟩ = some (.int .i64 n) := bI.cell 1
      replace Y := Lib.hid Y
      replace bI := Lib.hid bI
      replace bU := Lib.hid bU
      clear HH
      by_cases hlt : k < p.length
      · obtain ⟨pb, po, c, rfl, zp, cp, ep, dp⟩ := (hP.out.ext Y.out).at hlt
        have HF2 : Hid (r = if 0 ≤ c ∧ c < 64 ∧ m.testBit c.toNat = true then walkT co (clrM m c.toNat) c.toNat (cost + costAt co last c.toNat) (p.drop (k + 1)) else none) := by
          have h := HF.out
          rw [dp.out, walkT_cons] at h
          exact h.symm
        have q1 : (k : Int) < (p.length : Int) := by omega
        clear HF dp
        by_cases c0 : c < 0
        · have HN : Hid (r = none) := by
            have h := HF2.out
            rw [if_neg (by omega)] at h
            exact h
          have t0 : decide (c < 0) = true := decide_eq_true c0
          go_wp2_with (fail)
          go_quiet (fail)
          go_wp2_with (fail)
          ((try simp only [Exit.inBlock, Exit.then]); refine bodyPost_ret (results_four rfl _ _ _) rfl ?_)
          rw [HN.out]
          exact ⟨rfl, Y.out.drewN _⟩
        · have t0 : decide (c < 0) = false := decide_eq_false c0
          obtain ⟨ci, rfl⟩ : ∃ ci : Nat, c = (ci : Int) := ⟨c.toNat, by omega⟩
          rw [Int.toNat_natCast] at HF2
          clear c0 t0
          by_cases c1 : n ≤ ci
          · have HN : Hid (r = none) := by
              have h := HF2.out
              rw [if_neg (by rintro ⟨_, h1, h2⟩; have := HU.out.2 ci (memsM_mem.2 ⟨by omega, h2⟩); omega)] at h
              exact h
            have t1 : decide (n ≤ ci) = true := decide_eq_true c1
            have t2 : decide ((n : Int) ≤ (ci : Int)) = true := decide_eq_true (by omega)
            go_wp2_with (fail)
            go_quiet (fail)
            go_wp2_with (fail)
            ((try simp only [Exit.inBlock, Exit.then]); refine bodyPost_ret (results_four rfl _ _ _) rfl ?_)
            rw [HN.out]
            exact ⟨rfl, Y.out.drewN _⟩
          · have t1 : decide (n ≤ ci) = false := decide_eq_false c1
            have t2 : decide ((n : Int) ≤ (ci : Int)) = false := decide_eq_false (by omega)
            have cin : ci < n := by omega
            have ci24 : (ci : Int) < 24 := by omega
            have dn : decide (ci < n) = true := decide_eq_true cin
            cases hb : m.testBit ci with
            | false =>
              have HN : Hid (r = none) := by
                have h := HF2.out
                rw [if_neg (by rintro ⟨_, h1, h2⟩; rw [hb] at h2; cases h2)] at h
                exact h
              have cu : wo.cell? ⟨w.heap.size + 1, ci, none⟩ = some (.bool true) := by rw [bU.out.cell, usedC_at (by omega), dn, hb]; rfl
              clear HF2 hb dn
              go_wp2_with (fail)
              go_quiet (fail)
              go_wp2_with (fail)
              ((try simp only [Exit.inBlock, Exit.then]); refine bodyPost_ret (results_four rfl _ _ _) rfl ?_)
              rw [HN.out]
              exact ⟨rfl, Y.out.drewN _⟩
            | true =>
              have HF3 : Hid (walkT co (clrM m ci) ci (cost + costAt co last ci) (p.drop (k + 1)) = r) := by
                have h := HF2.out
                rw [if_pos ⟨by omega, by omega, hb⟩] at h
                exact h.symm
              have cu : wo.cell? ⟨w.heap.size + 1, ci, none⟩ = some (.bool false) := by rw [bU.out.cell, usedC_at (by omega), dn, hb]; rfl
              have fu := bU.out.free ci
              have HU2 := Lib.hid (HU.out.clr ci)
              have NX : Hid (∀ q, Ext w ((wo.drewN q).setCell ⟨w.heap.size + 1, ci, none⟩ (.bool true)) ∧ Blk ((wo.drewN q).setCell ⟨w.heap.size + 1, ci, none⟩ (.bool true)) w.heap.size 25 #[.int .i64 kind, .int .i64 n, .int .i64 cap, .slice A xw.length a, .slice B xv.length b, .slice D co.length d] ∧ Blk ((wo.drewN q).setCell ⟨w.heap.size + 1, ci, none⟩ (.bool true)) (w.heap.size + 1) 89 (usedC n (clrM m ci))) := by
                intro q
                refine ⟨(Y.out.drewN q).setNew (by simp) _, (bI.out.drewN q).far (by simp) _, ?_⟩
                rw [← usedC_set HU.out.1 cin]
                exact (bU.out.drewN q).set ci _
              clear HF2 hb dn
              generalize clrM m ci = m2 at *
              go_wp2_with (fail)
              go_quiet (fail)
              go_wp2_with (fail)
              obtain ⟨NY, NI, NU⟩ := NX.out nq
              clear cu fu cN cp zp NX
              generalize (wo.drewN nq).setCell ⟨w.heap.size + 1, ci, none⟩ (.bool true) = w2 at *
              have hlc : last < co.length := by have := HL.out.1; have := hcn.out; omega
              obtain ⟨cb, cof, D', row, d', hDq, zb, cD, er, _, rD, _, _, _⟩ := (hC.out.ext NY fun _ _ h => h.ext NY).ints (r := last) hlc
              subst hDq
              have hmem := List.mem_of_getElem? er.out
              have lrow := rok.out.row row hmem
              have nrow := rok.out.num row hmem
              obtain ⟨rb, ro, y, rfl, zx, cx, ex, _⟩ := rD.at (k := ci) (by have := hcn.out; omega)
              obtain ⟨pb2, po2, c2, hpq, zp2, cp2, ep2, _⟩ := (hP.out.ext NY).at hlt
              obtain ⟨rfl, rfl⟩ : pb = pb2 ∧ po = po2 := by simpa using hpq
              obtain rfl : (ci : Int) = c2 := by
                have h := ep2.out
                rw [ep.out] at h
                exact Option.some.inj h
              have ny := nrow y (List.mem_of_getElem? ex.out)
              have ecost : costAt co last ci = y := by unfold costAt; rw [getD_some er.out, getD_some ex.out]
              rw [ecost] at HF3
              have HL2 : Hid (ci < n ∧ 0 ≤ cost + y ∧ cost + y ≤ 2147483647 * ((k + 1 : Nat) : Int)) := by
                have h := HL.out
                have : ci < n ∧ 0 ≤ cost + y ∧ cost + y ≤ 2147483647 * ((k + 1 : Nat) : Int) := ⟨cin, by omega, by omega⟩
                exact this
              have hw2 : IntKind.i64.wrap (cost + y) = cost + y := IntWalk.i64_in _ (by have := HL2.out; omega)
              have cI5 : w2.cell? ⟨w.heap.size, 5, none⟩ = some (.slice (some ⟨cb, cof, none⟩) co.length d) := NI.cell 5
              have q6 : (last : Int) < (co.length : Int) := by omega
              have q7 : (ci : Int) < (row.length : Int) := by have := hcn.out; omega
              have NN : Hid (∀ q, Ext w (w2.drewN q) ∧ Blk (w2.drewN q) w.heap.size 25 #[.int .i64 kind, .int .i64 n, .int .i64 cap, .slice A xw.length a, .slice B xv.length b, .slice (some ⟨cb, cof, none⟩) co.length d] ∧ Blk (w2.drewN q) (w.heap.size + 1) 89 (usedC n m2)) := fun q => ⟨NY.drewN q, NI.drewN q, NU.drewN q⟩
              clear ex er rD hmem lrow nrow ecost hlc NY NI NU ep ep2 hpq
              go_quiet (fail)
              go_wp2_with (fail)
              go_roundw
              case rel => exact ⟨k + 1, m2, ci, cost + y, by go_num, rfl, rfl, by omega, HF3, HU2, HL2, NN.out _⟩
              case measure => simp [intOf]; omega
      · have HF2 : Hid (some (m, last, cost) = r) := by
          have h := HF.out
          rw [show p.drop k = [] from List.drop_of_length_le (by omega)] at h
          exact h
        have q1 : ¬ (k : Int) < (p.length : Int) := by omega
        have HM : Hid (memsM m = upTo m n) := memsM_range HU.out (by omega)
        have X9 := Lib.hid (Y.out.alloc (.cells #[] 3))
        have bI9 := Lib.hid (bI.out.alloc (.cells #[] 3))
        have bU9 := Lib.hid (bU.out.alloc (.cells #[] 3))
        have zY := Y.out.size
        have o9 : Hid (OwI (wo.alloc (.cells #[] 3)) w.heap.size (some ⟨wo.heap.size, 0, none⟩) 0 (intsN (upTo m 0))) := OwI.new (xs := []) rfl zY (by simp [maxLen])
        clear HF HU hr2
        go_wp2_with (fail)
        go_loopw [13, 12] (fun v o wr => ∃ (k : Nat) (A' : Option Addr) (c' : Nat), v = .int .i64 k ∧ o = .slice A' (upTo m k).length c' ∧ k ≤ n ∧ Hid (OwI wr w.heap.size A' c' (intsN (upTo m k))) ∧ Hid (Ext w wr) ∧ Hid (Blk wr w.heap.size 25 #[.int .i64 kind, .int .i64 n, .int .i64 cap, .slice A xw.length a, .slice B xv.length b, .slice D co.length d]) ∧ Hid (Blk wr (w.heap.size + 1) 89 (usedC n m))) (fun v _ _ => n - (intOf v).toNat)
        case atStart => exact ⟨0, _, _, rfl, rfl, by omega, o9, X9, bI9, bU9⟩
        case round =>
          obtain ⟨wi, rfl⟩ : ∃ wi : World, wi = wr := ⟨_, rfl⟩
          obtain ⟨j, A', c', rfl, rfl, hj, oJ, YJ, bIJ, bUJ⟩ := hrel
          clear X9 bI9 bU9 o9
          have cN2 : wi.cell? ⟨w.heap.size, 1, none⟩ = some (.int .i64 n) := bIJ.out.cell 1
          have US := Lib.hid (upTo_succ m j)
          have UL := upTo_len m j
          by_cases hjn : j < n
          · have j24 : (j : Int) < 24 := by omega
            have dn : decide (j < n) = true := decide_eq_true hjn
            have q3 : (j : Int) < (n : Int) := by omega
            cases hb : m.testBit j with
            | false =>
              have cu : wi.cell? ⟨w.heap.size + 1, j, none⟩ = some (.bool true) := by rw [bUJ.out.cell, usedC_at (by omega), dn, hb]; rfl
              have HE : Hid (upTo m (j + 1) = upTo m j) := by
                have h := US.out
                rw [hb, if_neg (by simp), List.append_nil] at h
                exact h
              clear US hb dn
              go_wp2_with (fail)
              go_roundw
              case rel => exact ⟨j + 1, A', c', by go_num, by rw [HE.out], by omega, by rw [HE.out]; exact oJ, YJ, bIJ, bUJ⟩
              case measure => simp [intOf]; omega
            | true =>
              have cu : wi.cell? ⟨w.heap.size + 1, j, none⟩ = some (.bool false) := by rw [bUJ.out.cell, usedC_at (by omega), dn, hb]; rfl
              have HE : Hid (upTo m (j + 1) = upTo m j ++ [j]) := by
                have h := US.out
                rw [hb, if_pos rfl] at h
                exact h
              have HE2 : Hid (intsN (upTo m (j + 1)) = intsN (upTo m j) ++ [(j : Int)]) := by
                have h : intsN (upTo m (j + 1)) = intsN (upTo m j) ++ [(j : Int)] := by rw [HE.out]; simp [intsN]
                exact h
              have HL : Hid ((upTo m (j + 1)).length = (upTo m j).length + 1) := by
                have h : (upTo m (j + 1)).length = (upTo m j).length + 1 := by rw [HE.out]; simp
                exact h
              have zJ := YJ.out.size
              have e0 : (upTo m j).length = (intsN (upTo m j)).length := (intsN_len _).symm
              have l0 : (intsN (upTo m j)).length ≤ 24 := by rw [intsN_len]; omega
              rw [e0]
              clear US hb dn UL e0 HE
              replace l0 := Lib.hid l0
              go_wp2_with (at_builtin; refine wpl_app_i _ rfl _ _ rfl w.heap.size A' (intsN (upTo m j)).length c' (intsN (upTo m j)) [(j : Int)] (some ⟨wi.heap.size, 0, none⟩) 1 rfl rfl rfl ?_ ?_ ?_ ?_ ?_; (exact oJ.out.ext ((Ext.rf _).alloc _)); (exact .blk (.new (by simp)) rfl); (have := l0.out; simp; omega); (first | exact Nat.le_refl _ | omega | (focus (simp; try omega))); rintro A5 c5 w5 o5 g5 _; have X5 := Lib.hid (Ext.grow (YJ.out.alloc _) g5 (fun k hk => (oJ.out.lt k hk).1)); have bI5 : Hid (Blk w5 w.heap.size 25 #[.int .i64 kind, .int .i64 n, .int .i64 cap, .slice A xw.length a, .slice B xv.length b, .slice D co.length d]) := (bIJ.out.alloc _).mod (Mod.grown (S := fun k => bl A' = some k) g5 (fun _ h => h)) (fun h => absurd rfl (oJ.out.ne bIJ.out (by decide) _ h)); have bU5 : Hid (Blk w5 (w.heap.size + 1) 89 (usedC n m)) := (bUJ.out.alloc _).mod (Mod.grown (S := fun k => bl A' = some k) g5 (fun _ h => h)) (fun h => absurd rfl (oJ.out.ne bUJ.out (by decide) _ h)); rw [← HE2.out] at o5; replace o5 := Lib.hid o5; clear g5)
              go_roundw
              case rel => exact ⟨j + 1, A5, c5, by go_num, by rw [HL.out, intsN_len], by omega, o5, X5, bI5, bU5⟩
              case measure => simp [intOf]; omega
          · obtain rfl : j = n := by omega
            have q3 : ¬ (j : Int) < (j : Int) := by omega
            have FIN : Hid (RestSome m last cost w (.returned (.tuple #[.slice A' (upTo m j).length c', .int .i64 last, .int .i64 cost, .bool true])) wi) := ⟨A', c', by rw [HM.out], by rw [HM.out]; exact oJ.out, YJ.out⟩
            clear US UL
            go_wp2_with (fail)
            ((try simp only [Exit.inBlock, Exit.then]); refine bodyPost_ret (results_four rfl _ _ _) rfl ?_)
            rw [← HF2.out]
            exact FIN.out
end Go.Proofs.Ytpapkofildcdiaa
namespace Go.Proofs.Ytpapkofildcdiaa
open Go.RowKit Go.ChangeShapes Go.WideShapes Go.ChangeAt Go.Deep

end Go.Proofs.Ytpapkofildcdiaa
namespace Go.Proofs.Ytpapkofildcdiaa
open Go.RowKit Go.ChangeShapes Go.WideShapes Go.ChangeAt Go.Deep

set_option maxRecDepth 100000 in
set_option maxHeartbeats 8000000 in
theorem rkids13_any (i : InstP) (us : List Value) (P : Option Addr) (pc : Nat) (p : List Int) (w : World) (H : RInst w us i) (ok : SquareOk i) (hP : RdI w P p) (lp : p.length ≤ 1000000000) :
    Calls Try.prog 57 #[.agg (List.toArray us), .slice P p.length pc] w (OwnPost (kidsT i.cost p).1 (kidsT i.cost p).2 w) := by
  have rok := rows_ok ok
  have l1 := rok.n1
  have l2 := rok.n2
  have hnn : i.n = (i.cost.length : Int) := ok.len.symm
  have FR := fun (W : World) (x : Ext w W) => rrest_any i us P pc p W (H.ext x) i.cost.length hnn rfl rok l1 l2 (hP.ext x) lp
  clear ok
  obtain ⟨kind, nn, cap, xw, xv, co⟩ := i
  obtain ⟨A, a, B, b, D, d, rfl, -, -, ⟨hC, -, -⟩⟩ := H
  simp only at *
  subst hnn
  obtain ⟨r, hr⟩ : ∃ r, Hid (walkP co p = r) := ⟨_, rfl⟩
  rw [hr.out] at FR
  replace hP := Lib.hid hP
  have B1 : Hid (Blk (w.alloc (.cells #[.int .i64 kind, .int .i64 co.length, .int .i64 cap, .slice A xw.length a, .slice B xv.length b, .slice D co.length d] 25)) w.heap.size 25 #[.int .i64 kind, .int .i64 co.length, .int .i64 cap, .slice A xw.length a, .slice B xv.length b, .slice D co.length d]) := .new rfl
  cases r with
  | none =>
    have e : kidsT co p = ([], 1) := by unfold kidsT; rw [hr.out]
    rw [e]
    unfold RRest at FR
    replace FR := Lib.hid FR
    go_enter Try.func57, Try.ntmps57
    go_wp2_with (fail)
    refine (FR.out _ (by (repeat (first | assumption | exact Ext.rf _ | apply Ext.drew | apply Ext.drewN | apply Ext.alloc)))).mono ?_
    rintro e w1 ⟨rfl, x1⟩
    have X1 := Lib.hid (Ext.tr (a := w) (by (repeat (first | assumption | exact Ext.rf _ | apply Ext.drew | apply Ext.drewN | apply Ext.alloc))) x1)
    clear x1
    go_wp2_with (fail)
    go_ret2
    exact ⟨none, 0, rfl, OwI.nil _ _, X1.out⟩
  | some s =>
    obtain ⟨m, last, cost⟩ := s
    obtain ⟨pl, WO⟩ := walk_ok l1 l2 hr.out
    have hS := WO.sub
    have hlast := walk_last l1 WO
    have hlen : (memsM m).length ≤ 24 := by have := WO.len; omega
    have e : kidsT co p = (intsN (sortP (ltC (cfR (co.getD last []))) (memsM m)), 0) := by unfold kidsT; rw [hr.out]
    rw [e]
    clear e
    have hsub := Lib.hid hS.2
    have hsrt := Lib.hid (memsM_sorted m)
    replace FR := fun (W : World) (x : Ext w W) => (show Calls _ _ _ W (RestSome m last cost W) from FR W x)
    unfold RestSome at FR
    replace FR := Lib.hid FR
    clear hr hS WO
    generalize memsM m = l at *
    have hkr : last < co.length := hlast
    have er : co[last]? = some co[last] := List.getElem?_eq_getElem hkr
    have eg : co.getD last [] = co[last] := by simp [List.getD, er]
    rw [eg]
    clear eg
    replace hC := Lib.hid hC
    have hmem : co[last] ∈ co := List.getElem_mem hkr
    have lrow := rok.row _ hmem
    clear hmem
    have HCO : Hid (∀ W, Ext w W → ∃ bb off D' row d', D = some ⟨bb, off, none⟩ ∧ W.cell? ⟨bb, off + last, none⟩ = some (.slice D' row.length d') ∧ RdI W D' row ∧ row = co[last]) := by
      intro W x
      obtain ⟨bb, off, D', row, d', h1, _, h3, h4, _, h6, _⟩ := (hC.out.ext x fun _ _ h => h.ext x).ints hkr
      refine ⟨bb, off, D', row, d', h1, h3, h6, ?_⟩
      have := h4.out
      rw [er] at this
      exact (Option.some.inj this).symm
    generalize co[last] = row0 at *
    clear er
    have q1 : (last : Int) < (co.length : Int) := by omega
    have hl24 : l.length ≤ 24 := by omega
    replace lrow := Lib.hid lrow
    replace hlen := Lib.hid hlen
    go_enter Try.func57, Try.ntmps57
    go_wp2_with (fail)
    refine (FR.out _ (by (repeat (first | assumption | exact Ext.rf _ | apply Ext.drew | apply Ext.drewN | apply Ext.alloc)))).mono ?_
    rintro e w1 ⟨A1, c1, rfl, o1, x1⟩
    have X1 := Lib.hid (Ext.tr (a := w) (by (repeat (first | assumption | exact Ext.rf _ | apply Ext.drew | apply Ext.drewN | apply Ext.alloc))) x1)
    have BB := Lib.hid (B1.out.ext x1)
    obtain ⟨bb, off, D', row, d', rfl, cD, rD, rfl⟩ := HCO.out _ X1.out
    have d1 : w1.cell? ⟨w.heap.size, 1, none⟩ = some (.int .i64 co.length) := BB.out.cell 1
    have d5 : w1.cell? ⟨w.heap.size, 5, none⟩ = some (.slice (some ⟨bb, off, none⟩) co.length d) := BB.out.cell 5
    have z1 := X1.out.size
    have zo := o1.lt
    replace o1 := Lib.hid o1.read
    replace rD := Lib.hid rD
    clear x1 HCO zo
    go_wp2_with (at_make; refine wpl_make_i _ rfl _ _ rfl w1.heap.size _ _ l.length rfl rfl rfl rfl (by omega) (Nat.le_refl _) ?_; rintro w3 o3 g3)
    have x3 : Ext w1 w3 := (Ext.rf _).grownNone g3
    have S3 : Hid (OwI w3 w1.heap.size (some ⟨w1.heap.size, 0, none⟩) l.length (placeK (aheadL (ltC (cfR row)) l) l 0) ∧ Ext w1 w3) := ⟨o3, x3⟩
    clear o3 g3 x3 d1 d5 cD
    go_wp2_with (fail)
    go_loopw [12] (fun v wr => ∃ k : Nat, v = .int .i64 k ∧ k ≤ l.length ∧ Hid (OwI wr w1.heap.size (some ⟨w1.heap.size, 0, none⟩) l.length (placeK (aheadL (ltC (cfR row)) l) l k) ∧ Ext w1 wr)) (fun v _ => l.length - (intOf v).toNat)
    case atStart => exact ⟨0, rfl, by omega, S3⟩
    case round =>
      obtain ⟨wo, rfl⟩ : ∃ wo : World, wo = wr := ⟨_, rfl⟩
      obtain ⟨k, rfl, hk, HS⟩ := hrel
      clear S3
      by_cases hlt : k < l.length
      · have q2 : (k : Int) < (l.length : Int) := by omega
        have ek : l[k]? = some l[k] := List.getElem?_eq_getElem hlt
        have hkm : l[k] ∈ l := List.getElem_mem hlt
        have HPK : Hid (placeK (aheadL (ltC (cfR row)) l) l (k + 1) = (placeK (aheadL (ltC (cfR row)) l) l k).set (aheadL (ltC (cfR row)) l l[k]) ((l[k] : Nat) : Int)) := by
          have h : placeK (aheadL (ltC (cfR row)) l) l (k + 1) = (placeK (aheadL (ltC (cfR row)) l) l k).set (aheadL (ltC (cfR row)) l (l.getD k 0)) ((l.getD k 0 : Nat) : Int) := rfl
          rw [show l.getD k 0 = l[k] by simp [List.getD, ek]] at h
          exact h
        have hxs := hsub.out _ hkm
        generalize l[k] = x at *
        obtain ⟨O, Y⟩ := HS.out
        clear HS
        replace O := Lib.hid O
        replace Y := Lib.hid Y
        go_wp2_with (fail)
        go_loopw [14, 13] (fun v nv wr => ∃ j : Nat, v = .int .i64 j ∧ nv = .int .i64 (aheadL (ltC (cfR row)) (l.take j) x : Nat) ∧ j ≤ l.length ∧ Hid (Ext wo wr)) (fun v _ _ => l.length - (intOf v).toNat)
        case atStart => exact ⟨0, rfl, rfl, by omega, Ext.rf _⟩
        case round =>
          obtain ⟨wi, rfl⟩ : ∃ wi : World, wi = wr := ⟨_, rfl⟩
          obtain ⟨j, rfl, rfl, hj, YI⟩ := hrel
          have hale := aheadL_le (ltC (cfR row)) (l.take j) x
          rw [List.length_take] at hale
          have rl : RdI wi A1 (intsN l) := (o1.out.ext Y.out).ext YI.out
          have rr : RdI wi D' row := (rD.out.ext Y.out).ext YI.out
          obtain ⟨lb, lo, xk, rfl, _, ck, exk, _⟩ := rl.at (k := k) (by rw [intsN_len]; exact hlt)
          obtain rfl : xk = (x : Int) := by
            have h := exk.out
            rw [intsN_get ek] at h
            exact (Option.some.inj h).symm
          obtain ⟨rb, ro, yk, rfl, _, cxk, eyk, _⟩ := rr.at (k := x) (by rw [lrow.out]; exact hxs)
          have gk : row.getD x 0 = yk := getD_some eyk.out
          clear exk eyk
          by_cases hjl : j < l.length
          · have q3 : (j : Int) < (l.length : Int) := by omega
            have ej : l[j]? = some l[j] := List.getElem?_eq_getElem hjl
            have hjs := hsub.out _ (List.getElem_mem hjl)
            have HA : Hid (aheadL (ltC (cfR row)) (l.take (j + 1)) x = aheadL (ltC (cfR row)) (l.take j) x + if strB (ltC (cfR row)) l[j] x = true then 1 else 0) := by
              have h : l.take (j + 1) = l.take j ++ [l[j]] := by rw [List.take_add_one, ej]; rfl
              have h2 := aheadL_snoc (ltC (cfR row)) (l.take j) x l[j]
              rw [← h] at h2
              exact h2
            have HB := rise_lt hsrt.out ej ek
            generalize l[j] = y at *
            obtain ⟨lb2, lo2, xj, hq, _, cj, exj, _⟩ := rl.at (k := j) (by rw [intsN_len]; exact hjl)
            obtain ⟨rfl, rfl⟩ : lb = lb2 ∧ lo = lo2 := by simpa using hq
            obtain rfl : xj = (y : Int) := by
              have h := exj.out
              rw [intsN_get ej] at h
              exact (Option.some.inj h).symm
            obtain ⟨rb2, ro2, yj, hq2, _, cxj, eyj, _⟩ := rr.at (k := y) (by rw [lrow.out]; exact hjs)
            obtain ⟨rfl, rfl⟩ : rb = rb2 ∧ ro = ro2 := by simpa using hq2
            have gj : row.getD y 0 = yj := getD_some eyj.out
            have HA2 : Hid (aheadL (ltC (cfR row)) (l.take (j + 1)) x = aheadL (ltC (cfR row)) (l.take j) x + if (decide (yj < yk) || (decide (yj = yk) && decide (j < k))) = true then 1 else 0) := by
              have h := HA.out
              rw [strB_cfR, gj, gk, HB] at h
              exact h
            have qx : (x : Int) < (row.length : Int) := by rw [lrow.out]; omega
            have qy : (y : Int) < (row.length : Int) := by rw [lrow.out]; omega
            clear HA HB ej exj eyj hq hq2 gj gk rl rr
            generalize aheadL (ltC (cfR row)) (l.take j) x = ah at *
            by_cases t1 : yj < yk
            · have d1 : decide (yj < yk) = true := decide_eq_true t1
              have HA3 : Hid (aheadL (ltC (cfR row)) (l.take (j + 1)) x = ah + 1) := by
                have h := HA2.out
                rw [d1, Bool.true_or, if_pos rfl] at h
                exact h
              clear HA2
              go_wp2_with (fail)
              go_quiet (fail)
              go_wp2_with (fail)
              go_roundw
              case rel => exact ⟨j + 1, by go_num, by rw [HA3.out]; go_num, by omega, YI.out.drewN _⟩
              case measure => simp [intOf]; omega
            · have d1 : decide (yj < yk) = false := decide_eq_false t1
              by_cases t2 : yj = yk
              · have d2 : (yj == yk) = true := by rw [beq_iff_eq]; exact t2
                have d2' : decide (yj = yk) = true := decide_eq_true t2
                replace t2 := Lib.hid t2
                by_cases t3 : j < k
                · have d3 : decide (j < k) = true := decide_eq_true t3
                  have HA3 : Hid (aheadL (ltC (cfR row)) (l.take (j + 1)) x = ah + 1) := by
                    have h := HA2.out
                    rw [d1, d2', d3] at h
                    exact h
                  clear HA2 d2'
                  go_wp2_with (fail)
                  go_quiet (fail)
                  go_wp2_with (fail)
                  go_roundw
                  case rel => exact ⟨j + 1, by go_num, by rw [HA3.out]; go_num, by omega, YI.out.drewN _⟩
                  case measure => simp [intOf]; omega
                · have d3 : decide (j < k) = false := decide_eq_false t3
                  have HA3 : Hid (aheadL (ltC (cfR row)) (l.take (j + 1)) x = ah) := by
                    have h := HA2.out
                    rw [d1, d2', d3] at h
                    exact h
                  clear HA2 d2'
                  go_wp2_with (fail)
                  go_quiet (fail)
                  go_wp2_with (fail)
                  go_roundw
                  case rel => exact ⟨j + 1, by go_num, by rw [HA3.out], by omega, YI.out.drewN _⟩
                  case measure => simp [intOf]; omega
              · have d2 : (yj == yk) = false := by rw [beq_eq_false_iff_ne]; exact t2
                have d2' : decide (yj = yk) = false := decide_eq_false t2
                have HA3 : Hid (aheadL (ltC (cfR row)) (l.take (j + 1)) x = ah) := by
                  have h := HA2.out
                  rw [d1, d2'] at h
                  exact h
                clear HA2 d2'
                go_wp2_with (fail)
                go_quiet (fail)
                go_wp2_with (fail)
                go_roundw
                case rel => exact ⟨j + 1, by go_num, by rw [HA3.out], by omega, YI.out.drewN _⟩
                case measure => simp [intOf]; omega
          · obtain rfl : j = l.length := by omega
            have q3 : ¬ (l.length : Int) < (l.length : Int) := by omega
            have e0 : l.take l.length = l := List.take_length
            rw [e0]
            have hal : aheadL (ltC (cfR row)) l x < l.length := by
              have W := cfR_weak row
              obtain ⟨k', hk', e'⟩ := List.mem_iff_getElem.1 ((sortP_is W hsrt.out).mem.2 hkm)
              rw [aheadL_at W hsrt.out (by rw [List.getElem?_eq_getElem hk', e'])]
              rwa [sortP_len] at hk'
            clear e0 hale gk
            generalize aheadL (ltC (cfR row)) l x = ah at *
            obtain ⟨v9, c9, f9, _, _, s9⟩ := OwI.cell (OwI.ext O.out YI.out) (k := ah) (by rw [placeK_len]; exact hal)
            have q4 : (ah : Int) < (l.length : Int) := by omega
            have NX : Hid (∀ W2, Ext wi W2 → OwI (W2.setCell ⟨w1.heap.size, ah, none⟩ (.int .i64 x)) w1.heap.size (some ⟨w1.heap.size, 0, none⟩) l.length (placeK (aheadL (ltC (cfR row)) l) l (k + 1)) ∧ Ext w1 (W2.setCell ⟨w1.heap.size, ah, none⟩ (.int .i64 x))) := by
              intro W2 x2
              rw [HPK.out]
              obtain ⟨_, _, _, _, _, s8⟩ := OwI.cell (OwI.ext (OwI.ext O.out YI.out) x2) (k := ah) (by rw [placeK_len]; exact hal)
              exact ⟨s8.out _, ((Y.out.tr YI.out).tr x2).setNew (p := ⟨w1.heap.size, ah, none⟩) (Nat.le_refl _) _⟩
            clear s9 HPK rl rr
            go_wp2_with (first | go_quiet (fail) | go_region)
            go_roundw
            case rel => exact ⟨k + 1, by go_num, by omega, NX.out _ (by (repeat (first | assumption | exact Ext.rf _ | apply Ext.drew | apply Ext.drewN | apply Ext.alloc)))⟩
            case measure => simp [intOf]; omega
      · obtain rfl : k = l.length := by omega
        have q2 : ¬ (l.length : Int) < (l.length : Int) := by omega
        have FIN : Hid (OwnPost (intsN (sortP (ltC (cfR row)) l)) 0 w (.returned (.tuple #[.slice (some ⟨w1.heap.size, 0, none⟩) l.length l.length, .int .i64 0])) wo) := by
          refine ⟨some ⟨w1.heap.size, 0, none⟩, l.length, by rw [intsN_len, sortP_len], ?_, X1.out.tr HS.out.2⟩
          have h := HS.out.1
          rw [place_sort (cfR_weak row) hsrt.out] at h
          exact OwI.more h z1
        clear HS
        go_wp2_with (fail)
        go_ret2
        exact FIN.out
end Go.Proofs.Ytpapkofildcdiaa
namespace Go.Proofs.Ytpapkofildcdiaa
open Go.RowKit Go.ChangeShapes Go.WideShapes Go.ChangeAt Go.Deep

end Go.Proofs.Ytpapkofildcdiaa
namespace Go.Proofs.Ytpapkofildcdiaa
open Go.RowKit Go.ChangeShapes Go.WideShapes Go.ChangeAt Go.Deep

theorem pairT_bd {rows : List (List Int)} {us : List Nat} {last : Nat} (num : ∀ a b, a < rows.length → b < rows.length → 0 ≤ costAt rows a b ∧ costAt rows a b ≤ 2147483647) (h0 : 0 < rows.length) (hl : last < rows.length) (hu : ∀ x ∈ us, x < rows.length) {y : Nat} (k0 : y < rows.length) : (0 ≤ (pairT rows us last y).1 ∧ (pairT rows us last y).1 ≤ 2147483647) ∧ 0 ≤ (pairT rows us last y).2 ∧ (pairT rows us last y).2 ≤ 2147483647 := by
  have k1 := num y last k0 hl
  have k2 := num y 0 k0 h0
  exact foldP_bd (B := 2147483647) (f := fun v => costAt rows y v) (us.filter fun j => decide (y ≠ j)) (min (costAt rows y last) (costAt rows y 0), max (costAt rows y last) (costAt rows y 0)) (by simp only; omega) (by simp only; omega) fun v hv => num y v k0 (hu v (List.mem_filter.1 hv).1)
set_option maxRecDepth 100000 in
set_option maxHeartbeats 4000000 in
theorem rends13_any (i : InstP) (us : List Value) (P : Option Addr) (pc : Nat) (l : List Nat) (last : Nat) (w : World) (H : RInst w us i) (rok : RowsOk i.cost) (hP : RdI w P (intsN l)) (hl : ∀ x ∈ l, x < i.cost.length) (hnd : l.Nodup) (hlen : l.length ≤ 24) (hla : last < i.cost.length) :
    Calls Try.prog 54 #[.agg (List.toArray us), .slice P l.length pc, .int .i64 last] w fun e w' => e = .returned (.int .i64 (endsT i.cost l last)) ∧ Ext w w' := by
  have h0 := rok.n1
  obtain ⟨kind, nn, cap, xw, xv, co⟩ := i
  obtain ⟨A, a, B, b, D, d, rfl, -, -, ⟨hC, -, -⟩⟩ := H
  simp only at *
  obtain ⟨cb, cof, _, _, _, rfl, _, _⟩ := cost_at rok hC (r := 0) (c := 0) (by omega) (by omega)
  have num := ends_num rok
  have CA := Lib.hid (fun (W : World) (x : Ext w W) (r c : Nat) (hr : r < co.length) (hc : c < co.length) => cost_in rok (hC.ext x fun _ _ h => h.ext x) hr hc)
  have B1 : Hid (Blk (w.alloc (.cells #[.int .i64 kind, .int .i64 nn, .int .i64 cap, .slice A xw.length a, .slice B xv.length b, .slice (some ⟨cb, cof, none⟩) co.length d] 25)) w.heap.size 25 #[.int .i64 kind, .int .i64 nn, .int .i64 cap, .slice A xw.length a, .slice B xv.length b, .slice (some ⟨cb, cof, none⟩) co.length d]) := .new rfl
  have X0 : Hid (Ext w (w.alloc (.cells #[.int .i64 kind, .int .i64 nn, .int .i64 cap, .slice A xw.length a, .slice B xv.length b, .slice (some ⟨cb, cof, none⟩) co.length d] 25))) := (Ext.rf _).alloc _
  have bsum : Hid (∀ k, 0 ≤ sumL ((l.take k).map fun u => (pairT co l last u).1 + (pairT co l last u).2) ∧ sumL ((l.take k).map fun u => (pairT co l last u).1 + (pairT co l last u).2) ≤ 4294967294 * 24) := fun k => by
    have h1 := sumL_map_bd (f := fun u => (pairT co l last u).1 + (pairT co l last u).2) (B := 4294967294) (l.take k) fun y hy => by
      have := pairT_bd num (by omega) hla hl (hl y (List.mem_of_mem_take hy))
      omega
    have h2 : (l.take k).length ≤ 24 := by rw [List.length_take]; omega
    omega
  have bfr : Hid (∀ k (f : Nat → Int), (∀ x, x < co.length → 0 ≤ f x ∧ f x ≤ 2147483647) → -2147483647 ≤ leastN f (-1) (l.take k) ∧ leastN f (-1) (l.take k) ≤ 2147483647) := fun k f hf =>
    leastN_bd (fun c hc => by have := hf c (hl c (List.mem_of_mem_take hc)); omega) (by omega) (by omega)
  replace hC := Lib.hid hC
  replace hP := Lib.hid hP
  replace hl := Lib.hid hl
  replace hnd := Lib.hid hnd
  replace num := Lib.hid num
  replace rok := Lib.hid rok
  go_enter Try.func54, Try.ntmps54
  go_wp2_with (fail)
  generalize w.alloc (.cells #[.int .i64 kind, .int .i64 nn, .int .i64 cap, .slice A xw.length a, .slice B xv.length b, .slice (some ⟨cb, cof, none⟩) co.length d] 25) = w1 at *
  go_loopw [7, 8, 9, 10] (fun s fr tq v wr => ∃ k : Nat, v = .int .i64 k ∧ s = .int .i64 (sumL ((l.take k).map fun u => (pairT co l last u).1 + (pairT co l last u).2)) ∧ fr = .int .i64 (leastN (fun u => costAt co last u) (-1) (l.take k)) ∧ tq = .int .i64 (leastN (fun u => costAt co u 0) (-1) (l.take k)) ∧ k ≤ l.length ∧ Hid (Ext w1 wr)) (fun _ _ _ v _ => l.length - (intOf v).toNat)
  case atStart => exact ⟨0, rfl, rfl, rfl, rfl, by omega, Ext.rf _⟩
  case round =>
    obtain ⟨wo, rfl⟩ : ∃ wo : World, wo = wr := ⟨_, rfl⟩
    obtain ⟨k, rfl, rfl, rfl, rfl, hk, Y⟩ := hrel
    by_cases hlt : k < l.length
    · obtain ⟨u, hux⟩ : ∃ u, Hid (u = l[k]) := ⟨l[k], rfl⟩
      have hu : u < co.length := by rw [hux.out]; exact hl.out _ (List.getElem_mem hlt)
      have euk : l[k]? = some u := by rw [hux.out]; exact List.getElem?_eq_getElem hlt
      have etk : l.take (k + 1) = l.take k ++ [u] := by rw [List.take_add_one, euk]; rfl
      obtain ⟨pb, po, xu, rfl, zp, cp, ep, _⟩ := (hP.out.ext (X0.out.tr Y.out)).at (k := k) (by rw [intsN_len]; exact hlt)
      have exu : xu = (u : Int) := by
        have h := ep.out
        rw [intsN_get euk] at h
        exact (Option.some.inj h).symm
      subst exu
      have zp1 : pb < wo.heap.size := zp
      have cp1 := cp
      obtain ⟨rb1, ro1, d1, c11, c12⟩ := CA.out _ (X0.out.tr Y.out) u last hu hla
      obtain ⟨rb2, ro2, d2, c21, c22⟩ := CA.out _ (X0.out.tr Y.out) u 0 hu h0
      obtain ⟨⟨rfl, rfl⟩, rfl⟩ : (rb1 = rb2 ∧ ro1 = ro2) ∧ d1 = d2 := by
        have h := c11.symm.trans c21
        simpa using h
      have b1 := num.out u last hu hla
      have b2 := num.out u 0 hu h0
      have b3 := num.out last u hla hu
      obtain ⟨y1, ey1⟩ : ∃ y1, Hid (costAt co u last = y1) := ⟨_, rfl⟩
      obtain ⟨y2, ey2⟩ : ∃ y2, Hid (costAt co u 0 = y2) := ⟨_, rfl⟩
      obtain ⟨y3, ey3⟩ : ∃ y3, Hid (costAt co last u = y3) := ⟨_, rfl⟩
      rw [ey1.out] at b1 c12
      rw [ey2.out] at b2 c22
      rw [ey3.out] at b3
      replace c22 : wo.cell? ⟨rb1, ro1, none⟩ = some (.int .i64 y2) := c22
      obtain ⟨pp, hpp⟩ : ∃ pp, Hid (pairT co l last u = pp) := ⟨_, rfl⟩
      have bpp := pairT_bd num.out (by omega) hla hl.out hu (us := l)
      rw [hpp.out] at bpp
      have bs := bsum.out k
      have eS : Hid (sumL ((l.take (k + 1)).map fun u => (pairT co l last u).1 + (pairT co l last u).2) = sumL ((l.take k).map fun u => (pairT co l last u).1 + (pairT co l last u).2) + pp.1 + pp.2) := by
        have h : sumL ((l.take (k + 1)).map fun u => (pairT co l last u).1 + (pairT co l last u).2) = sumL ((l.take k).map fun u => (pairT co l last u).1 + (pairT co l last u).2) + pp.1 + pp.2 := by
          rw [etk, List.map_append, List.map_cons, List.map_nil, sumA_snoc, hpp.out]; omega
        exact h
      have eF : Hid (leastN (fun u => costAt co last u) (-1) (l.take (k + 1)) = if leastN (fun u => costAt co last u) (-1) (l.take k) < 0 then y3 else if y3 < leastN (fun u => costAt co last u) (-1) (l.take k) then y3 else leastN (fun u => costAt co last u) (-1) (l.take k)) := by
        have h : leastN (fun u => costAt co last u) (-1) (l.take (k + 1)) = if leastN (fun u => costAt co last u) (-1) (l.take k) < 0 then y3 else if y3 < leastN (fun u => costAt co last u) (-1) (l.take k) then y3 else leastN (fun u => costAt co last u) (-1) (l.take k) := by
          rw [etk, leastN_snoc, ey3.out]
        exact h
      have eT : Hid (leastN (fun u => costAt co u 0) (-1) (l.take (k + 1)) = if leastN (fun u => costAt co u 0) (-1) (l.take k) < 0 then y2 else if y2 < leastN (fun u => costAt co u 0) (-1) (l.take k) then y2 else leastN (fun u => costAt co u 0) (-1) (l.take k)) := by
        have h : leastN (fun u => costAt co u 0) (-1) (l.take (k + 1)) = if leastN (fun u => costAt co u 0) (-1) (l.take k) < 0 then y2 else if y2 < leastN (fun u => costAt co u 0) (-1) (l.take k) then y2 else leastN (fun u => costAt co u 0) (-1) (l.take k) := by
          rw [etk, leastN_snoc, ey2.out]
        exact h
      have START0 : (l.filter fun x => decide (u ≠ x)).foldl (fun p v => putP p (costAt co u v)) (min y1 y2, max y1 y2) = pp := by rw [← hpp.out, ← ey1.out, ← ey2.out]; rfl
      generalize sumL ((l.take k).map fun u => (pairT co l last u).1 + (pairT co l last u).2) = su at *
      generalize leastN (fun u => costAt co last u) (-1) (l.take k) = fr at *
      generalize leastN (fun u => costAt co u 0) (-1) (l.take k) = tq at *
      have d5 : wo.cell? ⟨w.heap.size, 5, none⟩ = some (.slice (some ⟨cb, cof, none⟩) co.length d) := (B1.out.ext Y.out).cell 5
      have q1 : (k : Int) < (l.length : Int) := by omega
      have q6 : (last : Int) < (co.length : Int) := by omega
      have q7 : (u : Int) < (co.length : Int) := by omega
      have q8 : (0 : Int) < (co.length : Int) := by omega
      clear ep euk etk
      by_cases hsw : y2 < y1
      · have START : Hid (((l.drop 0).filter fun x => decide (u ≠ x)).foldl (fun p v => putP p (costAt co u v)) (y2, y1) = pp) := by
          have e1 : min y1 y2 = y2 := by omega
          have e2 : max y1 y2 = y1 := by omega
          have h := START0
          rw [e1, e2] at h
          exact h
        clear START0
        go_wp2_with (fail)
        go_quiet (fail)
        rename_i nq
        have Z0 : Hid (Ext wo (wo.drewN nq)) := (Ext.rf wo).drewN nq
        go_wp2_with (fail)
        generalize wo.drewN nq = w4 at *
        go_loopw [11, 12, 13] (fun a1 a2 v wr => ∃ (b : Nat) (p : Int × Int), v = .int .i64 b ∧ a1 = .int .i64 p.1 ∧ a2 = .int .i64 p.2 ∧ b ≤ l.length ∧ Hid (((l.drop b).filter fun x => decide (u ≠ x)).foldl (fun p v => putP p (costAt co u v)) p = pp) ∧ Hid (Ext wo wr)) (fun _ _ v _ => l.length - (intOf v).toNat)
        case atStart => exact ⟨0, (y2, y1), rfl, rfl, rfl, by omega, START, Z0.out⟩
        case round =>
          obtain ⟨w5, rfl⟩ : ∃ w5 : World, w5 = wr := ⟨_, rfl⟩
          obtain ⟨b, ⟨o1, o2⟩, rfl, rfl, rfl, hb, HF, Z⟩ := hrel
          simp only
          by_cases hlb : b < l.length
          · have eb : l[b]? = some l[b] := List.getElem?_eq_getElem hlb
            have hv := hl.out _ (List.getElem_mem hlb)
            have edb : l.drop b = l[b] :: l.drop (b + 1) := List.drop_eq_getElem_cons hlb
            have hne : b ≠ k → u ≠ l[b] := fun h1 h2 => h1 ((List.getElem_inj hnd.out).1 (by rw [← h2, hux.out]))
            have heq : b = k → u = l[b] := fun h1 => by subst h1; exact hux.out
            obtain ⟨pb2, po2, xv, hPq, zp2, cp2, ep2, _⟩ := (hP.out.ext (X0.out.tr (Y.out.tr Z.out))).at (k := b) (by rw [intsN_len]; exact hlb)
            obtain ⟨rfl, rfl⟩ : pb = pb2 ∧ po = po2 := by simpa using hPq
            have exv : xv = ((l[b] : Nat) : Int) := by
              have h := ep2.out
              rw [intsN_get eb] at h
              exact (Option.some.inj h).symm
            subst exv
            have HF2 := HF.out
            rw [edb, List.filter_cons] at HF2
            generalize l[b] = v at *
            clear HF eb edb ep2 hPq
            have d5 : w5.cell? ⟨w.heap.size, 5, none⟩ = some (.slice (some ⟨cb, cof, none⟩) co.length d) := (B1.out.ext (Y.out.tr Z.out)).cell 5
            have q2 : (b : Int) < (l.length : Int) := by omega
            have p5 : w5.cell? ⟨pb, po + k, none⟩ = some (.int .i64 (u : Int)) := keepEL Z.out zp1 cp1
            by_cases hbk : b = k
            · have tb : ((b : Int) == (k : Int)) = true := by rw [hbk]; simp
              have HF3 : Hid (((l.drop (b + 1)).filter fun x => decide (u ≠ x)).foldl (fun p v => putP p (costAt co u v)) (o1, o2) = pp) := by
                rw [if_neg (by simp [heq hbk])] at HF2
                exact HF2
              clear HF2 hne heq
              replace hbk := Lib.hid hbk
              go_wp2_with (fail)
              go_roundw
              case rel => exact ⟨b + 1, (o1, o2), by go_num, rfl, rfl, by omega, HF3, Z.out⟩
              case measure => simp [intOf]; omega
            · have tb : ((b : Int) == (k : Int)) = false := by simp; omega
              obtain ⟨rb5, ro5, d5', c51, c52⟩ := CA.out _ (X0.out.tr (Y.out.tr Z.out)) u v hu hv
              have nv := num.out u v hu hv
              rw [if_pos (by simp [hne hbk]), List.foldl_cons] at HF2
              obtain ⟨cv, hcv⟩ : ∃ cv, Hid (costAt co u v = cv) := ⟨_, rfl⟩
              rw [hcv.out] at HF2 c52 nv
              have q3 : (u : Int) < (co.length : Int) := by omega
              have q4 : (v : Int) < (co.length : Int) := by omega
              clear hne heq
              replace hbk := Lib.hid hbk
              unfold putP at HF2
              simp only at HF2
              by_cases h1 : cv < o1
              · rw [if_pos h1] at HF2
                have HF3 := Lib.hid HF2
                clear HF2
                go_wp2_with (fail)
                go_quiet (fail)
                go_wp2_with (fail)
                go_roundw
                case rel => exact ⟨b + 1, (cv, o1), by go_num, rfl, rfl, by omega, HF3, Z.out.drewN _⟩
                case measure => simp [intOf]; omega
              · rw [if_neg h1] at HF2
                by_cases h2 : cv < o2
                · rw [if_pos h2] at HF2
                  have HF3 := Lib.hid HF2
                  clear HF2
                  go_wp2_with (fail)
                  go_quiet (fail)
                  go_wp2_with (fail)
                  go_roundw
                  case rel => exact ⟨b + 1, (o1, cv), by go_num, rfl, rfl, by omega, HF3, Z.out.drewN _⟩
                  case measure => simp [intOf]; omega
                · rw [if_neg h2] at HF2
                  have HF3 := Lib.hid HF2
                  clear HF2
                  go_wp2_with (fail)
                  go_quiet (fail)
                  go_wp2_with (fail)
                  go_roundw
                  case rel => exact ⟨b + 1, (o1, o2), by go_num, rfl, rfl, by omega, HF3, Z.out.drewN _⟩
                  case measure => simp [intOf]; omega
          · obtain rfl : b = l.length := by omega
            have q2 : ¬ ((l.length : Int) < (l.length : Int)) := by omega
            have HF2 := HF.out
            rw [List.drop_length] at HF2
            obtain rfl : (o1, o2) = pp := HF2
            simp only at bpp eS
            have hw1 : IntKind.i64.wrap (su + o1) = su + o1 := IntWalk.i64_in _ (by omega)
            have hw2 : IntKind.i64.wrap (su + o1 + o2) = su + o1 + o2 := IntWalk.i64_in _ (by omega)
            clear HF START
            obtain ⟨rb3, ro3, d3, c31, c32⟩ := CA.out _ (X0.out.tr (Y.out.tr Z.out)) last u hla hu
            rw [ey3.out] at c32
            have d53 : w5.cell? ⟨w.heap.size, 5, none⟩ = some (.slice (some ⟨cb, cof, none⟩) co.length d) := (B1.out.ext (Y.out.tr Z.out)).cell 5
            have p3 : w5.cell? ⟨pb, po + k, none⟩ = some (.int .i64 (u : Int)) := keepEL Z.out zp1 cp1
            by_cases hn1 : fr < 0
            · rw [if_pos hn1] at eF
              go_wp2_with (fail)
              go_quiet (fail)
              rename_i nq
              have Z2 : Hid (Ext wo (w5.drewN nq)) := Z.out.drewN nq
              go_wp2_with (fail)
              generalize w5.drewN nq = w7 at *
              obtain ⟨rb4, ro4, d4, c41, c42⟩ := CA.out _ (X0.out.tr (Y.out.tr Z2.out)) u 0 hu h0
              rw [ey2.out] at c42
              replace c42 : w7.cell? ⟨rb4, ro4, none⟩ = some (.int .i64 y2) := c42
              have d54 : w7.cell? ⟨w.heap.size, 5, none⟩ = some (.slice (some ⟨cb, cof, none⟩) co.length d) := (B1.out.ext (Y.out.tr Z2.out)).cell 5
              have p4 : w7.cell? ⟨pb, po + k, none⟩ = some (.int .i64 (u : Int)) := keepEL Z2.out zp1 cp1
              by_cases hn2 : tq < 0
              · rw [if_pos hn2] at eT
                go_wp2_with (fail)
                go_quiet (fail)
                go_wp2_with (fail)
                go_roundw
                case rel => exact ⟨k + 1, by go_num, by rw [eS.out], by rw [eF.out], by rw [eT.out], by omega, Y.out.tr (Z2.out.drewN _)⟩
                case measure => simp [intOf]; omega
              · rw [if_neg hn2] at eT
                by_cases hl2 : y2 < tq
                · rw [if_pos hl2] at eT
                  go_wp2_with (fail)
                  go_quiet (fail)
                  go_wp2_with (fail)
                  go_roundw
                  case rel => exact ⟨k + 1, by go_num, by rw [eS.out], by rw [eF.out], by rw [eT.out], by omega, Y.out.tr (Z2.out.drewN _)⟩
                  case measure => simp [intOf]; omega
                · rw [if_neg hl2] at eT
                  go_wp2_with (fail)
                  go_quiet (fail)
                  go_wp2_with (fail)
                  go_roundw
                  case rel => exact ⟨k + 1, by go_num, by rw [eS.out], by rw [eF.out], by rw [eT.out], by omega, Y.out.tr (Z2.out.drewN _)⟩
                  case measure => simp [intOf]; omega
            · rw [if_neg hn1] at eF
              by_cases hl1 : y3 < fr
              · rw [if_pos hl1] at eF
                go_wp2_with (fail)
                go_quiet (fail)
                rename_i nq
                have Z2 : Hid (Ext wo (w5.drewN nq)) := Z.out.drewN nq
                go_wp2_with (fail)
                generalize w5.drewN nq = w7 at *
                obtain ⟨rb4, ro4, d4, c41, c42⟩ := CA.out _ (X0.out.tr (Y.out.tr Z2.out)) u 0 hu h0
                rw [ey2.out] at c42
                replace c42 : w7.cell? ⟨rb4, ro4, none⟩ = some (.int .i64 y2) := c42
                have d54 : w7.cell? ⟨w.heap.size, 5, none⟩ = some (.slice (some ⟨cb, cof, none⟩) co.length d) := (B1.out.ext (Y.out.tr Z2.out)).cell 5
                have p4 : w7.cell? ⟨pb, po + k, none⟩ = some (.int .i64 (u : Int)) := keepEL Z2.out zp1 cp1
                by_cases hn2 : tq < 0
                · rw [if_pos hn2] at eT
                  go_wp2_with (fail)
                  go_quiet (fail)
                  go_wp2_with (fail)
                  go_roundw
                  case rel => exact ⟨k + 1, by go_num, by rw [eS.out], by rw [eF.out], by rw [eT.out], by omega, Y.out.tr (Z2.out.drewN _)⟩
                  case measure => simp [intOf]; omega
                · rw [if_neg hn2] at eT
                  by_cases hl2 : y2 < tq
                  · rw [if_pos hl2] at eT
                    go_wp2_with (fail)
                    go_quiet (fail)
                    go_wp2_with (fail)
                    go_roundw
                    case rel => exact ⟨k + 1, by go_num, by rw [eS.out], by rw [eF.out], by rw [eT.out], by omega, Y.out.tr (Z2.out.drewN _)⟩
                    case measure => simp [intOf]; omega
                  · rw [if_neg hl2] at eT
                    go_wp2_with (fail)
                    go_quiet (fail)
                    go_wp2_with (fail)
                    go_roundw
                    case rel => exact ⟨k + 1, by go_num, by rw [eS.out], by rw [eF.out], by rw [eT.out], by omega, Y.out.tr (Z2.out.drewN _)⟩
                    case measure => simp [intOf]; omega
              · rw [if_neg hl1] at eF
                go_wp2_with (fail)
                go_quiet (fail)
                rename_i nq
                have Z2 : Hid (Ext wo (w5.drewN nq)) := Z.out.drewN nq
                go_wp2_with (fail)
                generalize w5.drewN nq = w7 at *
                obtain ⟨rb4, ro4, d4, c41, c42⟩ := CA.out _ (X0.out.tr (Y.out.tr Z2.out)) u 0 hu h0
                rw [ey2.out] at c42
                replace c42 : w7.cell? ⟨rb4, ro4, none⟩ = some (.int .i64 y2) := c42
                have d54 : w7.cell? ⟨w.heap.size, 5, none⟩ = some (.slice (some ⟨cb, cof, none⟩) co.length d) := (B1.out.ext (Y.out.tr Z2.out)).cell 5
                have p4 : w7.cell? ⟨pb, po + k, none⟩ = some (.int .i64 (u : Int)) := keepEL Z2.out zp1 cp1
                by_cases hn2 : tq < 0
                · rw [if_pos hn2] at eT
                  go_wp2_with (fail)
                  go_quiet (fail)
                  go_wp2_with (fail)
                  go_roundw
                  case rel => exact ⟨k + 1, by go_num, by rw [eS.out], by rw [eF.out], by rw [eT.out], by omega, Y.out.tr (Z2.out.drewN _)⟩
                  case measure => simp [intOf]; omega
                · rw [if_neg hn2] at eT
                  by_cases hl2 : y2 < tq
                  · rw [if_pos hl2] at eT
                    go_wp2_with (fail)
                    go_quiet (fail)
                    go_wp2_with (fail)
                    go_roundw
                    case rel => exact ⟨k + 1, by go_num, by rw [eS.out], by rw [eF.out], by rw [eT.out], by omega, Y.out.tr (Z2.out.drewN _)⟩
                    case measure => simp [intOf]; omega
                  · rw [if_neg hl2] at eT
                    go_wp2_with (fail)
                    go_quiet (fail)
                    go_wp2_with (fail)
                    go_roundw
                    case rel => exact ⟨k + 1, by go_num, by rw [eS.out], by rw [eF.out], by rw [eT.out], by omega, Y.out.tr (Z2.out.drewN _)⟩
                    case measure => simp [intOf]; omega
      · have START : Hid (((l.drop 0).filter fun x => decide (u ≠ x)).foldl (fun p v => putP p (costAt co u v)) (y1, y2) = pp) := by
          have e1 : min y1 y2 = y1 := by omega
          have e2 : max y1 y2 = y2 := by omega
          have h := START0
          rw [e1, e2] at h
          exact h
        clear START0
        go_wp2_with (fail)
        go_quiet (fail)
        rename_i nq
        have Z0 : Hid (Ext wo (wo.drewN nq)) := (Ext.rf wo).drewN nq
        go_wp2_with (fail)
        generalize wo.drewN nq = w4 at *
        go_loopw [11, 12, 13] (fun a1 a2 v wr => ∃ (b : Nat) (p : Int × Int), v = .int .i64 b ∧ a1 = .int .i64 p.1 ∧ a2 = .int .i64 p.2 ∧ b ≤ l.length ∧ Hid (((l.drop b).filter fun x => decide (u ≠ x)).foldl (fun p v => putP p (costAt co u v)) p = pp) ∧ Hid (Ext wo wr)) (fun _ _ v _ => l.length - (intOf v).toNat)
        case atStart => exact ⟨0, (y1, y2), rfl, rfl, rfl, by omega, START, Z0.out⟩
        case round =>
          obtain ⟨w5, rfl⟩ : ∃ w5 : World, w5 = wr := ⟨_, rfl⟩
          obtain ⟨b, ⟨o1, o2⟩, rfl, rfl, rfl, hb, HF, Z⟩ := hrel
          simp only
          by_cases hlb : b < l.length
          · have eb : l[b]? = some l[b] := List.getElem?_eq_getElem hlb
            have hv := hl.out _ (List.getElem_mem hlb)
            have edb : l.drop b = l[b] :: l.drop (b + 1) := List.drop_eq_getElem_cons hlb
            have hne : b ≠ k → u ≠ l[b] := fun h1 h2 => h1 ((List.getElem_inj hnd.out).1 (by rw [← h2, hux.out]))
            have heq : b = k → u = l[b] := fun h1 => by subst h1; exact hux.out
            obtain ⟨pb2, po2, xv, hPq, zp2, cp2, ep2, _⟩ := (hP.out.ext (X0.out.tr (Y.out.tr Z.out))).at (k := b) (by rw [intsN_len]; exact hlb)
            obtain ⟨rfl, rfl⟩ : pb = pb2 ∧ po = po2 := by simpa using hPq
            have exv : xv = ((l[b] : Nat) : Int) := by
              have h := ep2.out
              rw [intsN_get eb] at h
              exact (Option.some.inj h).symm
            subst exv
            have HF2 := HF.out
            rw [edb, List.filter_cons] at HF2
            generalize l[b] = v at *
            clear HF eb edb ep2 hPq
            have d5 : w5.cell? ⟨w.heap.size, 5, none⟩ = some (.slice (some ⟨cb, cof, none⟩) co.length d) := (B1.out.ext (Y.out.tr Z.out)).cell 5
            have q2 : (b : Int) < (l.length : Int) := by omega
            have p5 : w5.cell? ⟨pb, po + k, none⟩ = some (.int .i64 (u : Int)) := keepEL Z.out zp1 cp1
            by_cases hbk : b = k
            · have tb : ((b : Int) == (k : Int)) = true := by rw [hbk]; simp
              have HF3 : Hid (((l.drop (b + 1)).filter fun x => decide (u ≠ x)).foldl (fun p v => putP p (costAt co u v)) (o1, o2) = pp) := by
                rw [if_neg (by simp [heq hbk])] at HF2
                exact HF2
              clear HF2 hne heq
              replace hbk := Lib.hid hbk
              go_wp2_with (fail)
              go_roundw
              case rel => exact ⟨b + 1, (o1, o2), by go_num, rfl, rfl, by omega, HF3, Z.out⟩
              case measure => simp [intOf]; omega
            · have tb : ((b : Int) == (k : Int)) = false := by simp; omega
              obtain ⟨rb5, ro5, d5', c51, c52⟩ := CA.out _ (X0.out.tr (Y.out.tr Z.out)) u v hu hv
              have nv := num.out u v hu hv
              rw [if_pos (by simp [hne hbk]), List.foldl_cons] at HF2
              obtain ⟨cv, hcv⟩ : ∃ cv, Hid (costAt co u v = cv) := ⟨_, rfl⟩
              rw [hcv.out] at HF2 c52 nv
              have q3 : (u : Int) < (co.length : Int) := by omega
              have q4 : (v : Int) < (co.length : Int) := by omega
              clear hne heq
              replace hbk := Lib.hid hbk
              unfold putP at HF2
              simp only at HF2
              by_cases h1 : cv < o1
              · rw [if_pos h1] at HF2
                have HF3 := Lib.hid HF2
                clear HF2
                go_wp2_with (fail)
                go_quiet (fail)
                go_wp2_with (fail)
                go_roundw
                case rel => exact ⟨b + 1, (cv, o1), by go_num, rfl, rfl, by omega, HF3, Z.out.drewN _⟩
                case measure => simp [intOf]; omega
              · rw [if_neg h1] at HF2
                by_cases h2 : cv < o2
                · rw [if_pos h2] at HF2
                  have HF3 := Lib.hid HF2
                  clear HF2
                  go_wp2_with (fail)
                  go_quiet (fail)
                  go_wp2_with (fail)
                  go_roundw
                  case rel => exact ⟨b + 1, (o1, cv), by go_num, rfl, rfl, by omega, HF3, Z.out.drewN _⟩
                  case measure => simp [intOf]; omega
                · rw [if_neg h2] at HF2
                  have HF3 := Lib.hid HF2
                  clear HF2
                  go_wp2_with (fail)
                  go_quiet (fail)
                  go_wp2_with (fail)
                  go_roundw
                  case rel => exact ⟨b + 1, (o1, o2), by go_num, rfl, rfl, by omega, HF3, Z.out.drewN _⟩
                  case measure => simp [intOf]; omega
          · obtain rfl : b = l.length := by omega
            have q2 : ¬ ((l.length : Int) < (l.length : Int)) := by omega
            have HF2 := HF.out
            rw [List.drop_length] at HF2
            obtain rfl : (o1, o2) = pp := HF2
            simp only at bpp eS
            have hw1 : IntKind.i64.wrap (su + o1) = su + o1 := IntWalk.i64_in _ (by omega)
            have hw2 : IntKind.i64.wrap (su + o1 + o2) = su + o1 + o2 := IntWalk.i64_in _ (by omega)
            clear HF START
            obtain ⟨rb3, ro3, d3, c31, c32⟩ := CA.out _ (X0.out.tr (Y.out.tr Z.out)) last u hla hu
            rw [ey3.out] at c32
            have d53 : w5.cell? ⟨w.heap.size, 5, none⟩ = some (.slice (some ⟨cb, cof, none⟩) co.length d) := (B1.out.ext (Y.out.tr Z.out)).cell 5
            have p3 : w5.cell? ⟨pb, po + k, none⟩ = some (.int .i64 (u : Int)) := keepEL Z.out zp1 cp1
            by_cases hn1 : fr < 0
            · rw [if_pos hn1] at eF
              go_wp2_with (fail)
              go_quiet (fail)
              rename_i nq
              have Z2 : Hid (Ext wo (w5.drewN nq)) := Z.out.drewN nq
              go_wp2_with (fail)
              generalize w5.drewN nq = w7 at *
              obtain ⟨rb4, ro4, d4, c41, c42⟩ := CA.out _ (X0.out.tr (Y.out.tr Z2.out)) u 0 hu h0
              rw [ey2.out] at c42
              replace c42 : w7.cell? ⟨rb4, ro4, none⟩ = some (.int .i64 y2) := c42
              have d54 : w7.cell? ⟨w.heap.size, 5, none⟩ = some (.slice (some ⟨cb, cof, none⟩) co.length d) := (B1.out.ext (Y.out.tr Z2.out)).cell 5
              have p4 : w7.cell? ⟨pb, po + k, none⟩ = some (.int .i64 (u : Int)) := keepEL Z2.out zp1 cp1
              by_cases hn2 : tq < 0
              · rw [if_pos hn2] at eT
                go_wp2_with (fail)
                go_quiet (fail)
                go_wp2_with (fail)
                go_roundw
                case rel => exact ⟨k + 1, by go_num, by rw [eS.out], by rw [eF.out], by rw [eT.out], by omega, Y.out.tr (Z2.out.drewN _)⟩
                case measure => simp [intOf]; omega
              · rw [if_neg hn2] at eT
                by_cases hl2 : y2 < tq
                · rw [if_pos hl2] at eT
                  go_wp2_with (fail)
                  go_quiet (fail)
                  go_wp2_with (fail)
                  go_roundw
                  case rel => exact ⟨k + 1, by go_num, by rw [eS.out], by rw [eF.out], by rw [eT.out], by omega, Y.out.tr (Z2.out.drewN _)⟩
                  case measure => simp [intOf]; omega
                · rw [if_neg hl2] at eT
                  go_wp2_with (fail)
                  go_quiet (fail)
                  go_wp2_with (fail)
                  go_roundw
                  case rel => exact ⟨k + 1, by go_num, by rw [eS.out], by rw [eF.out], by rw [eT.out], by omega, Y.out.tr (Z2.out.drewN _)⟩
                  case measure => simp [intOf]; omega
            · rw [if_neg hn1] at eF
              by_cases hl1 : y3 < fr
              · rw [if_pos hl1] at eF
                go_wp2_with (fail)
                go_quiet (fail)
                rename_i nq
                have Z2 : Hid (Ext wo (w5.drewN nq)) := Z.out.drewN nq
                go_wp2_with (fail)
                generalize w5.drewN nq = w7 at *
                obtain ⟨rb4, ro4, d4, c41, c42⟩ := CA.out _ (X0.out.tr (Y.out.tr Z2.out)) u 0 hu h0
                rw [ey2.out] at c42
                replace c42 : w7.cell? ⟨rb4, ro4, none⟩ = some (.int .i64 y2) := c42
                have d54 : w7.cell? ⟨w.heap.size, 5, none⟩ = some (.slice (some ⟨cb, cof, none⟩) co.length d) := (B1.out.ext (Y.out.tr Z2.out)).cell 5
                have p4 : w7.cell? ⟨pb, po + k, none⟩ = some (.int .i64 (u : Int)) := keepEL Z2.out zp1 cp1
                by_cases hn2 : tq < 0
                · rw [if_pos hn2] at eT
                  go_wp2_with (fail)
                  go_quiet (fail)
                  go_wp2_with (fail)
                  go_roundw
                  case rel => exact ⟨k + 1, by go_num, by rw [eS.out], by rw [eF.out], by rw [eT.out], by omega, Y.out.tr (Z2.out.drewN _)⟩
                  case measure => simp [intOf]; omega
                · rw [if_neg hn2] at eT
                  by_cases hl2 : y2 < tq
                  · rw [if_pos hl2] at eT
                    go_wp2_with (fail)
                    go_quiet (fail)
                    go_wp2_with (fail)
                    go_roundw
                    case rel => exact ⟨k + 1, by go_num, by rw [eS.out], by rw [eF.out], by rw [eT.out], by omega, Y.out.tr (Z2.out.drewN _)⟩
                    case measure => simp [intOf]; omega
                  · rw [if_neg hl2] at eT
                    go_wp2_with (fail)
                    go_quiet (fail)
                    go_wp2_with (fail)
                    go_roundw
                    case rel => exact ⟨k + 1, by go_num, by rw [eS.out], by rw [eF.out], by rw [eT.out], by omega, Y.out.tr (Z2.out.drewN _)⟩
                    case measure => simp [intOf]; omega
              · rw [if_neg hl1] at eF
                go_wp2_with (fail)
                go_quiet (fail)
                rename_i nq
                have Z2 : Hid (Ext wo (w5.drewN nq)) := Z.out.drewN nq
                go_wp2_with (fail)
                generalize w5.drewN nq = w7 at *
                obtain ⟨rb4, ro4, d4, c41, c42⟩ := CA.out _ (X0.out.tr (Y.out.tr Z2.out)) u 0 hu h0
                rw [ey2.out] at c42
                replace c42 : w7.cell? ⟨rb4, ro4, none⟩ = some (.int .i64 y2) := c42
                have d54 : w7.cell? ⟨w.heap.size, 5, none⟩ = some (.slice (some ⟨cb, cof, none⟩) co.length d) := (B1.out.ext (Y.out.tr Z2.out)).cell 5
                have p4 : w7.cell? ⟨pb, po + k, none⟩ = some (.int .i64 (u : Int)) := keepEL Z2.out zp1 cp1
                by_cases hn2 : tq < 0
                · rw [if_pos hn2] at eT
                  go_wp2_with (fail)
                  go_quiet (fail)
                  go_wp2_with (fail)
                  go_roundw
                  case rel => exact ⟨k + 1, by go_num, by rw [eS.out], by rw [eF.out], by rw [eT.out], by omega, Y.out.tr (Z2.out.drewN _)⟩
                  case measure => simp [intOf]; omega
                · rw [if_neg hn2] at eT
                  by_cases hl2 : y2 < tq
                  · rw [if_pos hl2] at eT
                    go_wp2_with (fail)
                    go_quiet (fail)
                    go_wp2_with (fail)
                    go_roundw
                    case rel => exact ⟨k + 1, by go_num, by rw [eS.out], by rw [eF.out], by rw [eT.out], by omega, Y.out.tr (Z2.out.drewN _)⟩
                    case measure => simp [intOf]; omega
                  · rw [if_neg hl2] at eT
                    go_wp2_with (fail)
                    go_quiet (fail)
                    go_wp2_with (fail)
                    go_roundw
                    case rel => exact ⟨k + 1, by go_num, by rw [eS.out], by rw [eF.out], by rw [eT.out], by omega, Y.out.tr (Z2.out.drewN _)⟩
                    case measure => simp [intOf]; omega
    · obtain rfl : k = l.length := by omega
      have q2 : ¬ ((l.length : Int) < (l.length : Int)) := by omega
      have bs := bsum.out l.length
      have bf1 := bfr.out l.length (fun u => costAt co last u) fun x hx => num.out last x hla hx
      have bf2 := bfr.out l.length (fun u => costAt co u 0) fun x hx => num.out x 0 hx (by omega)
      rw [List.take_length] at *
      have hw1 : IntKind.i64.wrap (sumL (l.map fun u => (pairT co l last u).1 + (pairT co l last u).2) + leastN (fun u => costAt co last u) (-1) l) = sumL (l.map fun u => (pairT co l last u).1 + (pairT co l last u).2) + leastN (fun u => costAt co last u) (-1) l := IntWalk.i64_in _ (by omega)
      have hw2 : IntKind.i64.wrap (sumL (l.map fun u => (pairT co l last u).1 + (pairT co l last u).2) + leastN (fun u => costAt co last u) (-1) l + leastN (fun u => costAt co u 0) (-1) l) = endsT co l last := IntWalk.i64_in _ (by omega)
      go_wp2_with (fail)
      go_ret
      exact ⟨rfl, X0.out.tr Y.out⟩
end Go.Proofs.Ytpapkofildcdiaa
namespace Go.Proofs.Ytpapkofildcdiaa
open Go.RowKit Go.ChangeShapes Go.WideShapes Go.ChangeAt Go.Deep

theorem ent_row {rows : List (List Int)} {l : List Nat} {last s src : Nat} (hn : (last :: l).Nodup) (h0 : 0 ∉ l) (hs : (last :: l)[s]? = some src) {b v : Nat} (hb : l[b]? = some v) : entT rows l last src v = if b + 1 = s then -1 else costAt rows src v := by
  have hv : v ∈ l := List.mem_of_getElem? hb
  have hb' : (last :: l)[b + 1]? = some v := by simpa using hb
  have key : v = src ↔ b + 1 = s := by
    obtain ⟨h1, h2⟩ := List.getElem?_eq_some_iff.1 hs
    obtain ⟨h3, h4⟩ := List.getElem?_eq_some_iff.1 hb'
    constructor
    · intro e
      refine (List.getElem_inj (h₀ := h3) (h₁ := h1) hn).1 ?_
      rw [h2, h4, e]
    · intro e
      subst e
      rw [← h4, ← h2]
  unfold entT
  by_cases e : b + 1 = s
  · rw [if_pos e, if_neg]
    have hvs := key.2 e
    unfold colsT
    split
    · rename_i h
      rw [hvs, h] at hv
      exact absurd hv (List.nodup_cons.1 hn).1
    · intro hm
      rcases List.mem_cons.1 hm with h | h
      · rw [h] at hv; exact h0 hv
      · have := (List.mem_filter.1 h).2
        simp at this
        exact this hvs.symm
  · rw [if_neg e, if_pos]
    have hvs : ¬ v = src := fun h => e (key.1 h)
    unfold colsT
    split
    · exact hv
    · exact List.mem_cons_of_mem _ (List.mem_filter.2 ⟨hv, by simpa using fun h => hvs h.symm⟩)
theorem ent_home {rows : List (List Int)} {l : List Nat} {last s src : Nat} (hn : (last :: l).Nodup) (h0 : 0 ∉ l) (hs : (last :: l)[s]? = some src) : entT rows l last src 0 = if s = 0 then -1 else costAt rows src 0 := by
  have key : src = last ↔ s = 0 := by
    obtain ⟨h1, h2⟩ := List.getElem?_eq_some_iff.1 hs
    constructor
    · intro e
      have h3 : (last :: l)[0]'(by simp) = last := rfl
      refine (List.getElem_inj (h₀ := h1) (h₁ := by simp) hn).1 ?_
      rw [h2, e, h3]
    · intro e
      subst e
      simpa using h2.symm
  unfold entT colsT
  by_cases e : s = 0
  · rw [if_pos e, if_pos (key.2 e), if_neg h0]
  · rw [if_neg e, if_neg (fun h => e (key.1 h)), if_pos (by simp)]
set_option maxRecDepth 100000 in
set_option maxHeartbeats 4000000 in
theorem rbound13_any (i : InstP) (us : List Value) (P : Option Addr) (pc : Nat) (p : List Int) (w : World) (H : RInst w us i) (ok : SquareOk i) (hP : RdI w P p) (lp : p.length ≤ 1000000000) :
    Calls Try.prog 40 #[.agg (List.toArray us), .slice P p.length pc] w fun e w' => e = .returned (.tuple #[.int .i64 (boundT i.cost (mirP i.cost) p).1, .int .i64 (boundT i.cost (mirP i.cost) p).2]) ∧ Ext w w' := by
  have rok := rows_ok ok
  have l1 := rok.n1
  have l2 := rok.n2
  have hnn : i.n = (i.cost.length : Int) := ok.len.symm
  have FR := fun (W : World) (x : Ext w W) => rrest_any i us P pc p W (H.ext x) i.cost.length hnn rfl rok l1 l2 (hP.ext x) lp
  have MI := fun (W : World) (x : Ext w W) => rmirror_any i us W (H.ext x) ok
  have EN := fun (W : World) (x : Ext w W) (A : Option Addr) (c : Nat) (l : List Nat) (last : Nat) (h : RdI W A (intsN l)) (h1 : ∀ x ∈ l, x < i.cost.length) (h2 : l.Nodup) (h3 : l.length ≤ 24) (h4 : last < i.cost.length) => rends13_any i us A c l last W (H.ext x) rok h h1 h2 h3 h4
  clear ok hP
  obtain ⟨kind, nn, cap, xw, xv, co⟩ := i
  obtain ⟨A, a, B, b, D, d, rfl, -, -, ⟨hC, -, -⟩⟩ := H
  simp only at *
  subst hnn
  obtain ⟨cb, cof, _, _, _, rfl, _, _⟩ := cost_at rok hC (r := 0) (c := 0) (by omega) (by omega)
  have num := ends_num rok
  have CA := Lib.hid (fun (W : World) (x : Ext w W) (r c : Nat) (hr : r < co.length) (hc : c < co.length) => cost_in rok (hC.ext x fun _ _ h => h.ext x) hr hc)
  obtain ⟨r, hr⟩ : ∃ r, Hid (walkP co p = r) := ⟨_, rfl⟩
  rw [hr.out] at FR
  have B1 : Hid (Blk (w.alloc (.cells #[.int .i64 kind, .int .i64 co.length, .int .i64 cap, .slice A xw.length a, .slice B xv.length b, .slice (some ⟨cb, cof, none⟩) co.length d] 25)) w.heap.size 25 #[.int .i64 kind, .int .i64 co.length, .int .i64 cap, .slice A xw.length a, .slice B xv.length b, .slice (some ⟨cb, cof, none⟩) co.length d]) := .new rfl
  replace hC := Lib.hid hC
  cases r with
  | none =>
    have e : boundT co (mirP co) p = (0, 1) := by unfold boundT; rw [hr.out]
    rw [e]
    unfold RRest at FR
    replace FR := Lib.hid FR
    clear MI EN
    go_enter Try.func40, Try.ntmps40
    go_wp2_with (fail)
    refine (FR.out _ (by (repeat (first | assumption | exact Ext.rf _ | apply Ext.drew | apply Ext.drewN | apply Ext.alloc)))).mono ?_
    rintro e w1 ⟨rfl, x1⟩
    have X1 := Lib.hid (Ext.tr (a := w) (by (repeat (first | assumption | exact Ext.rf _ | apply Ext.drew | apply Ext.drewN | apply Ext.alloc))) x1)
    clear x1
    go_wp2_with (fail)
    go_ret2
    exact ⟨rfl, X1.out⟩
  | some s =>
    obtain ⟨m, last, cost⟩ := s
    obtain ⟨pl, WO⟩ := walk_ok l1 l2 hr.out
    have hS := WO.sub
    have hla := walk_last l1 WO
    have h0m : 0 ∉ memsM m := fun h => ((WO.rest 0).1 h).1.2 rfl
    have hlen : (memsM m).length ≤ 23 := by have := WO.len; omega
    have hnl : last ∉ memsM m := fun h => by
      have h1 := (WO.rest last).1 h
      rw [WO.last] at h1
      rcases lastT_mem pl 0 with e | e
      · rw [e] at h1; exact h1.1.2 rfl
      · exact h1.2 e
    have hnod : (last :: memsM m).Nodup := List.nodup_cons.2 ⟨hnl, (memsM_sorted m).imp fun h => by omega⟩
    have bcost : 0 ≤ cost ∧ cost ≤ 2147483647 * 24 := by
      have h1 := wayC_bd num pl 0 (by omega) fun x hx => (WO.inn x hx).1
      have h2 := WO.len
      rw [WO.cost]
      omega
    replace FR := fun (W : World) (x : Ext w W) => (show Calls _ _ _ W (RestSome m last cost W) from FR W x)
    unfold RestSome at FR
    have e : boundT co (mirP co) p = (cost + (if memsM m = [] then costAt co last 0 else if mirP co = true then max (reduceT co (memsM m) last) ((endsT co (memsM m) last + 1) / 2) else reduceT co (memsM m) last), 0) := by unfold boundT; rw [hr.out]
    obtain ⟨tot, ht⟩ : ∃ tot, Hid (tot = cost + (if memsM m = [] then costAt co last 0 else if mirP co = true then max (reduceT co (memsM m) last) ((endsT co (memsM m) last + 1) / 2) else reduceT co (memsM m) last)) := ⟨_, rfl⟩
    rw [e, ← ht.out]
    clear e
    have hin : Hid (∀ x ∈ memsM m, x < co.length) := hS.2
    obtain ⟨l, hll⟩ : ∃ l, Hid (memsM m = l) := ⟨_, rfl⟩
    rw [hll.out] at FR ht hin h0m hlen hnl hnod
    replace FR := Lib.hid FR
    replace MI := Lib.hid MI
    replace EN := Lib.hid EN
    replace num := Lib.hid num
    replace h0m := Lib.hid h0m
    replace hnod := Lib.hid hnod
    replace hnl := Lib.hid hnl
    clear hr WO hS
    go_enter Try.func40, Try.ntmps40
    go_wp2_with (fail)
    refine (FR.out _ (by (repeat (first | assumption | exact Ext.rf _ | apply Ext.drew | apply Ext.drewN | apply Ext.alloc)))).mono ?_
    rintro e w1 ⟨LA, lc, rfl, oL, x1⟩
    have X1 := Lib.hid (Ext.tr (a := w) (by (repeat (first | assumption | exact Ext.rf _ | apply Ext.drew | apply Ext.drewN | apply Ext.alloc))) x1)
    have b1 := Lib.hid (B1.out.ext x1)
    have oL1 : Hid (OwI w1 w.heap.size LA lc (intsN l)) := OwI.more oL (by simp)
    clear x1 oL
    by_cases hne : l.length = 0
    · have hl0 : l = [] := List.eq_nil_of_length_eq_zero hne
      have ht2 : Hid (tot = cost + costAt co last 0) := by
        have h := ht.out
        rw [if_pos hl0] at h
        exact h
      have n2 := num.out last 0 hla (by omega)
      obtain ⟨rb1, ro1, d1, c11, c12⟩ := CA.out _ X1.out last 0 hla (by omega)
      generalize costAt co last 0 = y at *
      replace c12 : w1.cell? ⟨rb1, ro1, none⟩ = some (.int .i64 y) := c12
      have d5 : w1.cell? ⟨w.heap.size, 5, none⟩ = some (.slice (some ⟨cb, cof, none⟩) co.length d) := b1.out.cell 5
      have hw : IntKind.i64.wrap (cost + y) = cost + y := IntWalk.i64_in _ (by omega)
      have q1 : (last : Int) < (co.length : Int) := by omega
      have q2 : (0 : Int) < (co.length : Int) := by omega
      have elen : ((l.length : Int) == 0) = true := by rw [hne]; rfl
      clear hl0 ht
      replace hne := Lib.hid hne
      go_wp2_with (fail)
      go_ret2
      rw [ht2.out]
      exact ⟨rfl, X1.out⟩
    · have elen : ((l.length : Int) == 0) = false := by rw [beq_eq_false_iff_ne]; omega
      have hlnil : l ≠ [] := fun h => hne (by rw [h]; rfl)
      have ht2 : Hid (tot = cost + (if mirP co = true then max (reduceT co l last) ((endsT co l last + 1) / 2) else reduceT co l last)) := by
        have h := ht.out
        rw [if_neg hlnil] at h
        exact h
      have bred := Lib.hid (reduceT_bd num.out (by omega) hla hin.out (by omega : l.length ≤ 24))
      have bend := Lib.hid (endsT_bd num.out (by omega) hla hin.out (by omega : l.length ≤ 24) hlnil)
      obtain ⟨i0, hi, hz0, hz1, hz2⟩ := info_parts row_info
      replace hi := Lib.hid hi
      replace hz0 := Lib.hid hz0
      replace hz1 := Lib.hid hz1
      replace hz2 := Lib.hid hz2
      replace hlnil := Lib.hid hlnil
      have lml : Hid ((matT co l last).length = l.length + 1) := mat_len
      obtain ⟨ms, hms⟩ : ∃ ms, Hid (matT co l last = ms) := ⟨_, rfl⟩
      rw [hms.out] at lml
      have START : Hid (OwV w1 w.heap.size 22 1 none 0 0 [] ∧ RowsO w1 w.heap.size [] (ms.take 0) ∧ Ext w w1 ∧ Blk w1 w.heap.size 25 #[.int .i64 kind, .int .i64 co.length, .int .i64 cap, .slice A xw.length a, .slice B xv.length b, .slice (some ⟨cb, cof, none⟩) co.length d] ∧ OwI w1 w.heap.size LA lc (intsN l)) := ⟨OwV.nil _ _ _ _, by simpa using RowsO.nil w1 w.heap.size, X1.out, b1.out, oL1.out⟩
      clear ht
      go_wp2_with (fail)
      go_loopw [10, 11] (fun v10 v11 wr => ∃ (s : Nat) (aa : Int) (MA : Option Addr) (mc : Nat) (mus : List Value), v11 = .int .i64 aa ∧ Hid (aa = (s : Int) - 1) ∧ v10 = .slice MA s mc ∧ s ≤ l.length + 1 ∧ Hid (OwV wr w.heap.size 22 1 MA s mc mus ∧ RowsO wr w.heap.size mus (ms.take s) ∧ Ext w wr ∧ Blk wr w.heap.size 25 #[.int .i64 kind, .int .i64 co.length, .int .i64 cap, .slice A xw.length a, .slice B xv.length b, .slice (some ⟨cb, cof, none⟩) co.length d] ∧ OwI wr w.heap.size LA lc (intsN l))) (fun _ v11 _ => (l.length - intOf v11).toNat)
      case atStart => exact ⟨0, -1, none, 0, [], rfl, by exact (show (-1 : Int) = ((0 : Nat) : Int) - 1 from by omega), rfl, by omega, START⟩
      case round =>
        obtain ⟨wo, rfl⟩ : ∃ wo : World, wo = wr := ⟨_, rfl⟩
        clear START
        obtain ⟨s, aa, MA, mc, mus, rfl, haa, rfl, hk, HH⟩ := hrel
        obtain ⟨oV, oR, Y, bI, oL⟩ := HH.out
        by_cases hlt : s < l.length + 1
        · have hsl : s < (last :: l).length := by simpa using hlt
          obtain ⟨src, hsrc⟩ : ∃ src, Hid ((last :: l)[s]? = some src) := ⟨_, List.getElem?_eq_getElem hsl⟩
          have hsm : src = last ∨ src ∈ l := by
            have := List.mem_of_getElem? hsrc.out
            simpa using this
          have hsn : src < co.length := by
            rcases hsm with rfl | h
            · exact hla
            · exact hin.out _ h
          obtain ⟨row, hrow⟩ : ∃ row : List Int, Hid (List.map (fun dst : Nat => entT co l last src dst) (l ++ [0] : List Nat) = row) := ⟨List.map (fun dst : Nat => entT co l last src dst) (l ++ [0] : List Nat), rfl⟩
          have etk : Hid (ms.take (s + 1) = ms.take s ++ [row]) := by
            have h : ms.take (s + 1) = ms.take s ++ [row] := by
              have e1 : ms[s]? = some row := by
                rw [← hms.out, ← hrow.out]
                unfold matT
                rw [List.getElem?_map, hsrc.out]
                rfl
              rw [List.take_add_one, e1]
              rfl
            exact h
          have lrow : row.length = l.length + 1 := by rw [← hrow.out]; simp
          have erow : Hid (∀ b v, l[b]? = some v → row[b]? = some (if b + 1 = s then -1 else costAt co src v)) := fun b v hb => by
            have hbl : b < l.length := (List.getElem?_eq_some_iff.1 hb).1
            rw [← hrow.out, List.getElem?_map, List.getElem?_append_left hbl, hb, ← ent_row hnod.out h0m.out hsrc.out hb]
            rfl
          have ehome : Hid (row[l.length]? = some (if s = 0 then -1 else costAt co src 0)) := by
            have h : row[l.length]? = some (if s = 0 then -1 else costAt co src 0) := by
              rw [← hrow.out, List.getElem?_map, List.getElem?_append_right (Nat.le_refl _), ← ent_home hnod.out h0m.out hsrc.out]
              simp
            exact h
          obtain ⟨lb, lo, rfl⟩ : ∃ lb lo, LA = some ⟨lb, lo, none⟩ := by
            obtain ⟨b', o', x', h1, _⟩ := oL.read.at (k := 0) (by rw [intsN_len]; omega)
            exact ⟨b', o', h1⟩
          have OM := oV.lt
          replace oV := Lib.hid oV
          replace oR := Lib.hid oR
          replace Y := Lib.hid Y
          replace bI := Lib.hid bI
          replace oL := Lib.hid oL
          have zwo : w.heap.size ≤ wo.heap.size := Y.out.size
          clear HH hsm hsl
          cases s with
          | zero =>
            obtain rfl : aa = -1 := by have := haa.out; omega
            obtain rfl : src = last := by have h := hsrc.out; simp at h; exact h.symm
            clear haa
            have q1 : (-1 : Int) < (l.length : Int) := by omega
            have START2 : Hid (OwI wo wo.heap.size none 0 (row.take 0) ∧ Ext wo wo) := ⟨OwI.nil _ _, Ext.rf _⟩
            have hrg : Hid (OwI (wo.alloc (.cells #[] 3)) wo.heap.size (some ⟨wo.heap.size, 0, none⟩) 0 (row.take 0) ∧ Ext wo (wo.alloc (.cells #[] 3))) := ⟨OwI.empty (.new rfl) (Nat.le_refl _), (Ext.rf _).alloc _⟩
            go_wp2_with (fail)
            go_loopw [13, 14] (fun v13 v14 wr => ∃ (b : Nat) (RA : Option Addr) (rc : Nat), v14 = .int .i64 b ∧ v13 = .slice RA b rc ∧ b ≤ l.length ∧ Hid (OwI wr wo.heap.size RA rc (row.take b) ∧ Ext wo wr)) (fun _ v14 _ => l.length - (intOf v14).toNat)
            case atStart => exact ⟨0, some ⟨wo.heap.size, 0, none⟩, 0, rfl, rfl, by omega, hrg⟩
            case round =>
              obtain ⟨wi, rfl⟩ : ∃ wi : World, wi = wr := ⟨_, rfl⟩
              clear START2 hrg
              obtain ⟨b', RA, rc, rfl, rfl, hb, HR⟩ := hrel
              obtain ⟨oN, Z⟩ := HR.out
              replace oN := Lib.hid oN
              replace Z := Lib.hid Z
              have zwi := Z.out.size
              have d5 : wi.cell? ⟨w.heap.size, 5, none⟩ = some (.slice (some ⟨cb, cof, none⟩) co.length d) := (bI.out.ext Z.out).cell 5
              have ltk : (row.take b').length = b' := by rw [List.length_take, lrow]; omega
              clear HR
              by_cases hlb : b' < l.length
              · have eb : l[b']? = some l[b'] := List.getElem?_eq_getElem hlb
                have hvn := hin.out _ (List.getElem_mem hlb)
                have er := erow.out b' _ eb
                obtain ⟨lb2, lo2, xv2, hq2, zl2, cl2, el2, _⟩ := (oL.out.ext Z.out).read.at (k := b') (by rw [intsN_len]; exact hlb)
                obtain ⟨rfl, rfl⟩ : lb = lb2 ∧ lo = lo2 := by simpa using hq2
                have exv : xv2 = ((l[b'] : Nat) : Int) := by
                  have h := el2.out
                  rw [intsN_get eb] at h
                  exact (Option.some.inj h).symm
                subst exv
                generalize l[b'] = v at *
                have etb : Hid (row.take (b' + 1) = row.take b' ++ [if b' + 1 = 0 then -1 else costAt co src v]) := by
                  have h : row.take (b' + 1) = row.take b' ++ [if b' + 1 = 0 then -1 else costAt co src v] := by rw [List.take_add_one, er]; rfl
                  exact h
                have q2 : (b' : Int) < (l.length : Int) := by omega
                clear er eb el2 hq2
                have hif : (if b' + 1 = 0 then (-1 : Int) else costAt co src v) = costAt co src v := if_neg (by omega)
                rw [hif] at etb
                have te : ((b' : Int) == -1) = false := by rw [beq_eq_false_iff_ne]; omega
                obtain ⟨rb5, ro5, d5', c51, c52⟩ := CA.out _ (Y.out.tr Z.out) src v hsn hvn
                obtain ⟨cv, hcv⟩ : ∃ cv, Hid (costAt co src v = cv) := ⟨_, rfl⟩
                rw [hcv.out] at c52 etb
                have q3 : (src : Int) < (co.length : Int) := by omega
                have q4 : (v : Int) < (co.length : Int) := by omega
                go_upto_region 19 with (fail)
                refine wp_region_any (by kernel_rfl) ?_
                change wpAny _ _ _ _ _ _ _ (World.drew _)
                refine wpAny_T (i := 0) (op := Op.move (Operand.tmp 13)) (t := 22) (d := some 65) (v := ?_) rfl (by decide +kernel) (by decide +kernel) (by decide +kernel) (fun _ _ _ h => h) ?_ ?_
                case refine_2 => (intro _; unfold exec2; go_simp; try with_reducible rfl)
                try simp only [Act.put, List.setIfInBounds_toArray, List.set_cons_zero, List.set_cons_succ]
                refine wpAny_T (i := 1) (op := Op.fieldAddr 25 (Operand.tmp 2) 5) (t := 0) (d := some 66) (v := ?_) rfl (by decide +kernel) (by decide +kernel) (by decide +kernel) (fun _ _ _ h => h) ?_ ?_
                case refine_2 => (intro _; unfold exec2; go_simp; try with_reducible rfl)
                try simp only [Act.put, List.setIfInBounds_toArray, List.set_cons_zero, List.set_cons_succ]
                refine wpAny_T (i := 3) (op := Op.move (Operand.tmp 12)) (t := 3) (d := some 68) (v := ?_) rfl (by decide +kernel) (by decide +kernel) (by decide +kernel) (fun _ _ _ h => h) ?_ ?_
                case refine_2 => (intro _; unfold exec2; go_simp; try with_reducible rfl)
                try simp only [Act.put, List.setIfInBounds_toArray, List.set_cons_zero, List.set_cons_succ]
                refine wpAny_T (i := 6) (op := Op.move (Operand.tmp 6)) (t := 22) (d := some 71) (v := ?_) rfl (by decide +kernel) (by decide +kernel) (by decide +kernel) (fun _ _ _ h => h) ?_ ?_
                case refine_2 => (intro _; unfold exec2; go_simp; try with_reducible rfl)
                try simp only [Act.put, List.setIfInBounds_toArray, List.set_cons_zero, List.set_cons_succ]
                refine wpAny_T (i := 7) (op := Op.move (Operand.tmp 14)) (t := 3) (d := some 72) (v := ?_) rfl (by decide +kernel) (by decide +kernel) (by decide +kernel) (fun _ _ _ h => h) ?_ ?_
                case refine_2 => (intro _; unfold exec2; go_simp; try with_reducible rfl)
                try simp only [Act.put, List.setIfInBounds_toArray, List.set_cons_zero, List.set_cons_succ]
                refine wpAny_reads2 (n := 3) [(2, some 67), (4, some 69), (5, some 70), (8, some 73), (9, some 74), (10, some 75), (11, some 76)] (fun | 2 => .slice (some ⟨cb, cof, none⟩) co.length d | 4 => .pointer (some ⟨cb, cof + src, none⟩) | 5 => .slice (some ⟨rb5, ro5, none⟩) co.length d5' | 8 => .pointer (some ⟨lb, lo + b', none⟩) | 9 => .int .i64 (v : Int) | 10 => .pointer (some ⟨rb5, ro5 + v, none⟩) | 11 => .int .i64 cv | _ => undef) #[true, true, true, true, true, true, true, true, true, true, true, true, false, false, false] (by decide +kernel) ?_ ?_
                · intro pS hpm uS hD K hK
                  simp only [List.mem_cons, List.not_mem_nil, or_false] at hpm
                  rcases hpm with rfl | rfl | rfl | rfl | rfl | rfl | rfl
                  · exact op_ld (T := 23) (x := Operand.tmp 66) (t := 23) (d := some 67) rfl (.pointer (some ⟨w.heap.size, 5, none⟩)) (by kernel_rfl) (.slice (some ⟨cb, cof, none⟩) co.length d) (by go_simp) hK
                  · exact op_ix (T := 23) (x := Operand.tmp 67) (y := Operand.tmp 68) (t := 0) (d := some 69) rfl (.slice (some ⟨cb, cof, none⟩) co.length d) (.int .i64 (src : Int)) (Eq.trans (b := uS 2) (by kernel_rfl) (hD 2 (depIn (by kernel_rfl)))) (by kernel_rfl) (.pointer (some ⟨cb, cof + src, none⟩)) (by go_simp) hK
                  · exact op_ld (T := 22) (x := Operand.tmp 69) (t := 22) (d := some 70) rfl (.pointer (some ⟨cb, cof + src, none⟩)) (Eq.trans (b := uS 4) (by kernel_rfl) (hD 4 (depIn (by kernel_rfl)))) (.slice (some ⟨rb5, ro5, none⟩) co.length d5') (by go_simp) hK
                  · exact op_ix (T := 22) (x := Operand.tmp 71) (y := Operand.tmp 72) (t := 0) (d := some 73) rfl (.slice (some ⟨lb, lo, none⟩) l.length lc) (.int .i64 (b' : Int)) (by kernel_rfl) (by kernel_rfl) (.pointer (some ⟨lb, lo + b', none⟩)) (by go_simp) hK
                  · exact op_ld (T := 3) (x := Operand.tmp 73) (t := 3) (d := some 74) rfl (.pointer (some ⟨lb, lo + b', none⟩)) (Eq.trans (b := uS 8) (by kernel_rfl) (hD 8 (depIn (by kernel_rfl)))) (.int .i64 (v : Int)) (by go_simp) hK
                  · exact op_ix (T := 22) (x := Operand.tmp 70) (y := Operand.tmp 74) (t := 0) (d := some 75) rfl (.slice (some ⟨rb5, ro5, none⟩) co.length d5') (.int .i64 (v : Int)) (Eq.trans (b := uS 5) (by kernel_rfl) (hD 5 (depIn (by kernel_rfl)))) (Eq.trans (b := uS 9) (by kernel_rfl) (hD 9 (depIn (by kernel_rfl)))) (.pointer (some ⟨rb5, ro5 + v, none⟩)) (by go_simp) hK
                  · exact op_ld (T := 3) (x := Operand.tmp 75) (t := 3) (d := some 76) rfl (.pointer (some ⟨rb5, ro5 + v, none⟩)) (Eq.trans (b := uS 10) (by kernel_rfl) (hD 10 (depIn (by kernel_rfl)))) (.int .i64 cv) (by go_simp) hK
                simp only [putAll, Act.put, List.setIfInBounds_toArray, List.set_cons_zero, List.set_cons_succ]
                refine wpAny_next 12 (by decide +kernel) (op_bs1 rfl (.int .i64 cv) (by kernel_rfl) _ (ibs1g_run _ _) ?_)
                try simp only [Act.put, List.setIfInBounds_toArray, List.set_cons_zero, List.set_cons_succ]
                have oN2 : OwI (wi.drew.alloc (.cells #[.int .i64 cv] 3)) wo.heap.size RA rc (row.take b') := oN.out.ext (((Ext.rf _).drew).alloc _)
                obtain ⟨A5, c5, w5, hrun, o5, g5, -⟩ := run_app_i (wi.drew.alloc (.cells #[.int .i64 cv] 3)) wo.heap.size 22 RA b' rc (row.take b') [cv] (some ⟨wi.drew.heap.size, 0, none⟩) 1 ltk.symm oN2 (.blk (.new rfl) rfl) (by simp; omega) (by simp; omega)
                have X5 := Ext.grow ((Z.out.drew).alloc (.cells #[.int .i64 cv] 3)) g5 (fun k hk => (oN2.lt k hk).1)
                have lapp : (row.take b' ++ [cv]).length = b' + 1 := by rw [List.length_append, ltk]; rfl
                rw [lapp] at hrun
                refine wpAny_next 13 (by decide +kernel) (op_app rfl (.slice RA b' rc) (.slice (some ⟨wi.drew.heap.size, 0, none⟩) 1 1) (by kernel_rfl) (by kernel_rfl) _ hrun ?_)
                try simp only [Act.put, List.setIfInBounds_toArray, List.set_cons_zero, List.set_cons_succ]
                refine wpAny_T (i := 14) (op := Op.assign (Operand.tmp 78)) (t := 22) (d := some 13) (v := ?_) rfl (by decide +kernel) (by decide +kernel) (by decide +kernel) (fun _ _ _ h => h) ?_ ?_
                case refine_2 => (intro _; unfold exec2; go_simp; try with_reducible rfl)
                try simp only [Act.put, List.setIfInBounds_toArray, List.set_cons_zero, List.set_cons_succ]
                refine wpAny_done (by kernel_rfl) ?_ _
                clear hrun lapp
                go_simp
                go_wp2_with (fail)
                go_roundw
                case rel =>
                  refine ⟨b' + 1, A5, c5, by go_num, ?_, by omega, ?_⟩
                  · first | rfl | (rw [List.length_append, ltk]; rfl) | (simp; omega)
                  · exact (show OwI w5 wo.heap.size A5 c5 (row.take (b' + 1)) ∧ Ext wo w5 from ⟨by rw [etb.out]; exact o5, X5⟩)
                case measure => simp [intOf] <;> omega
              · obtain rfl : b' = l.length := by omega
                have q2 : ¬ ((l.length : Int) < (l.length : Int)) := by omega
                have er := ehome.out
                have etb : Hid (row = row.take l.length ++ [-1]) := by
                  have h : row = row.take l.length ++ [-1] := by
                    have h1 : row.take (l.length + 1) = row := List.take_of_length_le (by rw [lrow]; exact Nat.le_refl _)
                    rw [← h1, List.take_add_one, er]
                    simp [lrow]
                  exact h
                clear er
                have oN2 : Hid (OwI (wi.alloc (.cells #[.int .i64 (-1)] 3)) wo.heap.size RA rc (row.take l.length)) := oN.out.ext ((Ext.rf _).alloc _)
                go_wp2_with (first | (at_builtin; go_loud (refine wpl_app_i _ rfl _ _ rfl wo.heap.size RA l.length rc (row.take l.length) [-1] (some ⟨wi.heap.size, 0, none⟩) 1 rfl rfl ltk.symm ?_ ?_ ?_ ?_ ?_; (exact oN2.out); (exact .blk (.new rfl) rfl); (simp; omega); (simp; omega); rintro A5 c5 w5 o5 g5 _; have X5 := Ext.grow (Z.out.alloc _) g5 (fun k hk => (oN2.out.lt k hk).1); rw [← etb.out] at o5 ⊢; rw [lrow])) | (at_builtin; refine wpl_app_v _ (e := 22) Try.underlying23 hi.out hz0.out hz1.out hz2.out (by simp [Value.cells]) (by omega) rfl _ _ rfl w.heap.size MA 0 mc mus (some ⟨w5.heap.size, 0, none⟩) 1 1 [.slice A5 (l.length + 1) c5] rfl rfl ((oV.out.ext X5).ext ((Ext.rf _).alloc _)) (RdV.blk (.new (by simp))).rdC (by simp) (by simp [Value.oneCell']) (by simp only [maxLen]; omega) (by omega) (by have := X5.size; simp; omega) ?_; rintro M6' m6 w6 o6 g6 _))
                have oV5 := (oV.out.ext X5).ext ((Ext.rf w5).alloc (.cells #[.slice A5 (l.length + 1) c5] 22))
                have M6 := oV5.grownT g6
                have X6 : Ext wo (w5.alloc (.cells #[.slice A5 (l.length + 1) c5] 22)) := X5.tr ((Ext.rf _).alloc _)
                have NEW : Hid (OwV w6 w.heap.size 22 1 M6' (0 + 1) m6 (mus ++ [.slice A5 (l.length + 1) c5]) ∧ RowsO w6 w.heap.size (mus ++ [.slice A5 (l.length + 1) c5]) (ms.take (0 + 1)) ∧ Ext w w6 ∧ Blk w6 w.heap.size 25 #[.int .i64 kind, .int .i64 co.length, .int .i64 cap, .slice A xw.length a, .slice B xv.length b, .slice (some ⟨cb, cof, none⟩) co.length d] ∧ OwI w6 w.heap.size (some ⟨lb, lo, none⟩) lc (intsN l)) := by
                  refine ⟨o6, ?_, (Y.out.tr X6).modT M6 (Nat.le_refl _), (bI.out.ext X6).modT M6 (by decide), (oL.out.ext X6).modT M6 (by decide)⟩
                  rw [etk.out]
                  have h := ((oR.out.ext X6).modT M6 (by decide)).snoc (((o5.more zwo).ext ((Ext.rf _).alloc _)).modT M6 (by decide))
                  rw [lrow] at h
                  exact h
                go_roundw
                case rel => exact ⟨0 + 1, 0, M6', m6, mus ++ [.slice A5 (l.length + 1) c5], by go_num, by exact (show (0 : Int) = ((0 + 1 : Nat) : Int) - 1 from by omega), rfl, by omega, NEW⟩
                case measure => simp [intOf] <;> omega
          | succ k =>
            obtain rfl : aa = (k : Int) := by have := haa.out; omega
            have hkl : k < l.length := by omega
            have ek : l[k]? = some src := by have h := hsrc.out; simpa using h
            obtain ⟨lb', lo', xs, hq, zs, cs0, es, _⟩ := oL.out.read.at (k := k) (by rw [intsN_len]; exact hkl)
            obtain ⟨rfl, rfl⟩ : lb = lb' ∧ lo = lo' := by simpa using hq
            have exs : xs = (src : Int) := by
              have h := es.out
              rw [intsN_get ek] at h
              exact (Option.some.inj h).symm
            subst exs
            clear haa es hq
            replace ek := Lib.hid ek
            have q1 : (k : Int) < (l.length : Int) := by omega
            have q1' : ¬ ((k : Int) < 0) := by omega
            have START2 : Hid (OwI wo wo.heap.size none 0 (row.take 0) ∧ Ext wo wo) := ⟨OwI.nil _ _, Ext.rf _⟩
            have hrg : Hid (OwI (wo.alloc (.cells #[] 3)) wo.heap.size (some ⟨wo.heap.size, 0, none⟩) 0 (row.take 0) ∧ Ext wo (wo.alloc (.cells #[] 3))) := ⟨OwI.empty (.new rfl) (Nat.le_refl _), (Ext.rf _).alloc _⟩
            go_wp2_with (fail)
            go_loopw [13, 14] (fun v13 v14 wr => ∃ (b : Nat) (RA : Option Addr) (rc : Nat), v14 = .int .i64 b ∧ v13 = .slice RA b rc ∧ b ≤ l.length ∧ Hid (OwI wr wo.heap.size RA rc (row.take b) ∧ Ext wo wr)) (fun _ v14 _ => l.length - (intOf v14).toNat)
            case atStart => exact ⟨0, some ⟨wo.heap.size, 0, none⟩, 0, rfl, rfl, by omega, hrg⟩
            case round =>
              obtain ⟨wi, rfl⟩ : ∃ wi : World, wi = wr := ⟨_, rfl⟩
              clear START2 hrg
              obtain ⟨b', RA, rc, rfl, rfl, hb, HR⟩ := hrel
              obtain ⟨oN, Z⟩ := HR.out
              replace oN := Lib.hid oN
              replace Z := Lib.hid Z
              have zwi := Z.out.size
              have d5 : wi.cell? ⟨w.heap.size, 5, none⟩ = some (.slice (some ⟨cb, cof, none⟩) co.length d) := (bI.out.ext Z.out).cell 5
              have ltk : (row.take b').length = b' := by rw [List.length_take, lrow]; omega
              clear HR
              by_cases hlb : b' < l.length
              · have eb : l[b']? = some l[b'] := List.getElem?_eq_getElem hlb
                have hvn := hin.out _ (List.getElem_mem hlb)
                have er := erow.out b' _ eb
                obtain ⟨lb2, lo2, xv2, hq2, zl2, cl2, el2, _⟩ := (oL.out.ext Z.out).read.at (k := b') (by rw [intsN_len]; exact hlb)
                obtain ⟨rfl, rfl⟩ : lb = lb2 ∧ lo = lo2 := by simpa using hq2
                have exv : xv2 = ((l[b'] : Nat) : Int) := by
                  have h := el2.out
                  rw [intsN_get eb] at h
                  exact (Option.some.inj h).symm
                subst exv
                generalize l[b'] = v at *
                have etb : Hid (row.take (b' + 1) = row.take b' ++ [if b' + 1 = k + 1 then -1 else costAt co src v]) := by
                  have h : row.take (b' + 1) = row.take b' ++ [if b' + 1 = k + 1 then -1 else costAt co src v] := by rw [List.take_add_one, er]; rfl
                  exact h
                have q2 : (b' : Int) < (l.length : Int) := by omega
                clear er eb el2 hq2
                by_cases hbk : b' = k
                · have hif : (if b' + 1 = k + 1 then (-1 : Int) else costAt co src v) = -1 := if_pos (by omega)
                  rw [hif] at etb
                  have te : ((b' : Int) == (k : Int)) = true := by rw [beq_iff_eq]; omega
                  have oN2 : OwI (wi.alloc (.cells #[.int .i64 (-1)] 3)) wo.heap.size RA rc (row.take b') := oN.out.ext ((Ext.rf _).alloc _)
                  go_wp2_with (at_builtin; go_loud (refine wpl_app_i _ rfl _ _ rfl wo.heap.size RA b' rc (row.take b') [-1] (some ⟨wi.heap.size, 0, none⟩) 1 rfl rfl ltk.symm ?_ ?_ ?_ ?_ ?_; (exact oN2); (exact .blk (.new rfl) rfl); (simp; omega); (simp; omega); rintro A5 c5 w5 o5 g5 _; have X5 := Ext.grow (Z.out.alloc _) g5 (fun k hk => (oN2.lt k hk).1)))
                  go_roundw
                  case rel =>
                    refine ⟨b' + 1, A5, c5, by go_num, ?_, by omega, ?_⟩
                    · first | rfl | (rw [List.length_append, ltk]; rfl) | (simp; omega)
                    · exact (show OwI w5 wo.heap.size A5 c5 (row.take (b' + 1)) ∧ Ext wo w5 from ⟨by rw [etb.out]; exact o5, X5⟩)
                  case measure => simp [intOf] <;> omega
                · have hif : (if b' + 1 = k + 1 then (-1 : Int) else costAt co src v) = costAt co src v := if_neg (by omega)
                  rw [hif] at etb
                  have te : ((b' : Int) == (k : Int)) = false := by rw [beq_eq_false_iff_ne]; omega
                  obtain ⟨rb5, ro5, d5', c51, c52⟩ := CA.out _ (Y.out.tr Z.out) src v hsn hvn
                  obtain ⟨cv, hcv⟩ : ∃ cv, Hid (costAt co src v = cv) := ⟨_, rfl⟩
                  rw [hcv.out] at c52 etb
                  have q3 : (src : Int) < (co.length : Int) := by omega
                  have q4 : (v : Int) < (co.length : Int) := by omega
                  go_upto_region 19 with (fail)
                  refine wp_region_any (by kernel_rfl) ?_
                  change wpAny _ _ _ _ _ _ _ (World.drew _)
                  refine wpAny_T (i := 0) (op := Op.move (Operand.tmp 13)) (t := 22) (d := some 65) (v := ?_) rfl (by decide +kernel) (by decide +kernel) (by decide +kernel) (fun _ _ _ h => h) ?_ ?_
                  case refine_2 => (intro _; unfold exec2; go_simp; try with_reducible rfl)
                  try simp only [Act.put, List.setIfInBounds_toArray, List.set_cons_zero, List.set_cons_succ]
                  refine wpAny_T (i := 1) (op := Op.fieldAddr 25 (Operand.tmp 2) 5) (t := 0) (d := some 66) (v := ?_) rfl (by decide +kernel) (by decide +kernel) (by decide +kernel) (fun _ _ _ h => h) ?_ ?_
                  case refine_2 => (intro _; unfold exec2; go_simp; try with_reducible rfl)
                  try simp only [Act.put, List.setIfInBounds_toArray, List.set_cons_zero, List.set_cons_succ]
                  refine wpAny_T (i := 3) (op := Op.move (Operand.tmp 12)) (t := 3) (d := some 68) (v := ?_) rfl (by decide +kernel) (by decide +kernel) (by decide +kernel) (fun _ _ _ h => h) ?_ ?_
                  case refine_2 => (intro _; unfold exec2; go_simp; try with_reducible rfl)
                  try simp only [Act.put, List.setIfInBounds_toArray, List.set_cons_zero, List.set_cons_succ]
                  refine wpAny_T (i := 6) (op := Op.move (Operand.tmp 6)) (t := 22) (d := some 71) (v := ?_) rfl (by decide +kernel) (by decide +kernel) (by decide +kernel) (fun _ _ _ h => h) ?_ ?_
                  case refine_2 => (intro _; unfold exec2; go_simp; try with_reducible rfl)
                  try simp only [Act.put, List.setIfInBounds_toArray, List.set_cons_zero, List.set_cons_succ]
                  refine wpAny_T (i := 7) (op := Op.move (Operand.tmp 14)) (t := 3) (d := some 72) (v := ?_) rfl (by decide +kernel) (by decide +kernel) (by decide +kernel) (fun _ _ _ h => h) ?_ ?_
                  case refine_2 => (intro _; unfold exec2; go_simp; try with_reducible rfl)
                  try simp only [Act.put, List.setIfInBounds_toArray, List.set_cons_zero, List.set_cons_succ]
                  refine wpAny_reads2 (n := 3) [(2, some 67), (4, some 69), (5, some 70), (8, some 73), (9, some 74), (10, some 75), (11, some 76)] (fun | 2 => .slice (some ⟨cb, cof, none⟩) co.length d | 4 => .pointer (some ⟨cb, cof + src, none⟩) | 5 => .slice (some ⟨rb5, ro5, none⟩) co.length d5' | 8 => .pointer (some ⟨lb, lo + b', none⟩) | 9 => .int .i64 (v : Int) | 10 => .pointer (some ⟨rb5, ro5 + v, none⟩) | 11 => .int .i64 cv | _ => undef) #[true, true, true, true, true, true, true, true, true, true, true, true, false, false, false] (by decide +kernel) ?_ ?_
                  · intro pS hpm uS hD K hK
                    simp only [List.mem_cons, List.not_mem_nil, or_false] at hpm
                    rcases hpm with rfl | rfl | rfl | rfl | rfl | rfl | rfl
                    · exact op_ld (T := 23) (x := Operand.tmp 66) (t := 23) (d := some 67) rfl (.pointer (some ⟨w.heap.size, 5, none⟩)) (by kernel_rfl) (.slice (some ⟨cb, cof, none⟩) co.length d) (by go_simp) hK
                    · exact op_ix (T := 23) (x := Operand.tmp 67) (y := Operand.tmp 68) (t := 0) (d := some 69) rfl (.slice (some ⟨cb, cof, none⟩) co.length d) (.int .i64 (src : Int)) (Eq.trans (b := uS 2) (by kernel_rfl) (hD 2 (depIn (by kernel_rfl)))) (by kernel_rfl) (.pointer (some ⟨cb, cof + src, none⟩)) (by go_simp) hK
                    · exact op_ld (T := 22) (x := Operand.tmp 69) (t := 22) (d := some 70) rfl (.pointer (some ⟨cb, cof + src, none⟩)) (Eq.trans (b := uS 4) (by kernel_rfl) (hD 4 (depIn (by kernel_rfl)))) (.slice (some ⟨rb5, ro5, none⟩) co.length d5') (by go_simp) hK
                    · exact op_ix (T := 22) (x := Operand.tmp 71) (y := Operand.tmp 72) (t := 0) (d := some 73) rfl (.slice (some ⟨lb, lo, none⟩) l.length lc) (.int .i64 (b' : Int)) (by kernel_rfl) (by kernel_rfl) (.pointer (some ⟨lb, lo + b', none⟩)) (by go_simp) hK
                    · exact op_ld (T := 3) (x := Operand.tmp 73) (t := 3) (d := some 74) rfl (.pointer (some ⟨lb, lo + b', none⟩)) (Eq.trans (b := uS 8) (by kernel_rfl) (hD 8 (depIn (by kernel_rfl)))) (.int .i64 (v : Int)) (by go_simp) hK
                    · exact op_ix (T := 22) (x := Operand.tmp 70) (y := Operand.tmp 74) (t := 0) (d := some 75) rfl (.slice (some ⟨rb5, ro5, none⟩) co.length d5') (.int .i64 (v : Int)) (Eq.trans (b := uS 5) (by kernel_rfl) (hD 5 (depIn (by kernel_rfl)))) (Eq.trans (b := uS 9) (by kernel_rfl) (hD 9 (depIn (by kernel_rfl)))) (.pointer (some ⟨rb5, ro5 + v, none⟩)) (by go_simp) hK
                    · exact op_ld (T := 3) (x := Operand.tmp 75) (t := 3) (d := some 76) rfl (.pointer (some ⟨rb5, ro5 + v, none⟩)) (Eq.trans (b := uS 10) (by kernel_rfl) (hD 10 (depIn (by kernel_rfl)))) (.int .i64 cv) (by go_simp) hK
                  simp only [putAll, Act.put, List.setIfInBounds_toArray, List.set_cons_zero, List.set_cons_succ]
                  refine wpAny_next 12 (by decide +kernel) (op_bs1 rfl (.int .i64 cv) (by kernel_rfl) _ (ibs1g_run _ _) ?_)
                  try simp only [Act.put, List.setIfInBounds_toArray, List.set_cons_zero, List.set_cons_succ]
                  have oN2 : OwI (wi.drew.alloc (.cells #[.int .i64 cv] 3)) wo.heap.size RA rc (row.take b') := oN.out.ext (((Ext.rf _).drew).alloc _)
                  obtain ⟨A5, c5, w5, hrun, o5, g5, -⟩ := run_app_i (wi.drew.alloc (.cells #[.int .i64 cv] 3)) wo.heap.size 22 RA b' rc (row.take b') [cv] (some ⟨wi.drew.heap.size, 0, none⟩) 1 ltk.symm oN2 (.blk (.new rfl) rfl) (by simp; omega) (by simp; omega)
                  have X5 := Ext.grow ((Z.out.drew).alloc (.cells #[.int .i64 cv] 3)) g5 (fun k hk => (oN2.lt k hk).1)
                  have lapp : (row.take b' ++ [cv]).length = b' + 1 := by rw [List.length_append, ltk]; rfl
                  rw [lapp] at hrun
                  refine wpAny_next 13 (by decide +kernel) (op_app rfl (.slice RA b' rc) (.slice (some ⟨wi.drew.heap.size, 0, none⟩) 1 1) (by kernel_rfl) (by kernel_rfl) _ hrun ?_)
                  try simp only [Act.put, List.setIfInBounds_toArray, List.set_cons_zero, List.set_cons_succ]
                  refine wpAny_T (i := 14) (op := Op.assign (Operand.tmp 78)) (t := 22) (d := some 13) (v := ?_) rfl (by decide +kernel) (by decide +kernel) (by decide +kernel) (fun _ _ _ h => h) ?_ ?_
                  case refine_2 => (intro _; unfold exec2; go_simp; try with_reducible rfl)
                  try simp only [Act.put, List.setIfInBounds_toArray, List.set_cons_zero, List.set_cons_succ]
                  refine wpAny_done (by kernel_rfl) ?_ _
                  clear hrun lapp
                  go_simp
                  go_wp2_with (fail)
                  go_roundw
                  case rel =>
                    refine ⟨b' + 1, A5, c5, by go_num, ?_, by omega, ?_⟩
                    · first | rfl | (rw [List.length_append, ltk]; rfl) | (simp; omega)
                    · exact (show OwI w5 wo.heap.size A5 c5 (row.take (b' + 1)) ∧ Ext wo w5 from ⟨by rw [etb.out]; exact o5, X5⟩)
                  case measure => simp [intOf] <;> omega
              · obtain rfl : b' = l.length := by omega
                have q2 : ¬ ((l.length : Int) < (l.length : Int)) := by omega
                have er := ehome.out
                have etb : Hid (row = row.take l.length ++ [costAt co src 0]) := by
                  have h : row = row.take l.length ++ [costAt co src 0] := by
                    have h1 : row.take (l.length + 1) = row := List.take_of_length_le (by rw [lrow]; exact Nat.le_refl _)
                    rw [← h1, List.take_add_one, er]
                    simp [lrow]
                  exact h
                clear er
                obtain ⟨rb6, ro6, d6, c61, c62⟩ := CA.out _ (Y.out.tr Z.out) src 0 hsn (by omega)
                obtain ⟨cv0, hcv0⟩ : ∃ cv0, Hid (costAt co src 0 = cv0) := ⟨_, rfl⟩
                rw [hcv0.out] at c62 etb
                replace c62 : wi.cell? ⟨rb6, ro6, none⟩ = some (.int .i64 cv0) := c62
                have q3 : (src : Int) < (co.length : Int) := by omega
                have q4 : (0 : Int) < (co.length : Int) := by omega
                have oN2 : Hid (OwI (wi.alloc (.cells #[.int .i64 (cv0)] 3)) wo.heap.size RA rc (row.take l.length)) := oN.out.ext ((Ext.rf _).alloc _)
                go_wp2_with (first | (at_builtin; go_loud (refine wpl_app_i _ rfl _ _ rfl wo.heap.size RA l.length rc (row.take l.length) [cv0] (some ⟨wi.heap.size, 0, none⟩) 1 rfl rfl ltk.symm ?_ ?_ ?_ ?_ ?_; (exact oN2.out); (exact .blk (.new rfl) rfl); (simp; omega); (simp; omega); rintro A5 c5 w5 o5 g5 _; have X5 := Ext.grow (Z.out.alloc _) g5 (fun k hk => (oN2.out.lt k hk).1); rw [← etb.out] at o5 ⊢; rw [lrow])) | (at_builtin; refine wpl_app_v _ (e := 22) Try.underlying23 hi.out hz0.out hz1.out hz2.out (by simp [Value.cells]) (by omega) rfl _ _ rfl w.heap.size MA (k + 1) mc mus (some ⟨w5.heap.size, 0, none⟩) 1 1 [.slice A5 (l.length + 1) c5] rfl rfl ((oV.out.ext X5).ext ((Ext.rf _).alloc _)) (RdV.blk (.new (by simp))).rdC (by simp) (by simp [Value.oneCell']) (by simp only [maxLen]; omega) (by omega) (by have := X5.size; simp; omega) ?_; rintro M6' m6 w6 o6 g6 _))
                have oV5 := (oV.out.ext X5).ext ((Ext.rf w5).alloc (.cells #[.slice A5 (l.length + 1) c5] 22))
                have M6 := oV5.grownT g6
                have X6 : Ext wo (w5.alloc (.cells #[.slice A5 (l.length + 1) c5] 22)) := X5.tr ((Ext.rf _).alloc _)
                have NEW : Hid (OwV w6 w.heap.size 22 1 M6' ((k + 1) + 1) m6 (mus ++ [.slice A5 (l.length + 1) c5]) ∧ RowsO w6 w.heap.size (mus ++ [.slice A5 (l.length + 1) c5]) (ms.take ((k + 1) + 1)) ∧ Ext w w6 ∧ Blk w6 w.heap.size 25 #[.int .i64 kind, .int .i64 co.length, .int .i64 cap, .slice A xw.length a, .slice B xv.length b, .slice (some ⟨cb, cof, none⟩) co.length d] ∧ OwI w6 w.heap.size (some ⟨lb, lo, none⟩) lc (intsN l)) := by
                  refine ⟨o6, ?_, (Y.out.tr X6).modT M6 (Nat.le_refl _), (bI.out.ext X6).modT M6 (by decide), (oL.out.ext X6).modT M6 (by decide)⟩
                  rw [etk.out]
                  have h := ((oR.out.ext X6).modT M6 (by decide)).snoc (((o5.more zwo).ext ((Ext.rf _).alloc _)).modT M6 (by decide))
                  rw [lrow] at h
                  exact h
                go_roundw
                case rel => exact ⟨k + 1 + 1, ((k : Int) + 1), M6', m6, mus ++ [.slice A5 (l.length + 1) c5], by go_num, by exact (show ((k : Int) + 1) = ((k + 1 + 1 : Nat) : Int) - 1 from by omega), rfl, by omega, NEW⟩
                case measure => simp [intOf] <;> omega
        · obtain rfl : s = l.length + 1 := by omega
          obtain rfl : aa = (l.length : Int) := by have := haa.out; omega
          have q0 : ¬ ((l.length : Int) < (l.length : Int)) := by omega
          have etk : ms.take (l.length + 1) = ms := List.take_of_length_le (by rw [lml.out]; exact Nat.le_refl _)
          rw [etk] at oR
          have numL : ∀ a b, (a = last ∨ a ∈ l) → (b = 0 ∨ b ∈ l) → 0 ≤ costAt co a b ∧ costAt co a b ≤ 2147483647 := fun a b ha hb => num.out a b (by
            rcases ha with rfl | h
            · exact hla
            · exact hin.out _ h) (by
            rcases hb with rfl | h
            · omega
            · exact hin.out _ h)
          have mn := mat_num (rows := co) (us := l) (last := last) (B := 2147483647) (by omega) numL
          have mr := mat_row (rows := co) (us := l) (last := last)
          rw [hms.out] at mn mr
          have RG := rreduceg_any ms (l.length + 1) MA mc wo (rde_of oV oR fun r hr x hx => by have := mn r hr x hx; omega) mr (by omega) (by omega) (by rw [lml.out]; omega) (by rw [lml.out]; omega) fun r hr x hx => (mn r hr x hx).2
          have eg := reduceG_mat (rows := co) (us := l) (last := last) (fun a b ha hb => (numL a b ha hb).1) hnl.out h0m.out
          rw [hms.out] at eg
          rw [eg, lml.out] at RG
          have bI' := Lib.hid bI
          have Y' := Lib.hid Y
          have oL' := Lib.hid oL
          replace RG := Lib.hid RG
          have c0 : ∀ j : Nat, wo.cell? ⟨w.heap.size, j, none⟩ = #[Value.int .i64 kind, .int .i64 co.length, .int .i64 cap, .slice A xw.length a, .slice B xv.length b, .slice (some ⟨cb, cof, none⟩) co.length d][j]? := fun j => bI.cell j
          clear HH oV oR bI oL mn mr eg etk numL haa
          go_wp2_with (fail)
          refine RG.out.mono ?_
          rintro e w2 ⟨rfl, x2⟩
          have Y2 := Lib.hid (Y'.out.tr x2)
          have bI2 := bI'.out.ext x2
          have c0 : w2.cell? ⟨w.heap.size, 0, none⟩ = some (.int .i64 kind) := bI2.cell 0
          have c1 : w2.cell? ⟨w.heap.size, 1, none⟩ = some (.int .i64 co.length) := bI2.cell 1
          have c2 : w2.cell? ⟨w.heap.size, 2, none⟩ = some (.int .i64 cap) := bI2.cell 2
          have c3 : w2.cell? ⟨w.heap.size, 3, none⟩ = some (.slice A xw.length a) := bI2.cell 3
          have c4 : w2.cell? ⟨w.heap.size, 4, none⟩ = some (.slice B xv.length b) := bI2.cell 4
          have c5 : w2.cell? ⟨w.heap.size, 5, none⟩ = some (.slice (some ⟨cb, cof, none⟩) co.length d) := bI2.cell 5
          replace bI2 := Lib.hid bI2
          have oL2 := Lib.hid (oL'.out.ext x2)
          clear x2
          go_wp2_with (fail)
          refine (MI.out _ Y2.out).mono ?_
          rintro e w3 ⟨rfl, x3⟩
          have Y3 := Lib.hid (Y2.out.tr x3)
          have bI3 := bI2.out.ext x3
          clear c0 c1 c2 c3 c4 c5
          have br := bred.out
          have be := bend.out
          obtain ⟨mi, hmi⟩ : ∃ mi, Hid (mirP co = mi) := ⟨_, rfl⟩
          rw [hmi.out] at ht2 ⊢
          obtain ⟨rv, hrv⟩ : ∃ rv, Hid (reduceT co l last = rv) := ⟨_, rfl⟩
          rw [hrv.out] at ht2 br ⊢
          cases mi with
          | false =>
            have ht3 : Hid (tot = cost + rv) := ht2.out
            have hw : IntKind.i64.wrap (cost + rv) = cost + rv := IntWalk.i64_in _ (by omega)
            go_wp2_with (fail)
            go_ret2
            rw [ht3.out]
            exact ⟨rfl, Y3.out⟩
          | true =>
            have ht3 : Hid (tot = cost + max rv ((endsT co l last + 1) / 2)) := ht2.out
            have ENN := EN.out w3 Y3.out LA lc l last (oL2.out.ext x3).read hin.out (List.nodup_cons.1 hnod.out).2 (by omega) hla
            obtain ⟨ev, hev⟩ : ∃ ev, Hid (endsT co l last = ev) := ⟨_, rfl⟩
            rw [hev.out] at ENN be ht3
            have c0 : w3.cell? ⟨w.heap.size, 0, none⟩ = some (.int .i64 kind) := bI3.cell 0
            have c1 : w3.cell? ⟨w.heap.size, 1, none⟩ = some (.int .i64 co.length) := bI3.cell 1
            have c2 : w3.cell? ⟨w.heap.size, 2, none⟩ = some (.int .i64 cap) := bI3.cell 2
            have c3 : w3.cell? ⟨w.heap.size, 3, none⟩ = some (.slice A xw.length a) := bI3.cell 3
            have c4 : w3.cell? ⟨w.heap.size, 4, none⟩ = some (.slice B xv.length b) := bI3.cell 4
            have c5 : w3.cell? ⟨w.heap.size, 5, none⟩ = some (.slice (some ⟨cb, cof, none⟩) co.length d) := bI3.cell 5
            have hq : ev.tdiv 2 = ev / 2 := Int.tdiv_eq_ediv_of_nonneg (by omega)
            have hr : ev.tmod 2 = ev % 2 := Int.tmod_eq_emod_of_nonneg (by omega)
            have hw1 : IntKind.i64.wrap (ev / 2) = ev / 2 := IntWalk.i64_in _ (by omega)
            have hw2 : IntKind.i64.wrap (ev % 2) = ev % 2 := IntWalk.i64_in _ (by omega)
            have hes : ev / 2 + ev % 2 = (ev + 1) / 2 := by omega
            have hw3 : IntKind.i64.wrap ((ev + 1) / 2) = (ev + 1) / 2 := IntWalk.i64_in _ (by omega)
            have hmax : (if rv < (ev + 1) / 2 then (ev + 1) / 2 else rv) = max rv ((ev + 1) / 2) := by split <;> omega
            obtain ⟨mv, hmv⟩ : ∃ mv, Hid (max rv ((ev + 1) / 2) = mv) := ⟨_, rfl⟩
            have bmv : 0 ≤ mv ∧ mv ≤ 4294967294 * 100 := by rw [← hmv.out]; omega
            rw [hmv.out] at ht3 hmax
            have hw4 : IntKind.i64.wrap (cost + mv) = cost + mv := IntWalk.i64_in _ (by omega)
            replace ENN := Lib.hid ENN
            replace bI3 := Lib.hid bI3
            go_wp2_with (fail)
            refine ENN.out.mono ?_
            rintro e w4 ⟨rfl, x4⟩
            have Y4 := Lib.hid (Y3.out.tr x4)
            clear x4 c0 c1 c2 c3 c4 c5
            go_wp2_with (fail)
            go_ret2
            rw [ht3.out]
            exact ⟨rfl, Y4.out⟩
end Go.Proofs.Ytpapkofildcdiaa
namespace Go.Proofs.Ytpapkofildcdiaa
open Go.RowKit

/-- is an operation's word to be kept over another one's run? not where it is spent (the one alone that wants it has run), nor where it comes behind that one -/
def keepsV (ops : Array Oper) (rem : List (Nat × Option Tmp)) (kill : Nat → List Nat) (i j : Nat) : Bool :=
  decide (i ≠ j) && !(kill j).contains i && (kill j).all (fun k => !reachN ops (rem.map (·.1)) (rem.length + 1) i k) && !reachN ops (rem.map (·.1)) (rem.length + 1) j i
/-- who wants it spends it, or it is not spent -/
def killOk (ops : Array Oper) (rem : List (Nat × Option Tmp)) (kill : Nat → List Nat) : Bool :=
  rem.all fun p => (depsOf ops rem p.1).all fun j => (kill j).all fun k => k == p.1
section
variable {P : Program} {ops : Array Oper} {Q : Exit → Act → World → Prop}
/-- wpAny_core2, with words that are spent -/
theorem wpAny_core3 (rem : List (Nat × Option Tmp)) (kill : Nat → List Nat) (R : World → Prop) (V : Nat → Value → World → Prop) (Stab : Nat → World → World → Prop) {listed0 : Array Bool} (listed1 : Array Bool) (hok : coreOk2 ops listed0 listed1 rem = true) (hkill : killOk ops rem kill = true)
    (stab : ∀ i j v w w', keepsV ops rem kill i j = true → V j v w → Stab i w w' → V j v w')
    {a0 : Act}
    (step : ∀ p ∈ rem, ∀ u w, R w → (∀ j ∈ depsOf ops rem p.1, V j (u j) w) → ∀ K : Act → World → Prop, (∀ v w', V p.1 v w' → R w' → Stab p.1 w w' → K ((putAll a0 rem u).put p.2 v) w') → wpOp P ops Q p.1 K (putAll a0 rem u) w)
    (n : Nat) (done : ∀ u w, R w → (∀ p ∈ rem, kill p.1 = [] → V p.1 (u p.1) w) → wpAny P .any ops Q n listed1 (putAll a0 rem u) w) {w0 : World} (hR : R w0) :
    wpAny P .any ops Q (rem.length + n) listed0 a0 w0 := by
  simp only [coreOk2, Bool.and_eq_true, decide_eq_true_eq] at hok
  obtain ⟨⟨⟨⟨⟨hn, hdn⟩, hsz⟩, hsz1⟩, hall⟩, hcomp⟩ := hok
  have hall := List.all_eq_true.1 hall
  have hcomp := List.all_eq_true.1 hcomp
  have hmem : ∀ i ∈ rem.map (·.1), listed0.getD i true = false ∧ i < ops.size := by
    intro i hi
    obtain ⟨p, hp, rfl⟩ := List.mem_map.1 hi
    have h1 := hall p hp
    have hlt : p.1 < ops.size := by
      rcases Nat.lt_or_ge p.1 ops.size with h | h
      · exact h
      · rw [Array.getElem?_eq_none h] at h1; simp at h1
    have := hcomp p.1 (List.mem_range.2 hlt)
    have hc : (rem.map (·.1)).contains p.1 = true := by simpa using hi
    rw [hc] at this
    simp only [if_true, Bool.and_eq_true, Bool.not_eq_true'] at this
    exact ⟨this.1, hlt⟩
  have hone : ∀ i ∈ rem.map (·.1), listed1.getD i true = true := by
    intro i hi
    have := hcomp i (List.mem_range.2 (hmem i hi).2)
    have hc : (rem.map (·.1)).contains i = true := by simpa using hi
    rw [hc] at this
    simp only [if_true, Bool.and_eq_true] at this
    exact this.2
  have hrest : ∀ i, i < ops.size → i ∉ rem.map (·.1) → listed1.getD i true = listed0.getD i true ∧ ((listed0.getD i true = true ∨ ∀ p ∈ rem, reachN ops (rem.map (·.1)) (rem.length + 1) i p.1 = true) ∨ ∃ o, ops[i]? = some o ∧ ∃ e ∈ o.after.toList, Region.binds .any e = true ∧ e.on < ops.size ∧ listed0.getD e.on true = false ∧ e.on ∉ rem.map (·.1)) := by
    intro i hi hni
    have := hcomp i (List.mem_range.2 hi)
    have hc : (rem.map (·.1)).contains i = false := by
      cases h : (rem.map (·.1)).contains i with
      | false => rfl
      | true => exact absurd (by simpa using h) hni
    rw [hc] at this
    simp only [Bool.false_eq_true, if_false, Bool.and_eq_true, beq_iff_eq, Bool.or_eq_true] at this
    refine ⟨this.1, ?_⟩
    rcases this.2 with (h | h) | h
    · exact .inl (.inl h)
    · exact .inl (.inr fun p hp => List.all_eq_true.1 h p hp)
    · right
      rw [Array.getElem?_eq_getElem hi] at h
      refine ⟨ops[i], Array.getElem?_eq_getElem hi, ?_⟩
      simp only [Array.any_toList.symm, List.any_eq_true, Bool.and_eq_true, decide_eq_true_eq, Bool.not_eq_true'] at h
      obtain ⟨e, he, ⟨⟨h1, h2⟩, h3⟩, h4⟩ := h
      exact ⟨e, he, h1, h2, h3, by simpa using h4⟩
  -- the invariant
  suffices H : ∀ k (listed : Array Bool) (u : Nat → Value) (w : World), listed.size = ops.size → R w → (∀ i, i < ops.size → i ∉ rem.map (·.1) → listed.getD i true = listed0.getD i true) →
      (∀ p ∈ rem, listed.getD p.1 true = true → (∀ k ∈ kill p.1, listed.getD k true = false) → V p.1 (u p.1) w) → (∀ p ∈ rem.map (·.1), listed.getD p true = true → ∀ o, ops[p]? = some o → ∀ e ∈ o.after.toList, Region.binds .any e = true → listed.getD e.on true = true) → openOf listed rem = k → wpAny P .any ops Q (k + n) listed (putAll a0 rem u) w by
    obtain ⟨u, hu⟩ := putAll_self a0 rem hn
    have hopen : openOf listed0 rem = rem.length := by
      unfold openOf
      rw [List.filter_eq_self.2]
      intro p hp
      simp [(hmem p.1 (List.mem_map.2 ⟨p, hp, rfl⟩)).1]
    have h := H rem.length listed0 u w0 hsz hR (fun i hi hni => rfl) (fun p hp hl _ => by
      have := (hmem p.1 (List.mem_map.2 ⟨p, hp, rfl⟩)).1
      rw [this] at hl
      cases hl) (fun p hp hl => by
      rw [(hmem p hp).1] at hl
      cases hl) hopen
    rwa [hu] at h
  intro k
  induction k with
  | zero =>
    intro listed u w hs hRw hout hV hcl hopen
    have hall' : ∀ p ∈ rem, listed.getD p.1 true = true := by
      intro p hp
      simp only [openOf, List.length_eq_zero_iff, List.filter_eq_nil_iff, Bool.not_eq_true', Bool.not_eq_false] at hopen
      exact hopen p hp
    have hl : listed = listed1 := by
      apply Array.ext
      · rw [hs, hsz1]
      · intro i h1 h2
        have : listed.getD i true = listed1.getD i true := by
          by_cases hr : i ∈ rem.map (·.1)
          · rw [hone i hr]
            obtain ⟨p, hp, rfl⟩ := List.mem_map.1 hr
            exact hall' p hp
          · rw [hout i (by omega) hr, (hrest i (by omega) hr).1]
        simpa [Array.getD, h1, h2] using this
    rw [hl, Nat.zero_add]
    exact done u w hRw (fun p hp hk => hV p hp (hall' p hp) (fun k h => by rw [hk] at h; cases h))
  | succ k ih =>
    intro listed u w hs hRw hout hV hcl hopen
    rw [Nat.add_right_comm]
    -- one of the list is not yet listed: none of the others is ready
    have hsome : ∃ p ∈ rem, listed.getD p.1 true = false := by
      have : (rem.filter fun p => !listed.getD p.1 true) ≠ [] := by
        intro h
        simp only [openOf, h, List.length_nil] at hopen
        omega
      obtain ⟨p, hp⟩ := List.exists_mem_of_ne_nil _ this
      obtain ⟨h1, h2⟩ := List.mem_filter.1 hp
      exact ⟨p, h1, by simpa using h2⟩
    have hno : ∀ i, i ∈ Region.ready .any ops listed → i ∈ rem.map (·.1) := by
      intro i hi
      obtain ⟨hi1, hi2⟩ := List.mem_filter.1 hi
      have hilt := List.mem_range.1 hi1
      simp only [Bool.and_eq_true] at hi2
      have hil : listed.getD i true = false := by simpa using hi2.1
      by_cases hr : i ∈ rem.map (·.1)
      · exact hr
      · exfalso
        obtain ⟨h1, h2⟩ := hrest i hilt hr
        rw [hout i hilt hr] at hil
        rcases h2 with (h2 | h2) | h2
        · rw [h2] at hil; cases hil
        rotate_left
        · obtain ⟨o, ho, e, he, hb, hsz2, hl0, hnr⟩ := h2
          have h3 := hi2.2
          rw [ho] at h3
          simp only [Option.map_some, Option.getD_some, Array.all_eq_true_iff_forall_mem] at h3
          have := h3 e (by simpa using he)
          rw [hb] at this
          simp only [Bool.not_true, Bool.false_or] at this
          have hlt : e.on < listed.size := by rw [hs]; exact hsz2
          have e1 : listed.getD e.on false = listed.getD e.on true := by simp only [Array.getD, hlt, dif_pos]
          rw [e1, hout e.on hsz2 hnr, hl0] at this
          cases this
        · obtain ⟨p, hp, hpl⟩ := hsome
          have := reach_listed hcl _ i (ready_deps hi2.2) p.1 (h2 p hp)
          rw [hpl] at this
          cases this
    constructor
    · intro hnil
      -- the least one that is not listed is ready
      exfalso
      have key : ∀ i, i < ops.size → i ∈ rem.map (·.1) → listed.getD i true = true := by
        intro i
        induction i using Nat.strongRecOn with
        | _ i ihi =>
          intro hi hr
          obtain ⟨p, hp, rfl⟩ := List.mem_map.1 hr
          have h1 := hall p hp
          cases hl : listed.getD p.1 true with
          | true => rfl
          | false =>
            exfalso
            have hready : p.1 ∈ Region.ready .any ops listed := by
              refine List.mem_filter.2 ⟨List.mem_range.2 hi, ?_⟩
              rw [Array.getElem?_eq_getElem hi] at h1 ⊢
              simp only [Bool.and_eq_true, beq_iff_eq] at h1
              simp only [hl, Bool.not_false, Option.map_some, Option.getD_some, Bool.true_and]
              rw [Array.all_eq_true_iff_forall_mem] at h1 ⊢
              intro e he
              have := h1.2 e he
              cases hb : Region.binds .any e with
              | false => rfl
              | true =>
                rw [hb] at this
                simp only [Bool.not_true, Bool.false_or, Bool.and_eq_true, decide_eq_true_eq, Bool.or_eq_true] at this
                have hlt : e.on < listed.size := by rw [hs]; omega
                have hh : listed.getD e.on true = true := by
                  rcases this.2 with h | h
                  · exact ihi e.on this.1 (by omega) (by simpa using h)
                  · by_cases hr' : e.on ∈ rem.map (·.1)
                    · exact ihi e.on this.1 (by omega) hr'
                    · rw [hout e.on (by omega) hr']; exact h
                simp only [Array.getD, hlt, dif_pos] at hh ⊢
                simpa using hh
            rw [hnil] at hready
            cases hready
      obtain ⟨p, hp, hpl⟩ := hsome
      have := key p.1 (hmem p.1 (List.mem_map.2 ⟨p, hp, rfl⟩)).2 (List.mem_map.2 ⟨p, hp, rfl⟩)
      rw [this] at hpl
      cases hpl
    · intro i hi
      have hir := hno i hi
      obtain ⟨hi1, hi2⟩ := List.mem_filter.1 hi
      have hilt := List.mem_range.1 hi1
      simp only [Bool.and_eq_true] at hi2
      have hil : listed.getD i true = false := by simpa using hi2.1
      obtain ⟨p, hp, rfl⟩ := List.mem_map.1 hir
      refine step p hp u w hRw ?_ _ ?_
      · intro j hj
        rw [depsOf, Array.getElem?_eq_getElem hilt] at hj
        obtain ⟨e, he, rfl⟩ := List.mem_map.1 hj
        obtain ⟨he1, he2⟩ := List.mem_filter.1 he
        simp only [Bool.and_eq_true] at he2
        have hjr : e.on ∈ rem.map (·.1) := by simpa using he2.2
        obtain ⟨q, hq, hqe⟩ := List.mem_map.1 hjr
        have hjd : e.on ∈ depsOf ops rem p.1 := by
          rw [depsOf, Array.getElem?_eq_getElem hilt]
          exact List.mem_map.2 ⟨e, he, rfl⟩
        have hkj : ∀ k ∈ kill q.1, listed.getD k true = false := by
          intro k hk
          rw [hqe] at hk
          have h9 := List.all_eq_true.1 (List.all_eq_true.1 (List.all_eq_true.1 hkill p hp) e.on hjd) k hk
          obtain rfl : k = p.1 := by simpa using h9
          exact hil
        rw [← hqe]
        refine hV q hq ?_ hkj
        have h3 := hi2.2
        rw [Array.getElem?_eq_getElem hilt] at h3
        simp only [Option.map_some, Option.getD_some, Array.all_eq_true_iff_forall_mem] at h3
        have := h3 e (by simpa using he1)
        rw [he2.1] at this
        simp only [Bool.not_true, Bool.false_or] at this
        rw [hqe]
        have hlt : e.on < listed.size := by rw [hs, ← hqe]; exact (hmem q.1 (List.mem_map.2 ⟨q, hq, rfl⟩)).2
        simp only [Array.getD, hlt, dif_pos] at this ⊢
        simpa using this
      · intro v w' hv hR' hst
        have hpp : (p.1, p.2) ∈ rem := hp
        rw [putAll_upd a0 p.1 p.2 u v rem hn hdn hpp]
        have hset : ∀ j, (listed.setIfInBounds p.1 true).getD j true = if j = p.1 then true else listed.getD j true := by
          intro j
          simp only [Array.getD_eq_getD_getElem?, Array.getElem?_setIfInBounds]
          by_cases hj : p.1 = j
          · subst hj
            simp
            split <;> simp
          · rw [if_neg hj, if_neg (Ne.symm hj)]
        refine ih _ _ _ (by simpa using hs) hR' ?_ ?_ ?_ ?_
        · intro j hj hjr
          have hjp : ¬ j = p.1 := fun e => hjr (by rw [e]; exact List.mem_map.2 ⟨p, hp, rfl⟩)
          rw [hset, if_neg hjp]
          exact hout j hj hjr
        · intro q hq hql hkq
          rw [hset] at hql
          by_cases he : q.1 = p.1
          · rw [he]
            simpa [upd] using hv
          · rw [if_neg he] at hql
            simp only [upd, if_neg he]
            have hk1 : ∀ k ∈ kill q.1, k ≠ p.1 ∧ listed.getD k true = false := by
              intro k hk
              have h9 := hkq k hk
              rw [hset] at h9
              by_cases hkp : k = p.1
              · rw [if_pos hkp] at h9; cases h9
              · rw [if_neg hkp] at h9; exact ⟨hkp, h9⟩
            refine stab p.1 q.1 _ _ _ ?_ (hV q hq hql fun k hk => (hk1 k hk).2) hst
            unfold keepsV
            simp only [Bool.and_eq_true, decide_eq_true_eq, Bool.not_eq_true']
            refine ⟨⟨⟨Ne.symm he, ?_⟩, List.all_eq_true.2 fun k hk => ?_⟩, ?_⟩
            · cases hc : (kill q.1).contains p.1 with
              | false => rfl
              | true => exact absurd rfl (hk1 p.1 (by simpa using hc)).1
            · cases hc : reachN ops (rem.map (·.1)) (rem.length + 1) p.1 k with
              | false => rfl
              | true =>
                have h5 := reach_listed hcl _ p.1 (ready_deps hi2.2) k hc
                rw [(hk1 k hk).2] at h5
                cases h5
            · cases hc : reachN ops (rem.map (·.1)) (rem.length + 1) q.1 p.1 with
              | false => rfl
              | true =>
                have h5 := reach_listed hcl _ q.1 (hcl q.1 (List.mem_map.2 ⟨q, hq, rfl⟩) hql) p.1 hc
                rw [hil] at h5
                cases h5
        · intro q hq hql o ho e he hb
          rw [hset]
          split
          · rfl
          · rw [hset] at hql
            by_cases hqp : q = p.1
            · subst hqp
              exact ready_deps hi2.2 o ho e he hb
            · rw [if_neg hqp] at hql
              exact hcl q hq hql o ho e he hb
        · have hlt : openOf (listed.setIfInBounds p.1 true) rem + 1 = openOf listed rem := by
            unfold openOf
            have h1 : ∀ (qs : List (Nat × Option Tmp)), (qs.map (·.1)).Nodup → p ∈ qs → (qs.filter fun q => !(listed.setIfInBounds p.1 true).getD q.1 true).length + 1 = (qs.filter fun q => !listed.getD q.1 true).length := by
              intro qs hqn hpq
              have heq : ∀ (rs : List (Nat × Option Tmp)), p.1 ∉ rs.map (·.1) → (rs.filter fun q => !(listed.setIfInBounds p.1 true).getD q.1 true) = (rs.filter fun q => !listed.getD q.1 true) := by
                intro rs hrs
                refine List.filter_congr fun q hq => ?_
                have hne : q.1 ≠ p.1 := fun e => hrs (e ▸ List.mem_map.2 ⟨q, hq, rfl⟩)
                rw [hset, if_neg hne]
              induction qs with
              | nil => cases hpq
              | cons r rs ihr =>
                rcases List.mem_cons.1 hpq with rfl | hpq'
                · have := heq rs (List.nodup_cons.1 hqn).1
                  rw [List.filter_cons, List.filter_cons, this, hset, if_pos rfl, hil]
                  simp
                · have ih2 := ihr (List.nodup_cons.1 hqn).2 hpq'
                  have hne : r.1 ≠ p.1 := by
                    intro e
                    exact (List.nodup_cons.1 hqn).1 (List.mem_map.2 ⟨p, hpq', e.symm⟩)
                  rw [List.filter_cons, List.filter_cons, hset, if_neg hne]
                  split <;> (try simp only [List.length_cons]) <;> omega
            exact h1 rem hn hp
          omega
end
theorem VF.stab1 {f : Nat → Option Value} {g : Nat → Value → World → Prop} {j : Nat} {v : Value} {w w' : World} (h : f j = none → g j v w → g j v w') (hv : VF f g j v w) : VF f g j v w' := by
  unfold VF at hv ⊢
  cases hf : f j with
  | none => rw [hf] at hv; exact h hf hv
  | some c => rw [hf] at hv; exact hv
end Go.Proofs.Ytpapkofildcdiaa
