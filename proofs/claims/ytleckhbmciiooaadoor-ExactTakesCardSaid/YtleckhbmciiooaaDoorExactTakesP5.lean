/-
  The document's values for tours: Small, Cost, Best at kind 3; the document's Best and Answers for tours.
  exact.Best, of all problems; what the document's Cost says to an answer.
  The assignment's example: two rows, two columns.
  Assignments as squares of numbers: in form, copied, solved.
  From the condition that the table of the lowest bits is as it was laid to the table's cells.
-/
import Derived.Test.YtleckhbmciiooaaDoorExactTakesP4
import Derived.LaidMore
import Derived.Lay
import Derived.SevenTiedAt
import Derived.Stop.Joined
import Derived.Test.YtleckhbmciiooaaDoorRows
namespace Go.Proofs.YtleckhbmciiooaaDoor
open Go.RowKit Go.ChangeShapes Go.WideShapes Go.ChangeAt Go.Deep

set_option maxRecDepth 100000 in
set_option maxHeartbeats 8000000 in
theorem cost3_any (i : InstP) (us : List Value) (P : Option Addr) (c : Nat) (q : List Nat) (w : World) (H : RInst w us i) (hc : checkP i = 0) (hk : i.kind = 3) (hP : RdI w P (intsN (0 :: q))) (hl : (0 :: q).Perm (List.range i.cost.length)) :
    Calls Tryd.prog 34 #[.agg (List.toArray us), .slice P i.cost.length c] w fun e w' => e = .returned (.tuple #[.int .i64 (pathT i.cost 0 q), .int .i64 0]) ∧ Ext w w' := by
  have CH := fun (W : World) (x : Ext w W) => rcheck_any i us W (H.ext x)
  rw [hc] at CH
  have sq := square_ok hc (by omega)
  have rok := rows_ok sq
  have hnn : i.n = (i.cost.length : Int) := sq.len.symm
  have PE := fun (W : World) (x : Ext w W) => perm_yes P c i.cost.length (0 :: q) W (hP.ext x) hl (by have := rok.n2; omega)
  have hlt : Hid (∀ x ∈ 0 :: q, x < i.cost.length) := fun x hx => List.mem_range.1 (hl.mem_iff.1 hx)
  have hlen : Hid ((0 :: q).length = i.cost.length) := by
    have h : (0 :: q).length = i.cost.length := by rw [hl.length_eq, List.length_range]
    exact h
  have n24 := rok.n2
  have n1 := rok.n1
  clear hl hc sq
  obtain ⟨kind, nn, cap, xw, xv, co⟩ := i
  obtain ⟨A, a, B, b, D, d, rfl, -, -, ⟨hC, -, -⟩⟩ := H
  simp only at *
  subst hk hnn
  obtain ⟨cb, cof, _, _, _, rfl, _, _⟩ := cost_at rok hC (r := 0) (c := 0) (by omega) (by omega)
  have num := ends_num rok
  have CA := Lib.hid (fun (W : World) (x : Ext w W) (r c : Nat) (hr : r < co.length) (hc : c < co.length) => cost_in rok (hC.ext x fun _ _ h => h.ext x) hr hc)
  obtain ⟨tot, htot⟩ : ∃ tot, Hid (pathT co 0 q = tot) := ⟨_, rfl⟩
  rw [htot.out]
  have bt : 0 ≤ tot ∧ tot ≤ 2147483647 * 24 := by
    have h1 := pathT_bd num q 0 (by omega) fun x hx => hlt.out x (by simp [hx])
    have h2 := hlen.out
    rw [List.length_cons] at h2
    rw [htot.out] at h1
    omega
  have START : Hid ((0 : Int) + restW co ((0 :: q).drop 0) = tot) := by
    have h : (0 : Int) + restW co ((0 :: q).drop 0) = tot := by rw [← htot.out]; simp [restW]
    exact h
  obtain ⟨l, hll⟩ : ∃ l, Hid (0 :: q = l) := ⟨_, rfl⟩
  have h00 : Hid (l[0]? = some 0) := by
    have h : l[0]? = some 0 := by rw [← hll.out]; rfl
    exact h
  rw [hll.out] at hP hlt hlen START
  obtain ⟨pb, po, x0, rfl, zp0, cp0, ep0, _⟩ := hP.at (k := 0) (by rw [intsN_len, hlen.out]; omega)
  obtain rfl : x0 = 0 := by
    have h := ep0.out
    rw [intsN_get h00.out] at h
    exact (Option.some.inj h).symm
  replace cp0 : w.cell? ⟨pb, po, none⟩ = some (.int .i64 0) := cp0
  have DR : Hid (∀ k, k < co.length → ∃ u, l[k]? = some u ∧ u < co.length ∧ l.drop k = u :: l.drop (k + 1)) := fun k hk => by
    have h : k < l.length := by rw [hlen.out]; exact hk
    exact ⟨l[k], List.getElem?_eq_getElem h, hlt.out _ (List.getElem_mem h), List.drop_eq_getElem_cons h⟩
  replace CH := Lib.hid CH
  replace PE := Lib.hid PE
  replace hP := Lib.hid hP
  replace hC := Lib.hid hC
  replace rok := Lib.hid rok
  replace num := Lib.hid num
  have B1 : Hid (Blk (w.alloc (.cells #[.int .i64 3, .int .i64 co.length, .int .i64 cap, .slice A xw.length a, .slice B xv.length b, .slice (some ⟨cb, cof, none⟩) co.length d] 25)) w.heap.size 25 #[.int .i64 3, .int .i64 co.length, .int .i64 cap, .slice A xw.length a, .slice B xv.length b, .slice (some ⟨cb, cof, none⟩) co.length d]) := .new rfl
  have q00 : (0 : Int) < (co.length : Int) := by omega
  clear ep0
  go_enter Tryd.func34, Tryd.ntmps34
  go_wp2_with (fail)
  refine (CH.out _ (by (repeat (first | assumption | exact Ext.rf _ | apply Ext.drew | apply Ext.drewN | apply Ext.alloc)))).mono ?_
  rintro e w1 ⟨rfl, x1⟩
  have X1 := Lib.hid (Ext.tr (a := w) (by (repeat (first | assumption | exact Ext.rf _ | apply Ext.drew | apply Ext.drewN | apply Ext.alloc))) x1)
  have BB := Lib.hid (B1.out.ext x1)
  have d0 : w1.cell? ⟨w.heap.size, 0, none⟩ = some (.int .i64 3) := BB.out.cell 0
  have d1 : w1.cell? ⟨w.heap.size, 1, none⟩ = some (.int .i64 co.length) := BB.out.cell 1
  clear x1
  go_wp2_with (fail)
  refine (PE.out _ X1.out).mono ?_
  rintro e w2 ⟨rfl, x2⟩
  have X2 := Lib.hid (X1.out.tr x2)
  have BC := Lib.hid (BB.out.ext x2)
  have e0 : w2.cell? ⟨w.heap.size, 0, none⟩ = some (.int .i64 3) := BC.out.cell 0
  have e2 : w2.cell? ⟨pb, po, none⟩ = some (.int .i64 0) := keepEL X2.out zp0 cp0
  clear x2 d0 d1 BB
  go_wp2_with (fail)
  go_loopw [8, 7] (fun v s wr => ∃ (k : Nat) (su : Int), v = .int .i64 k ∧ s = .int .i64 su ∧ k ≤ co.length ∧ Hid (0 ≤ su ∧ su + restW co (l.drop k) = tot) ∧ Hid (Ext w2 wr)) (fun v _ _ => co.length - (intOf v).toNat)
  case atStart => exact ⟨0, 0, rfl, rfl, by omega, by exact (show (0 : Int) ≤ 0 ∧ (0 : Int) + restW co (l.drop 0) = tot from ⟨by omega, START.out⟩), Ext.rf _⟩
  case round =>
    obtain ⟨wo, rfl⟩ : ∃ wo : World, wo = wr := ⟨_, rfl⟩
    obtain ⟨k, su, rfl, rfl, hk, HS, Y⟩ := hrel
    have d0 : wo.cell? ⟨w.heap.size, 0, none⟩ = some (.int .i64 3) := (BC.out.ext Y.out).cell 0
    have d1 : wo.cell? ⟨w.heap.size, 1, none⟩ = some (.int .i64 co.length) := (BC.out.ext Y.out).cell 1
    have d5 : wo.cell? ⟨w.heap.size, 5, none⟩ = some (.slice (some ⟨cb, cof, none⟩) co.length d) := (BC.out.ext Y.out).cell 5
    have XW := Lib.hid (X2.out.tr Y.out)
    clear e0 e2 START
    by_cases hkl : k < co.length
    · obtain ⟨u, ek, hun, edr⟩ := DR.out k hkl
      obtain ⟨pb', po', xu, hPq, zpk, cpk, epk, _⟩ := (hP.out.ext XW.out).at (k := k) (by rw [intsN_len, hlen.out]; exact hkl)
      obtain ⟨rfl, rfl⟩ : pb = pb' ∧ po = po' := by simpa using hPq
      obtain rfl : xu = (u : Int) := by
        have h := epk.out
        rw [intsN_get ek] at h
        exact (Option.some.inj h).symm
      have HS1 := HS.out
      rw [edr] at HS1
      have q1 : (k : Int) < (co.length : Int) := by omega
      have q2 : (u : Int) < (co.length : Int) := by omega
      have hw0 : IntKind.i64.wrap ((k : Int) + 1) = (k : Int) + 1 := IntWalk.i64_in _ (by omega)
      clear ek edr hPq epk HS
      by_cases hlast : k + 1 = co.length
      · have e1 : l.drop (k + 1) = [] := List.drop_of_length_le (by rw [hlen.out]; omega)
        rw [e1] at HS1
        obtain ⟨rb, ro, d', c1, c2⟩ := CA.out _ XW.out u 0 hun (by omega)
        have nu := num.out u 0 hun (by omega)
        obtain ⟨y, hy⟩ : ∃ y, Hid (costAt co u 0 = y) := ⟨_, rfl⟩
        simp only [restW, pathT] at HS1
        rw [hy.out] at c2 nu HS1
        replace c2 : wo.cell? ⟨rb, ro, none⟩ = some (.int .i64 y) := c2
        have hrem : ((k : Int) + 1).tmod (co.length : Int) = 0 := by
          have h : (k : Int) + 1 = (co.length : Int) := by omega
          rw [h, Int.tmod_self]
        have hw1 : IntKind.i64.wrap 0 = 0 := IntWalk.i64_in _ (by omega)
        have hw : IntKind.i64.wrap (su + y) = su + y := IntWalk.i64_in _ (by omega)
        have p0 : wo.cell? ⟨pb, po, none⟩ = some (.int .i64 0) := keepEL XW.out zp0 cp0
        have NEW : Hid (0 ≤ su + y ∧ su + y + restW co (l.drop (k + 1)) = tot) := by
          have h : 0 ≤ su + y ∧ su + y + restW co (l.drop (k + 1)) = tot := by
            rw [e1]
            simp only [restW]
            omega
          exact h
        have hnz : ((co.length : Int) == 0) = false := by rw [beq_eq_false_iff_ne]; omega
        clear HS1 e1
        replace hlast := Lib.hid hlast
        go_wp2_with (fail)
        go_quiet (fail)
        go_wp2_with (fail)
        go_roundw
        case rel => exact ⟨k + 1, su + y, by go_num, rfl, by omega, NEW, Y.out.drewN _⟩
        case measure => simp [intOf]; omega
      · have hk1 : k + 1 < co.length := by omega
        obtain ⟨v, ek1, hvn, edr1⟩ := DR.out (k + 1) hk1
        obtain ⟨pb', po', xu, hPq, zpk1, cpk1, epk1, _⟩ := (hP.out.ext XW.out).at (k := k + 1) (by rw [intsN_len, hlen.out]; exact hk1)
        obtain ⟨rfl, rfl⟩ : pb = pb' ∧ po = po' := by simpa using hPq
        obtain rfl : xu = (v : Int) := by
          have h := epk1.out
          rw [intsN_get ek1] at h
          exact (Option.some.inj h).symm
        rw [edr1] at HS1
        obtain ⟨rb, ro, d', c1, c2⟩ := CA.out _ XW.out u v hun hvn
        have nu := num.out u v hun hvn
        obtain ⟨y, hy⟩ : ∃ y, Hid (costAt co u v = y) := ⟨_, rfl⟩
        simp only [restW, pathT] at HS1
        rw [hy.out] at c2 nu HS1
        have hpp := (pathT_bd num.out (l.drop (k + 1 + 1)) v hvn fun x hx => hlt.out x (List.mem_of_mem_drop hx)).1
        have hrem : ((k : Int) + 1).tmod (co.length : Int) = ((k + 1 : Nat) : Int) := by
          rw [Int.tmod_eq_emod_of_nonneg (by omega), Int.emod_eq_of_lt (by omega) (by omega)]
          omega
        have hw1 : IntKind.i64.wrap ((k + 1 : Nat) : Int) = ((k + 1 : Nat) : Int) := IntWalk.i64_in _ (by omega)
        have hw : IntKind.i64.wrap (su + y) = su + y := IntWalk.i64_in _ (by omega)
        have NEW : Hid (0 ≤ su + y ∧ su + y + restW co (l.drop (k + 1)) = tot) := by
          have h : 0 ≤ su + y ∧ su + y + restW co (l.drop (k + 1)) = tot := by
            rw [edr1]
            simp only [restW]
            omega
          exact h
        have q3 : (v : Int) < (co.length : Int) := by omega
        have q4 : ((k + 1 : Nat) : Int) < (co.length : Int) := by omega
        have hnz : ((co.length : Int) == 0) = false := by rw [beq_eq_false_iff_ne]; omega
        clear HS1 edr1 ek1 hPq epk1 hpp
        replace hlast := Lib.hid hlast
        go_wp2_with (fail)
        go_quiet (fail)
        go_wp2_with (fail)
        go_roundw
        case rel => exact ⟨k + 1, su + y, by go_num, rfl, by omega, NEW, Y.out.drewN _⟩
        case measure => simp [intOf]; omega
    · have q1 : ¬ (k : Int) < (co.length : Int) := by omega
      have HS2 : Hid (su = tot) := by
        have h := HS.out.2
        rw [List.drop_of_length_le (by rw [hlen.out]; omega)] at h
        simp only [restW] at h
        have h2 : su = tot := by omega
        exact h2
      go_wp2_with (fail)
      go_ret2
      rw [HS2.out]
      exact ⟨rfl, XW.out⟩
end Go.Proofs.YtleckhbmciiooaaDoor
namespace Go.Proofs.YtleckhbmciiooaaDoor
open Go.RowKit Go.ChangeShapes Go.WideShapes Go.ChangeAt Go.Deep

theorem check_kind {i : InstP} (h : checkP i = 0) : i.kind = 1 ∨ i.kind = 2 ∨ i.kind = 3 := by
  unfold checkP at h
  by_cases hs : sizeP i.kind i.n = 0
  · exact sizeP_kind hs
  · rw [if_neg hs] at h
    exact absurd h hs
theorem rtakes_kind {i : InstP} : rtakesP i 0 = if i.kind = 2 then takesP i 2 else if i.kind = 3 then takesP i 3 else if checkP i ≠ 0 then checkP i else takesP i 1 := by
  unfold rtakesP takesP
  by_cases hc : checkP i = 0
  · rcases check_kind hc with h | h | h <;> simp [hc, h]
  · by_cases h2 : i.kind = 2
    · simp [hc, h2]
    · by_cases h3 : i.kind = 3 <;> simp [hc, h2, h3]
set_option maxRecDepth 100000 in
set_option maxHeartbeats 1000000 in
theorem best_ex (i : InstP) (us : List Value) (w : World) (H : RInst w us i) (lw : i.weight.length ≤ 1000000000) (lv : i.value.length ≤ 1000000000) (hT : Tab w) :
    Calls Tryd.prog 12 #[.agg (List.toArray us)] w (ExPost i (rtakesP i 0) w) := by
  have CH := fun (W : World) (x : Ext w W) => check_any i us W (H.ext x) lw lv
  have KX := fun (W : World) (x : Ext w W) => knap_ex i us W (H.ext x) lw lv (hT.ext x)
  have AX := fun (W : World) (x : Ext w W) => asg_ex i us W (H.ext x) lw lv
  have TX := fun (W : World) (x : Ext w W) => tour_ex i us W (H.ext x) lw lv
  have RK := rtakes_kind (i := i)
  have PK : ∀ (t : Int) (W W' : World) (e : Ending), Ext w W → ExPost i t W e W' → ∃ A n c v r, e = .returned (.tuple #[.slice A n c, .int .i64 v, .int .i64 r]) ∧ (∀ W2, Ext W' W2 → ExPost i t w e W2) := by
    rintro t W W' e X (⟨h, rfl, x⟩ | ⟨h, A, xs, c, v, rfl, h1, h2, h3, h4, x⟩)
    · exact ⟨none, 0, 0, 0, t, rfl, fun W2 y => .inl ⟨h, rfl, (X.tr x).tr y⟩⟩
    · exact ⟨A, xs.length, c, v, 0, rfl, fun W2 y => .inr ⟨h, A, xs, c, v, rfl, h1.ext y, h2, h3, h4, (X.tr x).tr y⟩⟩
  generalize rtakesP i 0 = t0 at *
  obtain ⟨t1, ht1⟩ : ∃ t1, Hid (takesP i 1 = t1) := ⟨_, rfl⟩
  obtain ⟨t2, ht2⟩ : ∃ t2, Hid (takesP i 2 = t2) := ⟨_, rfl⟩
  obtain ⟨t3, ht3⟩ : ∃ t3, Hid (takesP i 3 = t3) := ⟨_, rfl⟩
  obtain ⟨cc, hcc⟩ : ∃ cc, Hid (checkP i = cc) := ⟨_, rfl⟩
  rw [ht1.out] at KX
  rw [ht2.out] at AX
  rw [ht3.out] at TX
  rw [hcc.out] at CH
  rw [ht1.out, ht2.out, ht3.out, hcc.out] at RK
  obtain ⟨P, hP⟩ : ∃ P : Int → World → Ending → World → Prop, P = ExPost i := ⟨_, rfl⟩
  rw [← hP] at KX AX TX PK ⊢
  have BAD : Hid (∀ t W, t ≠ 0 → Ext w W → P t w (.returned (.tuple #[.slice none 0 0, .int .i64 0, .int .i64 t])) W) := fun t W h x => by rw [hP]; exact .inl ⟨h, rfl, x⟩
  clear ht1 ht2 ht3 hcc hP lw lv hT
  obtain ⟨kind, nn, cap, xw, xv, co⟩ := i
  obtain ⟨A, a, B, b, D, d, rfl, -, -, -⟩ := H
  simp only at *
  have B1 : Hid (Blk (w.alloc (.cells #[.int .i64 kind, .int .i64 nn, .int .i64 cap, .slice A xw.length a, .slice B xv.length b, .slice D co.length d] 25)) w.heap.size 25 #[.int .i64 kind, .int .i64 nn, .int .i64 cap, .slice A xw.length a, .slice B xv.length b, .slice D co.length d]) := .new rfl
  replace CH := Lib.hid CH
  replace KX := Lib.hid KX
  replace AX := Lib.hid AX
  replace TX := Lib.hid TX
  replace PK := Lib.hid PK
  go_enter Tryd.func12, Tryd.ntmps12
  by_cases h2 : kind = 2
  · rw [if_pos h2] at RK
    subst RK
    have e2 : (kind == 2) = true := by simpa using h2
    clear h2
    go_wp2_with (fail)
    refine (AX.out _ (by (repeat (first | assumption | exact Ext.rf _ | apply Ext.drew | apply Ext.drewN | apply Ext.alloc)))).mono ?_
    intro e w1 hp
    obtain ⟨A9, n9, c9, v9, r9, rfl, hq⟩ := PK.out _ _ _ _ (by (repeat (first | assumption | exact Ext.rf _ | apply Ext.drew | apply Ext.drewN | apply Ext.alloc))) hp
    replace hq := Lib.hid hq
    clear hp
    go_wp2_with (fail)
    go_ret3
    exact hq.out _ (by (repeat (first | assumption | exact Ext.rf _ | apply Ext.drew | apply Ext.drewN | apply Ext.alloc)))
  · rw [if_neg h2] at RK
    have e2 : (kind == 2) = false := by simpa using h2
    clear h2
    by_cases h3 : kind = 3
    · rw [if_pos h3] at RK
      subst RK
      have e3 : (kind == 3) = true := by simpa using h3
      clear h3
      go_wp2_with (fail)
      refine (TX.out _ (by (repeat (first | assumption | exact Ext.rf _ | apply Ext.drew | apply Ext.drewN | apply Ext.alloc)))).mono ?_
      intro e w1 hp
      obtain ⟨A9, n9, c9, v9, r9, rfl, hq⟩ := PK.out _ _ _ _ (by (repeat (first | assumption | exact Ext.rf _ | apply Ext.drew | apply Ext.drewN | apply Ext.alloc))) hp
      replace hq := Lib.hid hq
      clear hp
      go_wp2_with (fail)
      go_ret3
      exact hq.out _ (by (repeat (first | assumption | exact Ext.rf _ | apply Ext.drew | apply Ext.drewN | apply Ext.alloc)))
    · rw [if_neg h3] at RK
      have e3 : (kind == 3) = false := by simpa using h3
      clear h3
      replace RK := Lib.hid RK
      go_wp2_with (fail)
      refine (CH.out _ (by (repeat (first | assumption | exact Ext.rf _ | apply Ext.drew | apply Ext.drewN | apply Ext.alloc)))).mono ?_
      rintro e w1 ⟨rfl, x1⟩
      replace RK := RK.out
      have X1 := Lib.hid (Ext.tr (a := w) (by (repeat (first | assumption | exact Ext.rf _ | apply Ext.drew | apply Ext.drewN | apply Ext.alloc))) x1)
      have b1 := Lib.hid (B1.out.ext x1)
      by_cases hc : cc = 0
      · rw [if_neg (by simpa using hc)] at RK
        subst RK hc
        have y0 : w1.cell? ⟨w.heap.size, 0, none⟩ = some (.int .i64 kind) := b1.out.cell 0
        have y1 : w1.cell? ⟨w.heap.size, 1, none⟩ = some (.int .i64 nn) := b1.out.cell 1
        have y2 : w1.cell? ⟨w.heap.size, 2, none⟩ = some (.int .i64 cap) := b1.out.cell 2
        have y3 : w1.cell? ⟨w.heap.size, 3, none⟩ = some (.slice A xw.length a) := b1.out.cell 3
        have y4 : w1.cell? ⟨w.heap.size, 4, none⟩ = some (.slice B xv.length b) := b1.out.cell 4
        have y5 : w1.cell? ⟨w.heap.size, 5, none⟩ = some (.slice D co.length d) := b1.out.cell 5
        clear x1 B1
        go_wp2_with (fail)
        refine (KX.out _ (X1.out.tr (by (repeat (first | assumption | exact Ext.rf _ | apply Ext.drew | apply Ext.drewN | apply Ext.alloc))))).mono ?_
        intro e w2 hp
        obtain ⟨A9, n9, c9, v9, r9, rfl, hq⟩ := PK.out _ _ _ _ (X1.out.tr (by (repeat (first | assumption | exact Ext.rf _ | apply Ext.drew | apply Ext.drewN | apply Ext.alloc)))) hp
        replace hq := Lib.hid hq
        clear hp y0 y1 y2 y3 y4 y5
        go_wp2_with (fail)
        go_ret3
        exact hq.out _ (by (repeat (first | assumption | exact Ext.rf _ | apply Ext.drew | apply Ext.drewN | apply Ext.alloc)))
      · rw [if_pos hc] at RK
        subst RK
        have e4 : (t0 != 0) = true := by simpa using hc
        clear x1 B1
        replace hc := Lib.hid hc
        go_wp2_with (fail)
        go_ret3
        exact BAD.out _ _ hc.out (X1.out.tr (by (repeat (first | assumption | exact Ext.rf _ | apply Ext.drew | apply Ext.drewN | apply Ext.alloc))))
/-- what the document's Cost says to a best answer -/
theorem takenL_xB (n m : Nat) (ws : List Int) (h : ws.length = n) : takenL (xB m n) ws = sumB (atF ws) n m := by
  unfold takenL
  rw [sumZip_range _ _ _ (by rw [xB_len, h]), xB_len]
  unfold sumB
  congr 1
  refine List.map_congr_left fun j hj => ?_
  have hj' := List.mem_range.1 hj
  rw [getD_some (xB_get hj')]
  unfold atF
  by_cases hb : m.testBit j = true <;> simp [hb]
theorem leftL_xB (n m : Nat) (vs : List Int) (h : vs.length = n) : leftL (xB m n) vs = sumN (atF vs) n m := by
  unfold leftL
  rw [sumZip_range _ _ _ (by rw [xB_len, h]), xB_len]
  unfold sumN
  congr 1
  refine List.map_congr_left fun j hj => ?_
  have hj' := List.mem_range.1 hj
  rw [getD_some (xB_get hj')]
  unfold atF
  by_cases hb : m.testBit j = true <;> simp [hb]
theorem rcost_ok (i : InstP) (us : List Value) (P : Option Addr) (c : Nat) (x : List Int) (v : Int) (w : World) (H : RInst w us i) (hc : checkP i = 0) (hP : RdI w P x) (ha : AnsOk i x v) :
    Calls Tryd.prog 34 #[.agg (List.toArray us), .slice P x.length c] w fun e w' => e = .returned (.tuple #[.int .i64 v, .int .i64 0]) ∧ Ext w w' := by
  rcases ha with ⟨hk, n, m, hn, rfl, h1, h2, rfl, -⟩ | ⟨hk, l, rfl, h1, rfl, -⟩ | ⟨hk, q, rfl, h1, rfl, -⟩
  · have ok := knap_ok hc hk
    refine (rcost_any i us P c _ w H hc hk hP (by rw [xB_len, hn]) (fun y hy => ?_)).mono ?_
    · unfold xB at hy
      obtain ⟨j, _, rfl⟩ := List.mem_map.1 hy
      split <;> simp
    · rintro e w' ⟨rfl, x⟩
      refine ⟨?_, x⟩
      have hw : i.weight.length = n := by have := ok.w; omega
      have hv : i.value.length = n := by have := ok.v; omega
      unfold costP
      rw [takenL_xB n m _ hw, leftL_xB n m _ hv, if_neg (by omega)]
      rfl
  · have hl : (intsN l).length = i.cost.length := by rw [intsN_len, h1.length_eq, List.length_range]
    rw [hl]
    exact cost2_any i us P c l w H hc hk hP h1
  · have hl : (intsN (0 :: q)).length = i.cost.length := by rw [intsN_len, h1.length_eq, List.length_range]
    rw [hl]
    exact cost3_any i us P c q w H hc hk hP h1
end Go.Proofs.YtleckhbmciiooaaDoor
namespace Go.Proofs.YtleckhbmciiooaaDoor
open Go.RowKit Go.ChangeShapes Go.WideShapes Go.ChangeAt Go.Deep

def exA : InstP := ⟨2, 2, 0, [], [], [[1, 2], [3, 9]]⟩
theorem exA_check : checkP exA = 0 := by decide
theorem row_blk {w : World} {b : Nat} {x y : Int} {c : Nat} (h : Blk w b 3 #[.int .i64 x, .int .i64 y]) (hx : -9223372036854775808 ≤ x ∧ x ≤ 9223372036854775807) (hy : -9223372036854775808 ≤ y ∧ y ≤ 9223372036854775807) (hc : 2 ≤ c) (hm : c ≤ maxLen) : RInts w [.slice (some ⟨b, 0, none⟩) 2 c] [x, y] :=
  ⟨some ⟨b, 0, none⟩, c, rfl, .blk h rfl, by intro z hz; simp at hz; rcases hz with rfl | rfl <;> assumption, hc, hm⟩
theorem exA_rinst (w : World) : RInst (((w.alloc (.cells #[.int .i64 1, .int .i64 2] 3)).alloc (.cells #[.int .i64 3, .int .i64 9] 3)).alloc (.cells #[.slice (some ⟨w.heap.size, 0, none⟩) 2 2, .slice (some ⟨w.heap.size + 1, 0, none⟩) 2 2] 22)) [.int .i64 2, .int .i64 2, .int .i64 0, .slice none 0 0, .slice none 0 0, .slice (some ⟨w.heap.size + 1 + 1, 0, none⟩) 2 2] exA := by
  have hz : 2 ≤ maxLen := by simp [maxLen]
  have b0 : Blk (((w.alloc (.cells #[.int .i64 1, .int .i64 2] 3)).alloc (.cells #[.int .i64 3, .int .i64 9] 3)).alloc (.cells #[.slice (some ⟨w.heap.size, 0, none⟩) 2 2, .slice (some ⟨w.heap.size + 1, 0, none⟩) 2 2] 22)) w.heap.size 3 #[.int .i64 1, .int .i64 2] := .alloc (.alloc (.new rfl) _) _
  have b1 : Blk (((w.alloc (.cells #[.int .i64 1, .int .i64 2] 3)).alloc (.cells #[.int .i64 3, .int .i64 9] 3)).alloc (.cells #[.slice (some ⟨w.heap.size, 0, none⟩) 2 2, .slice (some ⟨w.heap.size + 1, 0, none⟩) 2 2] 22)) (w.heap.size + 1) 3 #[.int .i64 3, .int .i64 9] := .alloc (.new (by simp)) _
  have b2 : Blk (((w.alloc (.cells #[.int .i64 1, .int .i64 2] 3)).alloc (.cells #[.int .i64 3, .int .i64 9] 3)).alloc (.cells #[.slice (some ⟨w.heap.size, 0, none⟩) 2 2, .slice (some ⟨w.heap.size + 1, 0, none⟩) 2 2] 22)) (w.heap.size + 1 + 1) 22 #[.slice (some ⟨w.heap.size, 0, none⟩) 2 2, .slice (some ⟨w.heap.size + 1, 0, none⟩) 2 2] := .new (by simp)
  refine ⟨none, 0, none, 0, some ⟨w.heap.size + 1 + 1, 0, none⟩, 2, rfl, ⟨.inl rfl, Ints.nil, by simp [exA], zero_le_maxLen⟩, ⟨.inl rfl, Ints.nil, by simp [exA], zero_le_maxLen⟩, ⟨.inr ⟨_, 0, rfl, b2.lt, ?_⟩, by simp [exA], hz⟩⟩
  intro i x hi
  match i, hi with
  | 0, hi =>
    simp [exA] at hi
    subst hi
    refine ⟨_, row_blk b0 (by omega) (by omega) (Nat.le_refl 2) hz, rfl, fun j v hj => ?_⟩
    match j, hj with
    | 0, hj => rw [b2.cell]; simp at hj; subst hj; rfl
  | 1, hi =>
    simp [exA] at hi
    subst hi
    refine ⟨_, row_blk b1 (by omega) (by omega) (Nat.le_refl 2) hz, rfl, fun j v hj => ?_⟩
    match j, hj with
    | 0, hj => rw [b2.cell]; simp at hj; subst hj; rfl
  | i + 2, hi => simp [exA] at hi
end Go.Proofs.YtleckhbmciiooaaDoor
namespace Go.Proofs.YtleckhbmciiooaaDoor
open Go.RowKit Go.ChangeShapes Go.WideShapes Go.ChangeAt Go.Deep

theorem exA_least {l : List Nat} (hp : l.Perm (List.range 2)) (h : Least [[1, 2], [3, 9]] 2 (costF [[1, 2], [3, 9]] (intsN l))) : l = [1, 0] := by
  have hl := perm_len hp
  match l, hl with
  | [a, b], _ =>
    have ha : a < 2 := List.mem_range.1 (hp.mem_iff.1 (by simp))
    have hb : b < 2 := List.mem_range.1 (hp.mem_iff.1 (by simp))
    have hn : [a, b].Nodup := hp.symm.nodup List.nodup_range
    have hab : a ≠ b := by simpa using hn
    have h2 := h.2 [1, 0] (by decide)
    match a, b, ha, hb with
    | 0, 0, _, _ => exact absurd rfl hab
    | 1, 1, _, _ => exact absurd rfl hab
    | 1, 0, _, _ => rfl
    | 0, 1, _, _ => exact absurd h2 (by decide)
set_option maxRecDepth 100000 in
set_option maxHeartbeats 2000000 in
theorem exacts_any (w : World) : Calls Tryd.prog 28 #[] w fun e w' => e = .returned (.bool true) ∧ Ext w w' := by
  have N := fun (vs : List Value) (W : World) (H : RInst W vs exA) => asg_any exA vs W H exA_check rfl
  unfold AsgPost at N
  simp only [show exA.cost = [[1, 2], [3, 9]] from rfl, List.length_cons, List.length_nil, Nat.zero_add, Nat.reduceAdd] at N
  replace N := Lib.hid N
  go_enter Tryd.func28, Tryd.ntmps28
  go_wp2_with (fail)
  refine (N.out _ _ (exA_rinst w)).mono ?_
  rintro e w2 ⟨A, c, l, rfl, rd, pm, lc, mc, LE, x2⟩
  obtain rfl := exA_least pm LE
  have X2 := Lib.hid (Ext.tr (a := w) (by (repeat (first | assumption | exact Ext.rf _ | apply Ext.drew | apply Ext.drewN | apply Ext.alloc))) x2)
  obtain ⟨b, off, y0, rfl, _, c0, e0, _⟩ := rd.at (k := 0) (by simp [intsN])
  obtain ⟨b', off', y1, hA, _, c1, e1, _⟩ := rd.at (k := 1) (by simp [intsN])
  obtain ⟨rfl, rfl⟩ : b = b' ∧ off = off' := by simpa using hA
  obtain rfl : y0 = 1 := by have h := e0.out; simp [intsN] at h; exact h.symm
  obtain rfl : y1 = 0 := by have h := e1.out; simp [intsN] at h; exact h.symm
  rw [show costF [[1, 2], [3, 9]] (intsN [1, 0]) = 5 from by decide]
  rw [Nat.add_zero] at c0
  clear rd pm LE x2 e0 e1 hA N
  go_wp2_with (fail)
  go_ret
  exact ⟨rfl, X2.out⟩
end Go.Proofs.YtleckhbmciiooaaDoor
namespace Go.Proofs.YtleckhbmciiooaaDoor
open Go.RowKit Go.ChangeShapes Go.WideShapes Go.ChangeAt

/-- the variables that the row lists -/
def tabL : List (String × DataW Unit) := [("math/bits.deBruijn64tab", Rows.laid_math_bits_deBruijn64tab)]
theorem tabData : (Rows.laid_math_bits_deBruijn64tab : DataW Unit) = .agg (Lib.deBruijn64tab.map fun n : Nat => .lit (.int .u8 (n : Int))) := by kernel_rfl
theorem tab_of_laid {W : World} (h : laidMetH Tryd.prog tabL W) : Tab W := by
  rw [MakeChecks.laidMetH_plain _ _ _ (by kernel_rfl)] at h
  obtain ⟨ps, ⟨g, t, cs, fuel, p, q, hg, ht, hv, hd, _, _⟩, _, _⟩ := h
  obtain rfl := Option.some.inj ((show Tryd.prog.globalNamed "math/bits.deBruijn64tab" = some 1 by kernel_rfl).symm.trans hg)
  obtain rfl := Option.some.inj ((show (Tryd.prog.globals[1]?).map (·.type) = some 171 by kernel_rfl).symm.trans ht)
  rw [show (Rows.laid_math_bits_deBruijn64tab : DataW Unit) = .agg (Lib.deBruijn64tab.map fun n : Nat => .lit (.int .u8 (n : Int))) from tabData] at hd
  obtain ⟨xs, m, _, ex, _, hl, hel⟩ := DataW.trod_array Tryd.underlying171 hd
  intro r hr
  have hlen : Lib.deBruijn64tab.length = 64 := by kernel_rfl
  rw [hlen] at hr
  have c5 : Tryd.prog.cellsOf 5 = 1 := by kernel_rfl
  have hE := hel r hr
  rw [c5, Nat.mul_one, List.getElem?_eq_getElem (by omega)] at hE
  obtain ⟨z, e1, e2, _⟩ := DataW.trod_int Tryd.underlying5 hE
  have e3 : (xs.map (·.1)) = Lib.deBruijn64tab.map fun n : Nat => .lit (.int .u8 (n : Int)) := (DataW.agg.inj (Prod.mk.inj ex).1).symm
  have e4 : (xs.map (·.1))[r]? = (Lib.deBruijn64tab.map fun n : Nat => (DataW.lit (.int .u8 (n : Int)) : DataW Unit))[r]? := by rw [e3]
  rw [List.getElem?_map, List.getElem?_map, List.getElem?_eq_getElem (by omega : r < xs.length), List.getElem?_eq_getElem (by omega : r < Lib.deBruijn64tab.length), e2] at e4
  have hz : z = ((Lib.deBruijn64tab.getD r 0 : Nat) : Int) := by
    simp only [Option.map_some, Option.some.injEq, DataW.lit.injEq, Lit.int.injEq, true_and] at e4
    rw [e4, List.getD, List.getElem?_eq_getElem (by omega : r < Lib.deBruijn64tab.length)]; rfl
  rw [World.var?_cell hg hv r, ← hz]
  have : cs.toList[r]? = some (.int .u8 z) := by
    have h0 : ((cs.toList.drop r).take 1)[0]? = some (.int .u8 z) := by rw [e1]; rfl
    simpa using h0
  simpa using this
end Go.Proofs.YtleckhbmciiooaaDoor
