/-
  The document's values for tours: Small, Cost, Best at kind 3; the document's Best and Answers for tours.
-/
import Derived.Test.YtpngflmngnjjoaaDoorTourN
import Derived.Test.YtpngflmngnjjoaaDoorAssignBW
namespace Go.Proofs.YtpngflmngnjjoaaDoor
open Go.RowKit Go.ChangeShapes Go.WideShapes Go.ChangeAt Go.Deep

set_option maxRecDepth 100000 in
set_option maxHeartbeats 8000000 in
theorem small3_any (i : InstP) (us : List Value) (w : World) (H : RInst w us i) (hc : checkP i = 0) (hk : i.kind = 3) :
    Calls Tryd.prog 28 #[.agg (List.toArray us)] w fun e w' => e = .returned (.bool (decide (i.n ≤ 6))) ∧ Ext w w' := by
  have CH := fun (W : World) (x : Ext w W) => rcheck_any i us W (H.ext x)
  rw [hc] at CH
  obtain ⟨kind, nn, cap, xw, xv, co⟩ := i
  obtain ⟨A, a, B, b, D, d, rfl, -, -, -⟩ := H
  simp only at *
  subst hk
  replace CH := Lib.hid CH
  clear hc
  have B1 : Hid (Blk (w.alloc (.cells #[.int .i64 3, .int .i64 nn, .int .i64 cap, .slice A xw.length a, .slice B xv.length b, .slice D co.length d] 25)) w.heap.size 25 #[.int .i64 3, .int .i64 nn, .int .i64 cap, .slice A xw.length a, .slice B xv.length b, .slice D co.length d]) := .new rfl
  obtain ⟨bb, hbb⟩ : ∃ bb, Hid (decide (nn ≤ 6) = bb) := ⟨_, rfl⟩
  rw [hbb.out]
  have hb2 : decide (nn ≤ 6) = bb := hbb.out
  go_enter Tryd.func28, Tryd.ntmps28
  go_wp2_with (fail)
  refine (CH.out _ (by (repeat (first | assumption | exact Ext.rf _ | apply Ext.drew | apply Ext.drewN | apply Ext.alloc)))).mono ?_
  rintro e w1 ⟨rfl, x1⟩
  have X1 := Lib.hid (Ext.tr (a := w) (by (repeat (first | assumption | exact Ext.rf _ | apply Ext.drew | apply Ext.drewN | apply Ext.alloc))) x1)
  have b0 : w1.cell? ⟨w.heap.size, 0, none⟩ = some (.int .i64 3) := (B1.out.ext x1).cell 0
  have b1 : w1.cell? ⟨w.heap.size, 1, none⟩ = some (.int .i64 nn) := (B1.out.ext x1).cell 1
  clear x1 B1
  go_wp2_with (fail)
  go_ret
  exact ⟨by first | rfl | simp [hbb.out], X1.out⟩
/-- what is left of a round trip behind its first so many ways -/
def restW (co : List (List Int)) : List Nat → Int
  | [] => 0
  | u :: q => pathT co u q
theorem pathT_bd {rows : List (List Int)} (num : ∀ a b, a < rows.length → b < rows.length → 0 ≤ costAt rows a b ∧ costAt rows a b ≤ 2147483647) : ∀ (q : List Nat) (s : Nat), s < rows.length → (∀ x ∈ q, x < rows.length) → 0 ≤ pathT rows s q ∧ pathT rows s q ≤ 2147483647 * ((q.length : Int) + 1)
  | [], s, hs, _ => by have := num s 0 hs (by omega); simp only [pathT, List.length_nil]; omega
  | u :: q, s, hs, h => by
    have h1 := num s u hs (h u (by simp))
    have h2 := pathT_bd num q u (h u (by simp)) fun x hx => h x (by simp [hx])
    simp only [pathT, List.length_cons]
    omega
set_option maxRecDepth 100000 in
set_option maxHeartbeats 8000000 in
theorem cost3_any (i : InstP) (us : List Value) (P : Option Addr) (c : Nat) (q : List Nat) (w : World) (H : RInst w us i) (hc : checkP i = 0) (hk : i.kind = 3) (hP : RdI w P (intsN (0 :: q))) (hl : (0 :: q).Perm (List.range i.cost.length)) :
    Calls Tryd.prog 30 #[.agg (List.toArray us), .slice P i.cost.length c] w fun e w' => e = .returned (.tuple #[.int .i64 (pathT i.cost 0 q), .int .i64 0]) ∧ Ext w w' := by
  have CH := fun (W : World) (x : Ext w W) => rcheck_any i us W (H.ext x)
  rw [hc] at CH
  have sq := square_ok hc (by omega)
  have rok := rows_ok sq
  have hnn : i.n = (i.cost.length : Int) := sq.len.symm
  have PE := fun (W : World) (x : Ext w W) => perm_yes P c i.cost.length (0 :: q) W (hP.ext x) hl (by have := rok.n2; omega)
  have hlt : Hid (∀ x ∈ 0 :: q, x < i.cost.length) := fun x hx => List.mem_range.1 (hl.mem_iff.1 hx)
  have hlen : Hid ((0 :: q).length = i.cost.length) := by
    have h : (0 :: q).length = i.cost.length := by rw [hl.length_eq, List.length_range]
    exact h
  have n24 := rok.n2
  have n1 := rok.n1
  clear hl hc sq
  obtain ⟨kind, nn, cap, xw, xv, co⟩ := i
  obtain ⟨A, a, B, b, D, d, rfl, -, -, ⟨hC, -, -⟩⟩ := H
  simp only at *
  subst hk hnn
  obtain ⟨cb, cof, _, _, _, rfl, _, _⟩ := cost_at rok hC (r := 0) (c := 0) (by omega) (by omega)
  have num := ends_num rok
  have CA := Lib.hid (fun (W : World) (x : Ext w W) (r c : Nat) (hr : r < co.length) (hc : c < co.length) => cost_in rok (hC.ext x fun _ _ h => h.ext x) hr hc)
  obtain ⟨tot, htot⟩ : ∃ tot, Hid (pathT co 0 q = tot) := ⟨_, rfl⟩
  rw [htot.out]
  have bt : 0 ≤ tot ∧ tot ≤ 2147483647 * 24 := by
    have h1 := pathT_bd num q 0 (by omega) fun x hx => hlt.out x (by simp [hx])
    have h2 := hlen.out
    rw [List.length_cons] at h2
    rw [htot.out] at h1
    omega
  have START : Hid ((0 : Int) + restW co ((0 :: q).drop 0) = tot) := by
    have h : (0 : Int) + restW co ((0 :: q).drop 0) = tot := by rw [← htot.out]; simp [restW]
    exact h
  obtain ⟨l, hll⟩ : ∃ l, Hid (0 :: q = l) := ⟨_, rfl⟩
  have h00 : Hid (l[0]? = some 0) := by
    have h : l[0]? = some 0 := by rw [← hll.out]; rfl
    exact h
  rw [hll.out] at hP hlt hlen START
  obtain ⟨pb, po, x0, rfl, zp0, cp0, ep0, _⟩ := hP.at (k := 0) (by rw [intsN_len, hlen.out]; omega)
  obtain rfl : x0 = 0 := by
    have h := ep0.out
    rw [intsN_get h00.out] at h
    exact (Option.some.inj h).symm
  replace cp0 : w.cell? ⟨pb, po, none⟩ = some (.int .i64 0) := cp0
  have DR : Hid (∀ k, k < co.length → ∃ u, l[k]? = some u ∧ u < co.length ∧ l.drop k = u :: l.drop (k + 1)) := fun k hk => by
    have h : k < l.length := by rw [hlen.out]; exact hk
    exact ⟨l[k], List.getElem?_eq_getElem h, hlt.out _ (List.getElem_mem h), List.drop_eq_getElem_cons h⟩
  replace CH := Lib.hid CH
  replace PE := Lib.hid PE
  replace hP := Lib.hid hP
  replace hC := Lib.hid hC
  replace rok := Lib.hid rok
  replace num := Lib.hid num
  have B1 : Hid (Blk (w.alloc (.cells #[.int .i64 3, .int .i64 co.length, .int .i64 cap, .slice A xw.length a, .slice B xv.length b, .slice (some ⟨cb, cof, none⟩) co.length d] 25)) w.heap.size 25 #[.int .i64 3, .int .i64 co.length, .int .i64 cap, .slice A xw.length a, .slice B xv.length b, .slice (some ⟨cb, cof, none⟩) co.length d]) := .new rfl
  have q00 : (0 : Int) < (co.length : Int) := by omega
  clear ep0
  go_enter Tryd.func30, Tryd.ntmps30
  go_wp2_with (fail)
  refine (CH.out _ (by (repeat (first | assumption | exact Ext.rf _ | apply Ext.drew | apply Ext.drewN | apply Ext.alloc)))).mono ?_
  rintro e w1 ⟨rfl, x1⟩
  have X1 := Lib.hid (Ext.tr (a := w) (by (repeat (first | assumption | exact Ext.rf _ | apply Ext.drew | apply Ext.drewN | apply Ext.alloc))) x1)
  have BB := Lib.hid (B1.out.ext x1)
  have d0 : w1.cell? ⟨w.heap.size, 0, none⟩ = some (.int .i64 3) := BB.out.cell 0
  have d1 : w1.cell? ⟨w.heap.size, 1, none⟩ = some (.int .i64 co.length) := BB.out.cell 1
  clear x1
  go_wp2_with (fail)
  refine (PE.out _ X1.out).mono ?_
  rintro e w2 ⟨rfl, x2⟩
  have X2 := Lib.hid (X1.out.tr x2)
  have BC := Lib.hid (BB.out.ext x2)
  have e0 : w2.cell? ⟨w.heap.size, 0, none⟩ = some (.int .i64 3) := BC.out.cell 0
  have e2 : w2.cell? ⟨pb, po, none⟩ = some (.int .i64 0) := keepEL X2.out zp0 cp0
  clear x2 d0 d1 BB
  go_wp2_with (fail)
  go_loopw [8, 7] (fun v s wr => ∃ (k : Nat) (su : Int), v = .int .i64 k ∧ s = .int .i64 su ∧ k ≤ co.length ∧ Hid (0 ≤ su ∧ su + restW co (l.drop k) = tot) ∧ Hid (Ext w2 wr)) (fun v _ _ => co.length - (intOf v).toNat)
  case atStart => exact ⟨0, 0, rfl, rfl, by omega, by exact (show (0 : Int) ≤ 0 ∧ (0 : Int) + restW co (l.drop 0) = tot from ⟨by omega, START.out⟩), Ext.rf _⟩
  case round =>
    obtain ⟨wo, rfl⟩ : ∃ wo : World, wo = wr := ⟨_, rfl⟩
    obtain ⟨k, su, rfl, rfl, hk, HS, Y⟩ := hrel
    have d0 : wo.cell? ⟨w.heap.size, 0, none⟩ = some (.int .i64 3) := (BC.out.ext Y.out).cell 0
    have d1 : wo.cell? ⟨w.heap.size, 1, none⟩ = some (.int .i64 co.length) := (BC.out.ext Y.out).cell 1
    have d5 : wo.cell? ⟨w.heap.size, 5, none⟩ = some (.slice (some ⟨cb, cof, none⟩) co.length d) := (BC.out.ext Y.out).cell 5
    have XW := Lib.hid (X2.out.tr Y.out)
    clear e0 e2 START
    by_cases hkl : k < co.length
    · obtain ⟨u, ek, hun, edr⟩ := DR.out k hkl
      obtain ⟨pb', po', xu, hPq, zpk, cpk, epk, _⟩ := (hP.out.ext XW.out).at (k := k) (by rw [intsN_len, hlen.out]; exact hkl)
      obtain ⟨rfl, rfl⟩ : pb = pb' ∧ po = po' := by simpa using hPq
      obtain rfl : xu = (u : Int) := by
        have h := epk.out
        rw [intsN_get ek] at h
        exact (Option.some.inj h).symm
      have HS1 := HS.out
      rw [edr] at HS1
      have q1 : (k : Int) < (co.length : Int) := by omega
      have q2 : (u : Int) < (co.length : Int) := by omega
      have hw0 : IntKind.i64.wrap ((k : Int) + 1) = (k : Int) + 1 := IntWalk.i64_in _ (by omega)
      clear ek edr hPq epk HS
      by_cases hlast : k + 1 = co.length
      · have e1 : l.drop (k + 1) = [] := List.drop_of_length_le (by rw [hlen.out]; omega)
        rw [e1] at HS1
        obtain ⟨rb, ro, d', c1, c2⟩ := CA.out _ XW.out u 0 hun (by omega)
        have nu := num.out u 0 hun (by omega)
        obtain ⟨y, hy⟩ : ∃ y, Hid (costAt co u 0 = y) := ⟨_, rfl⟩
        simp only [restW, pathT] at HS1
        rw [hy.out] at c2 nu HS1
        replace c2 : wo.cell? ⟨rb, ro, none⟩ = some (.int .i64 y) := c2
        have hrem : ((k : Int) + 1).tmod (co.length : Int) = 0 := by
          have h : (k : Int) + 1 = (co.length : Int) := by omega
          rw [h, Int.tmod_self]
        have hw1 : IntKind.i64.wrap 0 = 0 := IntWalk.i64_in _ (by omega)
        have hw : IntKind.i64.wrap (su + y) = su + y := IntWalk.i64_in _ (by omega)
        have p0 : wo.cell? ⟨pb, po, none⟩ = some (.int .i64 0) := keepEL XW.out zp0 cp0
        have NEW : Hid (0 ≤ su + y ∧ su + y + restW co (l.drop (k + 1)) = tot) := by
          have h : 0 ≤ su + y ∧ su + y + restW co (l.drop (k + 1)) = tot := by
            rw [e1]
            simp only [restW]
            omega
          exact h
        have hnz : ((co.length : Int) == 0) = false := by rw [beq_eq_false_iff_ne]; omega
        clear HS1 e1
        replace hlast := Lib.hid hlast
        go_wp2_with (fail)
        go_quiet (fail)
        go_wp2_with (fail)
        go_roundw
        case rel => exact ⟨k + 1, su + y, by go_num, rfl, by omega, NEW, Y.out.drewN _⟩
        case measure => simp [intOf]; omega
      · have hk1 : k + 1 < co.length := by omega
        obtain ⟨v, ek1, hvn, edr1⟩ := DR.out (k + 1) hk1
        obtain ⟨pb', po', xu, hPq, zpk1, cpk1, epk1, _⟩ := (hP.out.ext XW.out).at (k := k + 1) (by rw [intsN_len, hlen.out]; exact hk1)
        obtain ⟨rfl, rfl⟩ : pb = pb' ∧ po = po' := by simpa using hPq
        obtain rfl : xu = (v : Int) := by
          have h := epk1.out
          rw [intsN_get ek1] at h
          exact (Option.some.inj h).symm
        rw [edr1] at HS1
        obtain ⟨rb, ro, d', c1, c2⟩ := CA.out _ XW.out u v hun hvn
        have nu := num.out u v hun hvn
        obtain ⟨y, hy⟩ : ∃ y, Hid (costAt co u v = y) := ⟨_, rfl⟩
        simp only [restW, pathT] at HS1
        rw [hy.out] at c2 nu HS1
        have hpp := (pathT_bd num.out (l.drop (k + 1 + 1)) v hvn fun x hx => hlt.out x (List.mem_of_mem_drop hx)).1
        have hrem : ((k : Int) + 1).tmod (co.length : Int) = ((k + 1 : Nat) : Int) := by
          rw [Int.tmod_eq_emod_of_nonneg (by omega), Int.emod_eq_of_lt (by omega) (by omega)]
          omega
        have hw1 : IntKind.i64.wrap ((k + 1 : Nat) : Int) = ((k + 1 : Nat) : Int) := IntWalk.i64_in _ (by omega)
        have hw : IntKind.i64.wrap (su + y) = su + y := IntWalk.i64_in _ (by omega)
        have NEW : Hid (0 ≤ su + y ∧ su + y + restW co (l.drop (k + 1)) = tot) := by
          have h : 0 ≤ su + y ∧ su + y + restW co (l.drop (k + 1)) = tot := by
            rw [edr1]
            simp only [restW]
            omega
          exact h
        have q3 : (v : Int) < (co.length : Int) := by omega
        have q4 : ((k + 1 : Nat) : Int) < (co.length : Int) := by omega
        have hnz : ((co.length : Int) == 0) = false := by rw [beq_eq_false_iff_ne]; omega
        clear HS1 edr1 ek1 hPq epk1 hpp
        replace hlast := Lib.hid hlast
        go_wp2_with (fail)
        go_quiet (fail)
        go_wp2_with (fail)
        go_roundw
        case rel => exact ⟨k + 1, su + y, by go_num, rfl, by omega, NEW, Y.out.drewN _⟩
        case measure => simp [intOf]; omega
    · have q1 : ¬ (k : Int) < (co.length : Int) := by omega
      have HS2 : Hid (su = tot) := by
        have h := HS.out.2
        rw [List.drop_of_length_le (by rw [hlen.out]; omega)] at h
        simp only [restW] at h
        have h2 : su = tot := by omega
        exact h2
      go_wp2_with (fail)
      go_ret2
      rw [HS2.out]
      exact ⟨rfl, XW.out⟩
set_option maxRecDepth 100000 in
set_option maxHeartbeats 8000000 in
theorem best3_more (i : InstP) (us : List Value) (P : Option Addr) (c : Nat) (l : List Nat) (w : World) (H : RInst w us i) (hk2 : i.kind = 3) (hP : RdI w P (intsN l)) (n m : Nat) (hn : i.n = n) (hn24 : n ≤ 24) (hlen : l.length < n) (hl0 : 0 < l.length) (bs : Int) (f : Int → Int)
    (hused : ∀ k, k < n → (m.testBit k = true ↔ k ∉ l)) (e5 : leastF f (-1) (intsN (restF m n 0)) = bs) (fpos : ∀ k, k < n → m.testBit k = true → 0 ≤ f (k : Int))
    (IH3 : ∀ (k : Nat) (A : Option Addr) (d : Nat) (q : List Int), k < n → m.testBit k = true → q = intsN l ++ [(k : Int)] → ∀ W : World, Ext w W → RdI W A q → Calls Tryd.prog 58 #[.agg (List.toArray us), .slice A q.length d] W fun e w' => e = .returned (.int .i64 (f k)) ∧ Ext W w') :
    Calls Tryd.prog 58 #[.agg (List.toArray us), .slice P l.length c] w fun e w' => e = .returned (.int .i64 bs) ∧ Ext w w' := by
  obtain ⟨kind, nn, cap, xw, xv, co⟩ := i
  obtain ⟨A, a, B, b, D, d, rfl, -, -, -⟩ := H
  simp only at *
  subst hk2 hn
  replace IH3 := Lib.hid IH3
  replace e5 := Lib.hid e5
  replace hP := Lib.hid hP
  replace hused := Lib.hid hused
  replace fpos := Lib.hid fpos
  have hz0 : ((l.length : Int) == 0) = false := by rw [beq_eq_false_iff_ne]; omega
  have hne : ((l.length : Int) == (n : Int)) = false := by rw [beq_eq_false_iff_ne]; omega
  have B1 : Hid (Blk (w.alloc (.cells #[.int .i64 3, .int .i64 n, .int .i64 cap, .slice A xw.length a, .slice B xv.length b, .slice D co.length d] 25)) w.heap.size 25 #[.int .i64 3, .int .i64 n, .int .i64 cap, .slice A xw.length a, .slice B xv.length b, .slice D co.length d]) := .new rfl
  have X0 : Hid (Ext w (w.alloc (.cells #[.int .i64 3, .int .i64 n, .int .i64 cap, .slice A xw.length a, .slice B xv.length b, .slice D co.length d] 25))) := (Ext.rf _).alloc _
  obtain ⟨w1, hw1⟩ : ∃ w1, w1 = (w.alloc (.cells #[.int .i64 3, .int .i64 n, .int .i64 cap, .slice A xw.length a, .slice B xv.length b, .slice D co.length d] 25)) := ⟨_, rfl⟩
  have B2 : Hid (Blk w1 w.heap.size 25 #[.int .i64 3, .int .i64 n, .int .i64 cap, .slice A xw.length a, .slice B xv.length b, .slice D co.length d]) := by rw [hw1]; exact B1.out
  have X1 : Hid (Ext w w1) := by rw [hw1]; exact X0.out
  replace hw1 := Lib.hid hw1
  clear B1
  go_enter Tryd.func58, Tryd.ntmps58
  go_wp2_with (fail)
  rw [← hw1.out]
  clear X0
  go_loopw [9, 7] (fun v bv wr => ∃ (k : Nat) (bb : Int), v = .int .i64 k ∧ bv = .int .i64 bb ∧ k ≤ n ∧ Hid (leastF f bb (intsN (restF m n k)) = bs) ∧ Hid (Ext w1 wr)) (fun v _ _ => n - (intOf v).toNat)
  case atStart => exact ⟨0, -1, rfl, rfl, by omega, e5, Ext.rf _⟩
  case round =>
    obtain ⟨wo, rfl⟩ : ∃ wo : World, wo = wr := ⟨_, rfl⟩
    obtain ⟨k, bb, rfl, rfl, hk, HS, Y⟩ := hrel
    by_cases hlt : k < n
    · have HN : Hid (leastF f bb (intsN (if m.testBit k = true then k :: restF m n (k + 1) else restF m n (k + 1))) = bs) := by
        have h := HS.out
        rw [restF_step hlt] at h
        exact h
      have q1 : (k : Int) < (n : Int) := by omega
      have B3 := B2.out.ext Y.out
      have zb3 := B3.lt
      have c0 : wo.cell? ⟨w.heap.size, 0, none⟩ = some (.int .i64 3) := B3.cell 0
      have HU := hused.out k hlt
      replace HU := Lib.hid HU
      replace B3 := Lib.hid B3
      clear HS
      go_wp2_with (fail)
      go_loopw [11, 10] (fun v uv wr => ∃ j : Nat, v = .int .i64 j ∧ uv = .bool ((l.take j).contains k) ∧ j ≤ l.length ∧ wr = wo) (fun v _ _ => l.length - (intOf v).toNat)
      case atStart => exact ⟨0, rfl, rfl, by omega, rfl⟩
      case round =>
        obtain ⟨j, rfl, rfl, hj, hwr⟩ := hrel
        have hwr' : wo = wr := (show wr = wo from hwr).symm
        clear hwr
        subst hwr'
        by_cases hjl : j < l.length
        · have q2 : (j : Int) < (l.length : Int) := by omega
          have ej : l[j]? = some l[j] := List.getElem?_eq_getElem hjl
          generalize l[j] = y at ej
          obtain ⟨pb, po, x, rfl, _, cx, ex, _⟩ := (hP.out.ext (X1.out.tr Y.out)).at (k := j) (by rw [intsN_len]; exact hjl)
          obtain rfl : x = (y : Int) := by
            have h := ex.out
            rw [intsN_get ej] at h
            exact (Option.some.inj h).symm
          have HC : Hid ((l.take (j + 1)).contains k = ((l.take j).contains k || (y == k))) := by
            have h : (l.take (j + 1)).contains k = ((l.take j).contains k || (y == k)) := by
              rw [List.take_add_one, ej, Bool.eq_iff_iff, Bool.or_eq_true, List.contains_iff_mem, List.contains_iff_mem, beq_iff_eq]
              show k ∈ l.take j ++ [y] ↔ _
              rw [List.mem_append, List.mem_singleton]
              exact ⟨fun h => h.imp id Eq.symm, fun h => h.imp id Eq.symm⟩
            exact h
          clear ex ej
          cases hb : (l.take j).contains k with
          | true =>
            have HC2 : Hid ((l.take (j + 1)).contains k = true) := by
              have h := HC.out
              rw [hb, Bool.true_or] at h
              exact h
            clear HC hb
            go_wp2_with (fail)
            go_roundw
            case rel => exact ⟨j + 1, by go_num, by rw [HC2.out], by omega, by first | exact rfl | exact trivial⟩
            case measure => simp [intOf]; omega
          | false =>
            obtain ⟨yk, hyk⟩ : ∃ yk, Hid ((y == k) = yk) := ⟨_, rfl⟩
            have HC2 : Hid ((l.take (j + 1)).contains k = yk) := by
              have h := HC.out
              rw [hb, Bool.false_or, hyk.out] at h
              exact h
            have t1 : (y == k) = yk := hyk.out
            have t2 : ((y : Int) == (k : Int)) = yk := by
              rw [← hyk.out, Bool.eq_iff_iff, beq_iff_eq, beq_iff_eq]
              omega
            clear HC hb
            go_wp2_with (fail)
            go_roundw
            case rel => exact ⟨j + 1, by go_num, by rw [HC2.out], by omega, by first | exact rfl | exact trivial⟩
            case measure => simp [intOf]; omega
        · have q2 : ¬ (j : Int) < (l.length : Int) := by omega
          rw [List.take_of_length_le (by omega)]
          cases hb : m.testBit k with
          | false =>
            have hu : l.contains k = true := by
              rw [List.contains_iff_mem]
              cases hd : decide (k ∈ l) with
              | true => exact of_decide_eq_true hd
              | false =>
                have := HU.out.2 (of_decide_eq_false hd)
                rw [hb] at this
                cases this
            have HN2 : Hid (leastF f bb (intsN (restF m n (k + 1))) = bs) := by
              have h := HN.out
              rw [hb, if_neg (by simp)] at h
              exact h
            rw [hu]
            clear HN hb hu
            go_wp2_with (fail)
            go_roundw
            case rel => exact ⟨k + 1, bb, by go_num, rfl, by omega, HN2, Y⟩
            case measure => simp [intOf]; omega
          | true =>
            have hu : l.contains k = false := by
              cases hd : l.contains k with
              | false => rfl
              | true => exact absurd (List.contains_iff_mem.1 hd) (HU.out.1 hb)
            have HN2 : Hid (leastF f (if bb < 0 then f (k : Int) else if f (k : Int) < bb then f (k : Int) else bb) (intsN (restF m n (k + 1))) = bs) := by
              have h := HN.out
              rw [hb, if_pos rfl] at h
              exact h
            have IHk := Lib.hid (fun (A : Option Addr) (d : Nat) (q : List Int) (hq : q = intsN l ++ [(k : Int)]) => IH3.out k A d q hlt hb hq)
            have fk := fpos.out k hlt hb
            rw [hu]
            generalize f (k : Int) = fv at *
            clear HN hb hu HU
            have c1' : wo.cell? ⟨w.heap.size, 1, none⟩ = some (.int .i64 n) := B3.out.cell 1
            have c2 : wo.cell? ⟨w.heap.size, 2, none⟩ = some (.int .i64 cap) := B3.out.cell 2
            have c3 : wo.cell? ⟨w.heap.size, 3, none⟩ = some (.slice A xw.length a) := B3.out.cell 3
            have c4 : wo.cell? ⟨w.heap.size, 4, none⟩ = some (.slice B xv.length b) := B3.out.cell 4
            have c5 : wo.cell? ⟨w.heap.size, 5, none⟩ = some (.slice D co.length d) := B3.out.cell 5
            obtain ⟨q, hq⟩ : ∃ q, Hid (q = intsN l ++ [(k : Int)]) := ⟨_, rfl⟩
            have lq : q.length = l.length + 1 := by rw [hq.out]; simp [intsN]
            go_upto_region 19 with (fail)
            refine wp_region_any (by kernel_rfl) ?_
            change wpAny _ _ _ _ _ _ _ (World.drew _)
            refine wpAny_T (i := 2) (op := Op.move (Operand.tmp 1)) (t := 22) (d := some 74) (v := ?_) rfl (by decide +kernel) (by decide +kernel) (by decide +kernel) (fun _ _ _ h => h) ?_ ?_
            case refine_2 => (intro _; unfold exec2; go_simp; try with_reducible rfl)
            try simp only [Act.put, List.setIfInBounds_toArray, List.set_cons_zero, List.set_cons_succ]
            refine wpAny_T (i := 4) (op := Op.move (Operand.tmp 9)) (t := 3) (d := some 76) (v := ?_) rfl (by decide +kernel) (by decide +kernel) (by decide +kernel) (fun _ _ _ h => h) ?_ ?_
            case refine_2 => (intro _; unfold exec2; go_simp; try with_reducible rfl)
            try simp only [Act.put, List.setIfInBounds_toArray, List.set_cons_zero, List.set_cons_succ]
            refine wpAny_core3 (n := 2) [(0, some 72), (1, some 73), (3, some 75), (5, some 77), (6, some 78)] (fun | 1 => [3] | 3 => [6] | 5 => [6] | _ => []) (Ext wo)
              (VF (fun | 0 => some (.agg #[.int .i64 3, .int .i64 n, .int .i64 cap, .slice A xw.length a, .slice B xv.length b, .slice D co.length d]) | _ => none)
                (fun j v W => (j = 1 → ∃ g, v = .slice (some ⟨g, 0, none⟩) 0 0 ∧ wo.heap.size ≤ g ∧ Blk W g 3 #[]) ∧ (j = 3 → ∃ A c, v = .slice A (intsN l).length c ∧ OwI W wo.heap.size A c (intsN l)) ∧ (j = 5 → ∃ h, v = .slice (some ⟨h, 0, none⟩) 1 1 ∧ Blk W h 3 #[.int .i64 (k : Int)]) ∧ (j = 6 → ∃ A c, v = .slice A q.length c ∧ OwI W wo.heap.size A c q)))
              (fun i W W' => i ≠ 6 → Ext W W') #[true, true, true, true, true, true, true, false, false] (by kernel_rfl) (by kernel_rfl) ?_ ?_ ?_ ((Ext.rf _).drew)
            · intro i j v W W' hkp hv hs
              refine VF.stab1 (fun _ ⟨g1, g3, g8, g9⟩ => ?_) hv
              by_cases hi : i = 6
              · subst hi
                refine ⟨fun h => ?_, fun h => ?_, fun h => ?_, fun h => ?_⟩
                all_goals (subst h; exact absurd hkp (by decide +kernel))
              · have hx := hs hi
                refine ⟨fun h => ?_, fun h => ?_, fun h => ?_, fun h => ?_⟩
                · obtain ⟨g, q1, q2, q3⟩ := g1 h
                  exact ⟨g, q1, q2, q3.ext hx⟩
                · obtain ⟨A', c', q1, q2⟩ := g3 h
                  exact ⟨A', c', q1, q2.ext hx⟩
                · obtain ⟨h', q1, q2⟩ := g8 h
                  exact ⟨h', q1, q2.ext hx⟩
                · obtain ⟨A', c', q1, q2⟩ := g9 h
                  exact ⟨A', c', q1, q2.ext hx⟩
            · intro pq hpm u W hRW hD K hK
              have z2 := hRW.size
              simp only [List.mem_cons, List.not_mem_nil, or_false] at hpm
              rcases hpm with rfl | rfl | rfl | rfl | rfl
              · have r0 := keepEL hRW zb3 c0
                have r1 := keepEL hRW zb3 c1'
                have r2 := keepEL hRW zb3 c2
                have r3 := keepEL hRW zb3 c3
                have r4 := keepEL hRW zb3 c4
                have r5 := keepEL hRW zb3 c5
                exact op_ld (T := 25) rfl (.pointer (some ⟨w.heap.size, 0, none⟩)) (by kernel_rfl) (.agg #[.int .i64 3, .int .i64 n, .int .i64 cap, .slice A xw.length a, .slice B xv.length b, .slice D co.length d]) (by go_simp) (hK _ _ (VF.mk rfl) hRW (fun _ => Ext.rf _))
              · exact op_bs0 rfl _ (ibs0_run _) (hK _ _ (VF.mg rfl ⟨fun _ => ⟨_, rfl, z2, .new rfl⟩, (fun h => by cases h), (fun h => by cases h), (fun h => by cases h)⟩) (hRW.alloc _) (fun _ => (Ext.rf _).alloc _))
              · obtain ⟨g, h1, zg, bg⟩ := ((hD 1 (depIn (by kernel_rfl))).g rfl).1 rfl
                obtain ⟨A3, c3, w3, hr3, o3, x3⟩ := run_copy_i W wo.heap.size 22 g (intsN l) P c bg zg (hP.out.ext ((X1.out.tr Y.out).tr hRW)) (by rw [intsN_len]; omega)
                exact op_app rfl (.slice (some ⟨g, 0, none⟩) 0 0) (.slice P (intsN l).length c) (Eq.trans (b := u 1) (by kernel_rfl) h1) (by rw [intsN_len]; kernel_rfl) _ hr3 (hK _ _ (VF.mg rfl ⟨(fun h => by cases h), fun _ => ⟨A3, c3, rfl, o3⟩, (fun h => by cases h), (fun h => by cases h)⟩) (hRW.tr x3) (fun _ => x3))
              · exact op_bs1 rfl (.int .i64 (k : Int)) (by kernel_rfl) _ (ibs1_run _ _) (hK _ _ (VF.mg rfl ⟨(fun h => by cases h), (fun h => by cases h), fun _ => ⟨_, rfl, .new rfl⟩, (fun h => by cases h)⟩) (hRW.alloc _) (fun _ => (Ext.rf _).alloc _))
              · obtain ⟨A3, c3', h3, o3⟩ := ((hD 3 (depIn (by kernel_rfl))).g rfl).2.1 rfl
                obtain ⟨g8, h8, b8⟩ := ((hD 5 (depIn (by kernel_rfl))).g rfl).2.2.1 rfl
                obtain ⟨A7, c7, w7, hrun, o7, g7, -⟩ := run_app_i W wo.heap.size 22 A3 (intsN l).length c3' (intsN l) [(k : Int)] (some ⟨g8, 0, none⟩) 1 rfl o3 (.blk b8 rfl) (by rw [intsN_len]; simp; omega) hRW.size
                have x7 : Ext wo w7 := hRW.grow g7 (fun k hk => (o3.lt k hk).1)
                rw [← hq.out] at hrun o7
                exact op_app rfl (.slice A3 (intsN l).length c3') (.slice (some ⟨g8, 0, none⟩) 1 1) (Eq.trans (b := u 3) (by kernel_rfl) h3) (Eq.trans (b := u 5) (by kernel_rfl) h8) _ hrun (hK _ _ (VF.mg rfl ⟨(fun h => by cases h), (fun h => by cases h), (fun h => by cases h), fun _ => ⟨A7, c7, rfl, o7⟩⟩) x7 (fun h => absurd rfl h))
            · intro u w7 hRW hV
              have h0 := (hV (0, some 72) (by simp) rfl).k rfl
              obtain ⟨A7, c7, h9, o7⟩ := ((hV (6, some 78) (by simp) rfl).g rfl).2.2.2 rfl
              simp only [putAll, h0, h9]
              have rq := Lib.hid o7.read
              have x7 := Lib.hid hRW
              clear h0 h9 hV o7 hRW
              try simp only [Act.put, List.setIfInBounds_toArray, List.set_cons_zero, List.set_cons_succ]
              refine wpAny_next 7 (by decide +kernel) (op_call (f := 58) (xs := #[Operand.tmp 72, Operand.tmp 78]) (ts := #[25, 22]) (t := 3) (d := some 79) rfl #[.agg #[.int .i64 3, .int .i64 n, .int .i64 cap, .slice A xw.length a, .slice B xv.length b, .slice D co.length d], .slice A7 q.length c7] (by go_simp) (by kernel_rfl) _ (IHk.out A7 c7 q hq.out w7 (X1.out.tr (Y.out.tr x7.out)) rq.out) ?_)
              rintro e w8 ⟨rfl, x8⟩
              refine ⟨_, rfl, ?_⟩
              try simp only [Act.put, List.setIfInBounds_toArray, List.set_cons_zero, List.set_cons_succ]
              refine wpAny_T (i := 8) (op := Op.assign (Operand.tmp 79)) (t := 3) (d := some 12) (v := ?_) rfl (by decide +kernel) (by decide +kernel) (by decide +kernel) (fun _ _ _ h => h) ?_ ?_
              case refine_2 => (intro _; unfold exec2; go_simp; try with_reducible rfl)
              try simp only [Act.put, List.setIfInBounds_toArray, List.set_cons_zero, List.set_cons_succ]
              refine wpAny_done (by kernel_rfl) ?_ _
              have Y8 := Lib.hid (Y.out.tr (x7.out.tr x8))
              clear x8 x7 rq c0 c1' c2 c3 c4 c5
              go_simp
              by_cases hbb : bb < 0
              · rw [if_pos hbb] at HN2
                go_wp2_with (fail)
                go_roundw
                case rel => exact ⟨k + 1, fv, by go_num, rfl, by omega, HN2, Y8⟩
                case measure => simp [intOf]; omega
              · rw [if_neg hbb] at HN2
                by_cases hfb : fv < bb
                · rw [if_pos hfb] at HN2
                  go_wp2_with (fail)
                  go_roundw
                  case rel => exact ⟨k + 1, fv, by go_num, rfl, by omega, HN2, Y8⟩
                  case measure => simp [intOf]; omega
                · rw [if_neg hfb] at HN2
                  go_wp2_with (fail)
                  go_roundw
                  case rel => exact ⟨k + 1, bb, by go_num, rfl, by omega, HN2, Y8⟩
                  case measure => simp [intOf]; omega
    · obtain rfl : k = n := by omega
      have q1 : ¬ (k : Int) < (k : Int) := by omega
      have HN : Hid (bb = bs) := by
        have h := HS.out
        unfold restF at h
        rw [List.drop_of_length_le (by rw [List.length_range]; omega)] at h
        exact h
      obtain rfl := HN.out
      go_wp2_with (fail)
      go_ret
      exact ⟨rfl, X1.out.tr Y.out⟩
set_option maxRecDepth 100000 in
set_option maxHeartbeats 8000000 in
theorem best3_whole (i : InstP) (us : List Value) (P : Option Addr) (c : Nat) (q : List Nat) (w : World) (H : RInst w us i) (hc : checkP i = 0) (hk : i.kind = 3) (hP : RdI w P (intsN (0 :: q))) (hl : (0 :: q).Perm (List.range i.cost.length)) :
    Calls Tryd.prog 58 #[.agg (List.toArray us), .slice P i.cost.length c] w fun e w' => e = .returned (.int .i64 (pathT i.cost 0 q)) ∧ Ext w w' := by
  have CO := fun (W : World) (x : Ext w W) => cost3_any i us P c q W (H.ext x) hc hk (hP.ext x) hl
  have hnn : i.n = (i.cost.length : Int) := (square_ok hc (by omega)).len.symm
  generalize pathT i.cost 0 q = cv at *
  clear hl hP hc
  obtain ⟨kind, nn, cap, xw, xv, co⟩ := i
  obtain ⟨A, a, B, b, D, d, rfl, -, -, -⟩ := H
  simp only at *
  subst hk hnn
  replace CO := Lib.hid CO
  have hb : ((co.length : Int) == (co.length : Int)) = true := by simp
  go_enter Tryd.func58, Tryd.ntmps58
  go_wp2_with (fail)
  refine (CO.out _ (by (repeat (first | assumption | exact Ext.rf _ | apply Ext.drew | apply Ext.drewN | apply Ext.alloc)))).mono ?_
  rintro e w1 ⟨rfl, x1⟩
  have X1 := Lib.hid (Ext.tr (a := w) (by (repeat (first | assumption | exact Ext.rf _ | apply Ext.drew | apply Ext.drewN | apply Ext.alloc))) x1)
  clear x1
  go_wp2_with (fail)
  go_ret
  exact ⟨rfl, X1.out⟩
theorem whole_perm {rows : List (List Int)} {p : List Int} {m last : Nat} {cost : Int} {l : List Nat} (h1 : 1 ≤ rows.length) (W : WalkOk rows p m last cost l) (hlen : l.length = rows.length - 1) : (0 :: l).Perm (List.range rows.length) := by
  have hm := W.len
  have he : memsM m = [] := List.eq_nil_of_length_eq_zero (by omega)
  refine (List.perm_ext_iff_of_nodup (List.nodup_cons.2 ⟨fun h => (W.inn 0 h).2 rfl, W.nodup⟩) List.nodup_range).2 fun x => ?_
  rw [List.mem_range]
  constructor
  · intro hx
    rcases List.mem_cons.1 hx with rfl | hx
    · omega
    · exact (W.inn x hx).1
  · intro hx
    by_cases h0 : x = 0
    · simp [h0]
    · by_cases hl : x ∈ l
      · exact List.mem_cons_of_mem _ hl
      · have := (W.rest x).2 ⟨⟨hx, h0⟩, hl⟩
        rw [he] at this
        cases this
theorem best3_any (i : InstP) (us : List Value) (hc : checkP i = 0) (hk : i.kind = 3) : ∀ (f : Nat) (P : Option Addr) (c : Nat) (p : List Int) (m last : Nat) (cost : Int) (w : World), walkP i.cost p = some (m, last, cost) → f = i.cost.length - 1 - p.length → RInst w us i → RdI w P (0 :: p) →
    Calls Tryd.prog 58 #[.agg (List.toArray us), .slice P (0 :: p).length c] w fun e w' => e = .returned (.int .i64 (bestT i.cost f p)) ∧ Ext w w'
  | 0, P, c, p, m, last, cost, w => fun hp hf H hP => by
    have sq := square_ok hc (by omega)
    have rok := rows_ok sq
    obtain ⟨l, W⟩ := walk_ok rok.n1 rok.n2 hp
    have hlen := W.len
    have h1 := rok.n1
    have hpl : p.length = l.length := by rw [W.eq, intsN_len]
    have e : bestT i.cost 0 p = pathT i.cost 0 l := by
      show pathT i.cost 0 (p.map Int.toNat) = _
      rw [W.eq, toNat_ints]
    have hpm := whole_perm h1 W (by omega)
    rw [e, show (0 :: p).length = i.cost.length by simp; omega]
    have hP' : RdI w P (intsN (0 :: l)) := by
      have e2 : intsN (0 :: l) = 0 :: p := by rw [W.eq]; rfl
      rw [e2]
      exact hP
    exact best3_whole i us P c l w H hc hk hP' hpm
  | f + 1, P, c, p, m, last, cost, w => fun hp hf H hP => by
    have sq := square_ok hc (by omega)
    have rok := rows_ok sq
    have h24 := rok.n2
    have h1 := rok.n1
    obtain ⟨l, W⟩ := walk_ok h1 h24 hp
    have hlen := W.len
    have hsub := W.sub
    have hpl : p.length = l.length := by rw [W.eq, intsN_len]
    have hmem : ∀ k, k < i.cost.length → (k ∈ memsM m ↔ m.testBit k = true) := fun k hk => memsM_bits hsub (by omega) hk
    have e2 : intsN (0 :: l) = 0 :: p := by rw [W.eq]; rfl
    have hP' : RdI w P (intsN (0 :: l)) := by
      rw [e2]
      exact hP
    have elen : (0 :: p).length = (0 :: l).length := by simp [hpl]
    rw [elen]
    refine best3_more i us P c (0 :: l) w H hk hP' i.cost.length m sq.len.symm h24 (by simp; omega) (by simp) _ (fun x => bestT i.cost f (p ++ [x])) (fun k hk => ?_) ?_ (fun k hk hb => ?_) ?_
    · rw [← hmem k hk, W.rest k, List.mem_cons]
      constructor
      · rintro ⟨⟨_, a⟩, b⟩ (h | h)
        · exact a h
        · exact b h
      · intro h
        exact ⟨⟨hk, fun a => h (.inl a)⟩, fun b => h (.inr b)⟩
    · have e : restF m i.cost.length 0 = memsM m := by
        unfold restF
        rw [List.drop_zero, ← memsM_range hsub (by omega)]
      rw [e]
      show _ = leastF _ (-1) (match walkP i.cost p with | none => [] | some (m, _, _) => intsN (memsM m))
      rw [hp]
    · have hs := walkP_snoc h1 h24 hp ((hmem k hk).2 hb)
      have h4 := boundT_below (mirror := false) h1 h24 (ends_num rok) (fun h => by cases h) hs
      rw [show i.cost.length - 1 - (p ++ [(k : Int)]).length = f by rw [List.length_append, List.length_singleton]; omega] at h4
      omega
    · rintro k A d q hkn hb rfl W' x hq
      have hs := walkP_snoc h1 h24 hp ((hmem k hkn).2 hb)
      have e3 : intsN (0 :: l) ++ [(k : Int)] = 0 :: (p ++ [(k : Int)]) := by rw [e2]; rfl
      rw [e3] at hq ⊢
      exact best3_any i us hc hk f A d _ _ _ _ W' hs (by rw [List.length_append, List.length_singleton]; omega) (H.ext x) hq
set_option maxRecDepth 100000 in
set_option maxHeartbeats 8000000 in
theorem rbest13_any (i : InstP) (us : List Value) (hc : checkP i = 0) (hk : i.kind = 3) (P : Option Addr) (c : Nat) (p : List Int) (m last : Nat) (cost : Int) (w : World) (hp : walkP i.cost p = some (m, last, cost)) (H : RInst w us i) (hP : RdI w P p) (lp : p.length ≤ 1000) :
    Calls Tryd.prog 44 #[.agg (List.toArray us), .slice P p.length c] w fun e w' => e = .returned (.int .i64 (bestT i.cost (i.cost.length - 1 - p.length) p)) ∧ Ext w w' := by
  have BE := fun (W : World) (x : Ext w W) (Q : Option Addr) (d : Nat) (hQ : RdI W Q (0 :: p)) => best3_any i us hc hk _ Q d p m last cost W hp rfl (H.ext x) hQ
  generalize bestT i.cost (i.cost.length - 1 - p.length) p = bs at *
  obtain ⟨kind, nn, cap, xw, xv, co⟩ := i
  obtain ⟨A, a, B, b, D, d, rfl, -, -, -⟩ := H
  simp only at *
  replace BE := Lib.hid BE
  replace hP := Lib.hid hP
  have B1 : Blk (w.alloc (.cells #[.int .i64 kind, .int .i64 nn, .int .i64 cap, .slice A xw.length a, .slice B xv.length b, .slice D co.length d] 25)) w.heap.size 25 #[.int .i64 kind, .int .i64 nn, .int .i64 cap, .slice A xw.length a, .slice B xv.length b, .slice D co.length d] := .new rfl
  have X0 : Ext w (w.alloc (.cells #[.int .i64 kind, .int .i64 nn, .int .i64 cap, .slice A xw.length a, .slice B xv.length b, .slice D co.length d] 25)) := (Ext.rf _).alloc _
  clear hc hk hp
  go_enter Tryd.func44, Tryd.ntmps44
  go_upto_region 1 with (fail)
  generalize w.alloc (.cells #[.int .i64 kind, .int .i64 nn, .int .i64 cap, .slice A xw.length a, .slice B xv.length b, .slice D co.length d] 25) = w1 at *
  refine wp_region_any (by kernel_rfl) ?_
  change wpAny _ _ _ _ _ _ _ (World.drew _)
  refine wpAny_T (i := 2) (op := Op.move (Operand.tmp 1)) (t := 22) (d := some 7) (v := ?_) rfl (by decide +kernel) (by decide +kernel) (by decide +kernel) (fun _ _ _ h => h) ?_ ?_
  case refine_2 => (intro _; unfold exec2; go_simp; try with_reducible rfl)
  try simp only [Act.put, List.setIfInBounds_toArray, List.set_cons_zero, List.set_cons_succ]
  refine wpAny_core2 (n := 2) [(0, some 5), (1, some 6), (3, some 8)] (Ext w1)
    (VF (fun | 0 => some (.agg #[.int .i64 kind, .int .i64 nn, .int .i64 cap, .slice A xw.length a, .slice B xv.length b, .slice D co.length d]) | _ => none)
      (fun i v W => (i = 1 → ∃ g, v = .slice (some ⟨g, 0, none⟩) 1 1 ∧ Blk W g 3 #[.int .i64 0] ∧ w1.heap.size ≤ g) ∧ (i = 3 → ∃ A c, v = .slice A (0 :: p).length c ∧ OwI W w1.heap.size A c (0 :: p))))
    Ext #[true, true, true, true, false, false] (by decide +kernel) (VF.stab ?_) ?_ ?_ ((Ext.rf _).drew)
  · intro j v W W' _ h hx
    refine ⟨fun e => ?_, fun e => ?_⟩
    · obtain ⟨g, h1, h2, h3⟩ := h.1 e
      exact ⟨g, h1, h2.ext hx, h3⟩
    · obtain ⟨A, c, h1, h2⟩ := h.2 e
      exact ⟨A, c, h1, h2.ext hx⟩
  · intro pq hpm u W hRW hD K hK
    have b2 := B1.ext hRW
    have r0 : W.cell? ⟨w.heap.size, 0, none⟩ = some (.int .i64 kind) := b2.cell 0
    have r1 : W.cell? ⟨w.heap.size, 1, none⟩ = some (.int .i64 nn) := b2.cell 1
    have r2 : W.cell? ⟨w.heap.size, 2, none⟩ = some (.int .i64 cap) := b2.cell 2
    have r3 : W.cell? ⟨w.heap.size, 3, none⟩ = some (.slice A xw.length a) := b2.cell 3
    have r4 : W.cell? ⟨w.heap.size, 4, none⟩ = some (.slice B xv.length b) := b2.cell 4
    have r5 : W.cell? ⟨w.heap.size, 5, none⟩ = some (.slice D co.length d) := b2.cell 5
    simp only [List.mem_cons, List.not_mem_nil, or_false] at hpm
    rcases hpm with rfl | rfl | rfl
    · exact op_ld (T := 25) rfl (.pointer (some ⟨w.heap.size, 0, none⟩)) (by kernel_rfl) (.agg #[.int .i64 kind, .int .i64 nn, .int .i64 cap, .slice A xw.length a, .slice B xv.length b, .slice D co.length d]) (by go_simp) (hK _ _ (VF.mk rfl) hRW (Ext.rf _))
    · exact op_bs1 rfl (.int .i64 0) (by kernel_rfl) _ (ibs1_run _ _) (hK _ _ (VF.mg rfl ⟨fun _ => ⟨_, rfl, .new rfl, hRW.size⟩, (fun h => by cases h)⟩) (hRW.alloc _) ((Ext.rf _).alloc _))
    · obtain ⟨g, h1, b1, z1⟩ := ((hD 1 (depIn (by kernel_rfl))).g rfl).1 rfl
      obtain ⟨A6, c6, w6, hrun, o6, x6⟩ := run_fresh_i W w1.heap.size 22 g 0 p P c b1 z1 (hP.out.ext (X0.tr hRW)) (by omega)
      exact op_app rfl _ (.slice P p.length c) (Eq.trans (b := u 1) (by kernel_rfl) h1) (by kernel_rfl) _ hrun (hK _ _ (VF.mg rfl ⟨(fun h => by cases h), fun _ => ⟨A6, c6, rfl, o6⟩⟩) (hRW.tr x6) x6)
  · intro u W hRW hV
    have h0 := (hV (0, some 5) (by simp)).k rfl
    obtain ⟨A6, c6, h3, o6⟩ := ((hV (3, some 8) (by simp)).g rfl).2 rfl
    simp only [putAll, h0, h3]
    have XW := X0.tr hRW
    try simp only [Act.put, List.setIfInBounds_toArray, List.set_cons_zero, List.set_cons_succ]
    refine wpAny_next 4 (by decide +kernel) (op_call (f := 58) (xs := #[Operand.tmp 5, Operand.tmp 8]) (ts := #[25, 22]) (t := 3) (d := some 9) rfl #[.agg #[.int .i64 kind, .int .i64 nn, .int .i64 cap, .slice A xw.length a, .slice B xv.length b, .slice D co.length d], .slice A6 (0 :: p).length c6] (by go_simp) (by kernel_rfl) _ (BE.out W XW A6 c6 o6.read) ?_)
    rintro e w8 ⟨rfl, x8⟩
    refine ⟨_, rfl, ?_⟩
    try simp only [Act.put, List.setIfInBounds_toArray, List.set_cons_zero, List.set_cons_succ]
    refine wpAny_T (i := 5) (op := Op.assign (Operand.tmp 9)) (t := 3) (d := some 4) (v := ?_) rfl (by decide +kernel) (by decide +kernel) (by decide +kernel) (fun _ _ _ h => h) ?_ ?_
    case refine_2 => (intro _; unfold exec2; go_simp; try with_reducible rfl)
    try simp only [Act.put, List.setIfInBounds_toArray, List.set_cons_zero, List.set_cons_succ]
    refine wpAny_done (by kernel_rfl) ?_ _
    have X8 := Lib.hid (XW.tr x8)
    clear x8 XW o6 hRW hV h0 h3
    go_simp
    go_wp2_with (fail)
    go_ret
    exact ⟨rfl, X8.out⟩
theorem factN_bd : ∀ n : Nat, n ≤ 23 → 0 < factN n ∧ (n ≤ 12 → factN n ≤ 479001600) := by
  decide +kernel
set_option maxRecDepth 100000 in
set_option maxHeartbeats 8000000 in
theorem ranswers13_any (i : InstP) (us : List Value) (X : Value) (w : World) (H : RInst w us i) (n : Nat) (hn : i.n = n) (h1 : 1 ≤ n) (h12 : n ≤ 12) :
    Calls Tryd.prog 45 #[.agg (List.toArray us), X] w fun e w' => e = .returned (.int .i64 (factN (n - 1))) ∧ Ext w w' := by
  obtain ⟨kind, nn, cap, xw, xv, co⟩ := i
  obtain ⟨A, a, B, b, D, d, rfl, -, -, -⟩ := H
  simp only at *
  subst hn
  have B1 : Hid (Blk (w.alloc (.cells #[.int .i64 kind, .int .i64 n, .int .i64 cap, .slice A xw.length a, .slice B xv.length b, .slice D co.length d] 25)) w.heap.size 25 #[.int .i64 kind, .int .i64 n, .int .i64 cap, .slice A xw.length a, .slice B xv.length b, .slice D co.length d]) := .new rfl
  have X0 : Hid (Ext w (w.alloc (.cells #[.int .i64 kind, .int .i64 n, .int .i64 cap, .slice A xw.length a, .slice B xv.length b, .slice D co.length d] 25))) := (Ext.rf _).alloc _
  go_enter Tryd.func45, Tryd.ntmps45
  go_wp2_with (fail)
  have c1 : (w.alloc (.cells #[.int .i64 kind, .int .i64 n, .int .i64 cap, .slice A xw.length a, .slice B xv.length b, .slice D co.length d] 25)).cell? ⟨w.heap.size, 1, none⟩ = some (.int .i64 n) := B1.out.cell 1
  generalize w.alloc (.cells #[.int .i64 kind, .int .i64 n, .int .i64 cap, .slice A xw.length a, .slice B xv.length b, .slice D co.length d] 25) = w1 at *
  go_loop [5, 6] (fun v5 v6 => ∃ k : Nat, 1 ≤ k ∧ v6 = .int .i64 ((k : Int) + 1) ∧ v5 = .int .i64 (factN k) ∧ k ≤ max 1 (n - 1)) (fun _ v6 => n - (intOf v6).toNat)
  case atStart => exact ⟨1, by omega, rfl, rfl, by omega⟩
  case round =>
    obtain ⟨k, hk1, rfl, rfl, hk⟩ := hrel
    by_cases hlt : k + 1 < n
    · have q1 : (k : Int) + 1 < (n : Int) := by omega
      have hf : (factN (k + 1) : Int) = (factN k : Int) * ((k : Int) + 1) := by
        show (((k + 1) * factN k : Nat) : Int) = _
        rw [Int.natCast_mul, Int.mul_comm]
        rfl
      have hb := (factN_bd (k + 1) (by omega)).2 (by omega)
      have hw : IntKind.i64.wrap ((factN k : Int) * ((k : Int) + 1)) = (factN (k + 1) : Int) := by
        rw [← hf]
        exact IntWalk.i64_in _ (by omega)
      have hw2 : IntKind.i64.wrap ((k : Int) + 1 + 1) = (k : Int) + 1 + 1 := IntWalk.i64_in _ (by omega)
      clear hf
      go_wp2_with (fail)
      go_round
      case rel => exact ⟨k + 1, by omega, by go_num, rfl, by omega⟩
      case measure => simp only [intOf]; omega
    · have q1 : ¬ (k : Int) + 1 < (n : Int) := by omega
      have e : factN k = factN (n - 1) := by
        by_cases h : n = 1
        · subst h
          obtain rfl : k = 1 := by omega
          rfl
        · rw [show k = n - 1 by omega]
      go_wp2_with (fail)
      go_ret
      exact ⟨rfl, X0.out⟩
end Go.Proofs.YtpngflmngnjjoaaDoor
