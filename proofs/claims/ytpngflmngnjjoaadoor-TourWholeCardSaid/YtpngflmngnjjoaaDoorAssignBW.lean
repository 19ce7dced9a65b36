/-
  kurganref08.Small, Perm, Cost and Best at a checked assignment.
-/
import Derived.Test.YtpngflmngnjjoaaDoorAssignBP
import Derived.Test.YtpngflmngnjjoaaDoorCore3
import Derived.Test.YtpngflmngnjjoaaDoorInstLaw
namespace Go.Proofs.YtpngflmngnjjoaaDoor
open Go.RowKit Go.ChangeShapes Go.WideShapes Go.ChangeAt Go.Deep

set_option maxRecDepth 100000 in
set_option maxHeartbeats 2000000 in
theorem small2_any (i : InstP) (us : List Value) (w : World) (H : RInst w us i) (hc : checkP i = 0) (hk : i.kind = 2) :
    Calls Tryd.prog 28 #[.agg (List.toArray us)] w fun e w' => e = .returned (.bool (decide (i.n ≤ 6))) ∧ Ext w w' := by
  have CH := fun (W : World) (x : Ext w W) => rcheck_any i us W (H.ext x)
  rw [hc] at CH
  obtain ⟨kind, nn, cap, xw, xv, co⟩ := i
  obtain ⟨A, a, B, b, D, d, rfl, -, -, -⟩ := H
  simp only at *
  subst hk
  replace CH := Lib.hid CH
  clear hc
  have B1 : Hid (Blk (w.alloc (.cells #[.int .i64 2, .int .i64 nn, .int .i64 cap, .slice A xw.length a, .slice B xv.length b, .slice D co.length d] 25)) w.heap.size 25 #[.int .i64 2, .int .i64 nn, .int .i64 cap, .slice A xw.length a, .slice B xv.length b, .slice D co.length d]) := .new rfl
  obtain ⟨bb, hbb⟩ : ∃ bb, Hid (decide (nn ≤ 6) = bb) := ⟨_, rfl⟩
  rw [hbb.out]
  have hb2 : decide (nn ≤ 6) = bb := hbb.out
  go_enter Tryd.func28, Tryd.ntmps28
  go_wp2_with (fail)
  refine (CH.out _ (by (repeat (first | assumption | exact Ext.rf _ | apply Ext.drew | apply Ext.drewN | apply Ext.alloc)))).mono ?_
  rintro e w1 ⟨rfl, x1⟩
  have X1 := Lib.hid (Ext.tr (a := w) (by (repeat (first | assumption | exact Ext.rf _ | apply Ext.drew | apply Ext.drewN | apply Ext.alloc))) x1)
  have b0 : w1.cell? ⟨w.heap.size, 0, none⟩ = some (.int .i64 2) := (B1.out.ext x1).cell 0
  have b1 : w1.cell? ⟨w.heap.size, 1, none⟩ = some (.int .i64 nn) := (B1.out.ext x1).cell 1
  clear x1 B1
  go_wp2_with (fail)
  go_ret
  exact ⟨by first | rfl | simp [hbb.out], X1.out⟩
theorem count_one {k : Nat} : ∀ {l : List Nat}, l.Nodup → k ∈ l → l.count k = 1
  | [], _, h => by cases h
  | x :: l, hd, h => by
    have hd' := List.nodup_cons.1 hd
    by_cases e : x = k
    · subst e
      rw [List.count_cons_self, List.count_eq_zero.2 hd'.1]
    · rw [List.count_cons_of_ne e]
      rcases List.mem_cons.1 h with h | h
      · exact absurd h.symm e
      · exact count_one hd'.2 h
set_option maxRecDepth 100000 in
set_option maxHeartbeats 2000000 in
theorem perm_yes (P : Option Addr) (c n : Nat) (l : List Nat) (w : World) (hP : RdI w P (intsN l)) (hl : l.Perm (List.range n)) (hn : n ≤ 1000) :
    Calls Tryd.prog 59 #[.slice P n c, .int .i64 n] w fun e w' => e = .returned (.bool true) ∧ Ext w w' := by
  have hlen : Hid (l.length = n) := by
    have h : l.length = n := by rw [hl.length_eq, List.length_range]
    exact h
  have C1 : Hid (∀ k, k < n → l.count k = 1) := fun k hk => by
    rw [hl.count_eq]
    exact count_one List.nodup_range (List.mem_range.2 hk)
  have ne0 : ((n : Int) != (n : Int)) = false := by simp
  replace hP := Lib.hid hP
  clear hl
  go_enter Tryd.func59, Tryd.ntmps59
  go_wp2_with (fail)
  go_loopw [5] (fun v wr => ∃ k : Nat, v = .int .i64 k ∧ k ≤ n ∧ Hid (Ext w wr)) (fun v _ => n - (intOf v).toNat)
  case atStart => exact ⟨0, rfl, by omega, Ext.rf _⟩
  case round =>
    obtain ⟨wo, rfl⟩ : ∃ wo : World, wo = wr := ⟨_, rfl⟩
    obtain ⟨k, rfl, hk, Y⟩ := hrel
    by_cases hkn : k < n
    · have q1 : (k : Int) < (n : Int) := by omega
      have c1 := C1.out k hkn
      replace c1 := Lib.hid c1
      go_wp2_with (fail)
      go_loopw [7, 6] (fun v fv wr => ∃ j : Nat, v = .int .i64 j ∧ fv = .int .i64 ((l.take j).count k : Nat) ∧ j ≤ n ∧ Hid (Ext w wr)) (fun v _ _ => n - (intOf v).toNat)
      case atStart => exact ⟨0, rfl, by rw [List.take_zero, List.count_nil]; rfl, by omega, Y⟩
      case round =>
        obtain ⟨wi, rfl⟩ : ∃ wi : World, wi = wr := ⟨_, rfl⟩
        obtain ⟨j, rfl, rfl, hj, YI⟩ := hrel
        have hcl := List.count_le_length (a := k) (l := l.take j)
        rw [List.length_take] at hcl
        by_cases hjn : j < n
        · have q2 : (j : Int) < (n : Int) := by omega
          have ej : l[j]? = some (l[j]'(by rw [hlen.out]; exact hjn)) := List.getElem?_eq_getElem _
          generalize l[j]'(by rw [hlen.out]; exact hjn) = y at ej
          obtain ⟨pb, po, x, rfl, _, cx, ex, _⟩ := (hP.out.ext YI.out).at (k := j) (by rw [intsN_len, hlen.out]; exact hjn)
          obtain rfl : x = (y : Int) := by
            have h := ex.out
            rw [intsN_get ej] at h
            exact (Option.some.inj h).symm
          have HC : Hid ((l.take (j + 1)).count k = (l.take j).count k + if y = k then 1 else 0) := by
            have h : (l.take (j + 1)).count k = (l.take j).count k + if y = k then 1 else 0 := by
              rw [List.take_add_one, ej, List.count_append]
              simp [List.count_cons]
            exact h
          clear ex ej
          generalize (l.take j).count k = cn at *
          by_cases hyk : y = k
          · subst hyk
            rw [if_pos rfl] at HC
            go_wp2_with (fail)
            go_roundw
            case rel => exact ⟨j + 1, by go_num, by rw [HC.out]; go_num, by omega, YI⟩
            case measure => simp [intOf]; omega
          · have HC2 : Hid ((l.take (j + 1)).count k = cn) := by
              have h := HC.out
              rw [if_neg hyk] at h
              exact h
            clear HC
            have t1 : (y == k) = false := by rw [beq_eq_false_iff_ne]; exact hyk
            have t2 : ((y : Int) == (k : Int)) = false := by rw [beq_eq_false_iff_ne]; omega
            go_wp2_with (fail)
            go_roundw
            case rel => exact ⟨j + 1, by go_num, by rw [HC2.out], by omega, YI⟩
            case measure => simp [intOf]; omega
        · have q2 : ¬ (j : Int) < (n : Int) := by omega
          have e1 : (l.take j).count k = 1 := by
            rw [List.take_of_length_le (by rw [hlen.out]; omega)]
            exact c1.out
          rw [e1]
          clear e1 hcl
          go_wp2_with (fail)
          go_roundw
          case rel => exact ⟨k + 1, by go_num, by omega, YI⟩
          case measure => simp [intOf]; omega
    · have q1 : ¬ (k : Int) < (n : Int) := by omega
      go_wp2_with (fail)
      go_ret
      exact ⟨rfl, Y.out⟩
set_option maxRecDepth 100000 in
set_option maxHeartbeats 4000000 in
theorem cost2_any (i : InstP) (us : List Value) (P : Option Addr) (c : Nat) (l : List Nat) (w : World) (H : RInst w us i) (hc : checkP i = 0) (hk : i.kind = 2) (hP : RdI w P (intsN l)) (hl : l.Perm (List.range i.cost.length)) :
    Calls Tryd.prog 30 #[.agg (List.toArray us), .slice P i.cost.length c] w fun e w' => e = .returned (.tuple #[.int .i64 (costF i.cost (intsN l)), .int .i64 0]) ∧ Ext w w' := by
  have CH := fun (W : World) (x : Ext w W) => rcheck_any i us W (H.ext x)
  rw [hc] at CH
  have sq := square_ok hc (by omega)
  have rok := rows_ok sq
  have hnn : i.n = (i.cost.length : Int) := sq.len.symm
  have PE := fun (W : World) (x : Ext w W) => perm_yes P c i.cost.length l W (hP.ext x) hl (by have := rok.n2; omega)
  have hlt : Hid (∀ x ∈ l, x < i.cost.length) := fun x hx => List.mem_range.1 (hl.mem_iff.1 hx)
  have hlen : Hid (l.length = i.cost.length) := by
    have h : l.length = i.cost.length := by rw [hl.length_eq, List.length_range]
    exact h
  have n24 := rok.n2
  clear hl hc sq
  obtain ⟨kind, nn, cap, xw, xv, co⟩ := i
  obtain ⟨A, a, B, b, D, d, rfl, -, -, ⟨hC, -, -⟩⟩ := H
  simp only at *
  subst hk hnn
  replace CH := Lib.hid CH
  replace PE := Lib.hid PE
  replace hP := Lib.hid hP
  replace hC := Lib.hid hC
  replace rok := Lib.hid rok
  have B1 : Hid (Blk (w.alloc (.cells #[.int .i64 2, .int .i64 co.length, .int .i64 cap, .slice A xw.length a, .slice B xv.length b, .slice D co.length d] 25)) w.heap.size 25 #[.int .i64 2, .int .i64 co.length, .int .i64 cap, .slice A xw.length a, .slice B xv.length b, .slice D co.length d]) := .new rfl
  go_enter Tryd.func30, Tryd.ntmps30
  go_wp2_with (fail)
  refine (CH.out _ (by (repeat (first | assumption | exact Ext.rf _ | apply Ext.drew | apply Ext.drewN | apply Ext.alloc)))).mono ?_
  rintro e w1 ⟨rfl, x1⟩
  have X1 := Lib.hid (Ext.tr (a := w) (by (repeat (first | assumption | exact Ext.rf _ | apply Ext.drew | apply Ext.drewN | apply Ext.alloc))) x1)
  have BB := Lib.hid (B1.out.ext x1)
  have d0 : w1.cell? ⟨w.heap.size, 0, none⟩ = some (.int .i64 2) := BB.out.cell 0
  have d1 : w1.cell? ⟨w.heap.size, 1, none⟩ = some (.int .i64 co.length) := BB.out.cell 1
  clear x1
  go_wp2_with (fail)
  refine (PE.out _ X1.out).mono ?_
  rintro e w2 ⟨rfl, x2⟩
  have X2 := Lib.hid (X1.out.tr x2)
  have BC := Lib.hid (BB.out.ext x2)
  have e0 : w2.cell? ⟨w.heap.size, 0, none⟩ = some (.int .i64 2) := BC.out.cell 0
  clear x2 d0 d1 BB
  go_wp2_with (fail)
  go_loopw [8, 7] (fun v s wr => ∃ (k : Nat) (su : Int), v = .int .i64 k ∧ s = .int .i64 su ∧ k ≤ co.length ∧ Hid (costF co ((intsN l).take k) = su) ∧ Hid (Ext w2 wr)) (fun v _ _ => co.length - (intOf v).toNat)
  case atStart => exact ⟨0, 0, rfl, rfl, by omega, (by cases co <;> rfl : costF co ((intsN l).take 0) = 0), Ext.rf _⟩
  case round =>
    obtain ⟨wo, rfl⟩ : ∃ wo : World, wo = wr := ⟨_, rfl⟩
    obtain ⟨k, su, rfl, rfl, hk, HS, Y⟩ := hrel
    have bdS : Hid (0 ≤ su ∧ su ≤ 2147483647 * 24) := by
      have h1 := costF_bd (B := 2147483647) (rows := co) (p := (intsN l).take k) (by omega) fun row hr c hc => by
        obtain ⟨q, hq, rfl⟩ := List.mem_map.1 (List.mem_of_mem_take hc)
        have := hlt.out q hq
        exact rok.out.get hr (by omega)
      have h2 : ((intsN l).take k).length ≤ 24 := by rw [List.length_take]; omega
      have h : 0 ≤ su ∧ su ≤ 2147483647 * 24 := by
        rw [← HS.out]
        omega
      exact h
    have d0 : wo.cell? ⟨w.heap.size, 0, none⟩ = some (.int .i64 2) := (BC.out.ext Y.out).cell 0
    have d1 : wo.cell? ⟨w.heap.size, 1, none⟩ = some (.int .i64 co.length) := (BC.out.ext Y.out).cell 1
    have d5 : wo.cell? ⟨w.heap.size, 5, none⟩ = some (.slice D co.length d) := (BC.out.ext Y.out).cell 5
    have XW := Lib.hid (X2.out.tr Y.out)
    clear e0
    by_cases hkl : k < co.length
    · obtain ⟨cb, cof, D', row, d', rfl, _, cD, er, _, rD, iD, ld, md⟩ := (hC.out.ext XW.out fun _ _ h => h.ext XW.out).ints hkl
      have hmem := List.mem_of_getElem? er.out
      obtain ⟨pb, po, x, rfl, zp, cp, ep, _⟩ := (hP.out.ext XW.out).at (k := k) (by rw [intsN_len, hlen.out]; exact hkl)
      obtain ⟨q, hq, rfl⟩ := List.mem_map.1 (List.mem_of_getElem? ep.out)
      have hqn := hlt.out q hq
      have lrow := rok.out.row row hmem
      obtain ⟨rb, ro, y, rfl, zy, cy, ey, _⟩ := rD.at (k := q) (by omega)
      have yb := rok.out.get hmem (c := q) (by omega)
      rw [getD_some ey.out] at yb
      have b1 := bdS.out
      have hw : IntKind.i64.wrap (su + y) = su + y := IntWalk.i64_in _ (by omega)
      have HS2 : Hid (costF co ((intsN l).take (k + 1)) = su + y) := by
        have h : costF co ((intsN l).take (k + 1)) = su + y := by
          rw [costF_snoc er.out ep.out, HS.out, Int.toNat_natCast, getD_some ey.out]
        exact h
      have q1 : (k : Int) < (co.length : Int) := by omega
      have q3 : (q : Int) < (row.length : Int) := by omega
      clear er ep ey lrow b1 yb HS hq rD hmem
      go_wp2_with (fail)
      go_quiet (fail)
      go_wp2_with (fail)
      go_roundw
      case rel => exact ⟨k + 1, su + y, by go_num, rfl, by omega, HS2, Y.out.drewN _⟩
      case measure => simp [intOf]; omega
    · have q1 : ¬ (k : Int) < (co.length : Int) := by omega
      have HS2 : Hid (costF co (intsN l) = su) := by
        have h := HS.out
        rw [List.take_of_length_le (by rw [intsN_len, hlen.out]; omega)] at h
        exact h
      go_wp2_with (fail)
      go_ret2
      rw [HS2.out]
      exact ⟨rfl, XW.out⟩
set_option maxRecDepth 100000 in
theorem ibs0_run (u : World) : (Instr.buildSlice 22 0 #[]).run Tryd.prog u = .ok (.slice (some ⟨u.heap.size, 0, none⟩) 0 0) (u.alloc (.cells #[] 3)) := by go_simp
set_option maxRecDepth 100000 in
theorem ibs1_run (u : World) (x : Int) : (Instr.buildSlice 22 1 #[(0, .int .i64 x)]).run Tryd.prog u = .ok (.slice (some ⟨u.heap.size, 0, none⟩) 1 1) (u.alloc (.cells #[.int .i64 x] 3)) := by go_simp
/-- the columns that are left from k on -/
def restF (m n k : Nat) : List Nat := ((List.range n).drop k).filter fun c => m.testBit c
theorem restF_step {m n k : Nat} (h : k < n) : restF m n k = if m.testBit k = true then k :: restF m n (k + 1) else restF m n (k + 1) := by
  unfold restF
  have h' : k < (List.range n).length := by rw [List.length_range]; exact h
  rw [List.drop_eq_getElem_cons h', List.getElem_range, List.filter_cons]
set_option maxRecDepth 100000 in
set_option maxHeartbeats 8000000 in
theorem best2_more (i : InstP) (us : List Value) (P : Option Addr) (c : Nat) (l : List Nat) (w : World) (H : RInst w us i) (hk2 : i.kind = 2) (hP : RdI w P (intsN l)) (n m : Nat) (hn : i.n = n) (hn24 : n ≤ 24) (hlen : l.length < n) (bs : Int) (f : Int → Int)
    (hused : ∀ k, k < n → (m.testBit k = true ↔ k ∉ l)) (e5 : leastF f (-1) (intsN (restF m n 0)) = bs) (fpos : ∀ k, k < n → m.testBit k = true → 0 ≤ f (k : Int))
    (IH3 : ∀ (k : Nat) (A : Option Addr) (d : Nat) (q : List Int), k < n → m.testBit k = true → q = intsN l ++ [(k : Int)] → ∀ W : World, Ext w W → RdI W A q → Calls Tryd.prog 58 #[.agg (List.toArray us), .slice A q.length d] W fun e w' => e = .returned (.int .i64 (f k)) ∧ Ext W w') :
    Calls Tryd.prog 58 #[.agg (List.toArray us), .slice P l.length c] w fun e w' => e = .returned (.int .i64 bs) ∧ Ext w w' := by
  obtain ⟨kind, nn, cap, xw, xv, co⟩ := i
  obtain ⟨A, a, B, b, D, d, rfl, -, -, -⟩ := H
  simp only at *
  subst hk2 hn
  replace IH3 := Lib.hid IH3
  replace e5 := Lib.hid e5
  replace hP := Lib.hid hP
  replace hused := Lib.hid hused
  replace fpos := Lib.hid fpos
  have hne : ((l.length : Int) == (n : Int)) = false := by rw [beq_eq_false_iff_ne]; omega
  have B1 : Hid (Blk (w.alloc (.cells #[.int .i64 2, .int .i64 n, .int .i64 cap, .slice A xw.length a, .slice B xv.length b, .slice D co.length d] 25)) w.heap.size 25 #[.int .i64 2, .int .i64 n, .int .i64 cap, .slice A xw.length a, .slice B xv.length b, .slice D co.length d]) := .new rfl
  have X0 : Hid (Ext w (w.alloc (.cells #[.int .i64 2, .int .i64 n, .int .i64 cap, .slice A xw.length a, .slice B xv.length b, .slice D co.length d] 25))) := (Ext.rf _).alloc _
  obtain ⟨w1, hw1⟩ : ∃ w1, w1 = (w.alloc (.cells #[.int .i64 2, .int .i64 n, .int .i64 cap, .slice A xw.length a, .slice B xv.length b, .slice D co.length d] 25)) := ⟨_, rfl⟩
  have B2 : Hid (Blk w1 w.heap.size 25 #[.int .i64 2, .int .i64 n, .int .i64 cap, .slice A xw.length a, .slice B xv.length b, .slice D co.length d]) := by rw [hw1]; exact B1.out
  have X1 : Hid (Ext w w1) := by rw [hw1]; exact X0.out
  replace hw1 := Lib.hid hw1
  clear B1
  go_enter Tryd.func58, Tryd.ntmps58
  go_wp2_with (fail)
  rw [← hw1.out]
  clear X0
  go_loopw [9, 7] (fun v bv wr => ∃ (k : Nat) (bb : Int), v = .int .i64 k ∧ bv = .int .i64 bb ∧ k ≤ n ∧ Hid (leastF f bb (intsN (restF m n k)) = bs) ∧ Hid (Ext w1 wr)) (fun v _ _ => n - (intOf v).toNat)
  case atStart => exact ⟨0, -1, rfl, rfl, by omega, e5, Ext.rf _⟩
  case round =>
    obtain ⟨wo, rfl⟩ : ∃ wo : World, wo = wr := ⟨_, rfl⟩
    obtain ⟨k, bb, rfl, rfl, hk, HS, Y⟩ := hrel
    by_cases hlt : k < n
    · have HN : Hid (leastF f bb (intsN (if m.testBit k = true then k :: restF m n (k + 1) else restF m n (k + 1))) = bs) := by
        have h := HS.out
        rw [restF_step hlt] at h
        exact h
      have q1 : (k : Int) < (n : Int) := by omega
      have B3 := B2.out.ext Y.out
      have zb3 := B3.lt
      have c0 : wo.cell? ⟨w.heap.size, 0, none⟩ = some (.int .i64 2) := B3.cell 0
      have HU := hused.out k hlt
      replace HU := Lib.hid HU
      replace B3 := Lib.hid B3
      clear HS
      go_wp2_with (fail)
      go_loopw [11, 10] (fun v uv wr => ∃ j : Nat, v = .int .i64 j ∧ uv = .bool ((l.take j).contains k) ∧ j ≤ l.length ∧ wr = wo) (fun v _ _ => l.length - (intOf v).toNat)
      case atStart => exact ⟨0, rfl, rfl, by omega, rfl⟩
      case round =>
        obtain ⟨j, rfl, rfl, hj, hwr⟩ := hrel
        have hwr' : wo = wr := (show wr = wo from hwr).symm
        clear hwr
        subst hwr'
        by_cases hjl : j < l.length
        · have q2 : (j : Int) < (l.length : Int) := by omega
          have ej : l[j]? = some l[j] := List.getElem?_eq_getElem hjl
          generalize l[j] = y at ej
          obtain ⟨pb, po, x, rfl, _, cx, ex, _⟩ := (hP.out.ext (X1.out.tr Y.out)).at (k := j) (by rw [intsN_len]; exact hjl)
          obtain rfl : x = (y : Int) := by
            have h := ex.out
            rw [intsN_get ej] at h
            exact (Option.some.inj h).symm
          have HC : Hid ((l.take (j + 1)).contains k = ((l.take j).contains k || (y == k))) := by
            have h : (l.take (j + 1)).contains k = ((l.take j).contains k || (y == k)) := by
              rw [List.take_add_one, ej, Bool.eq_iff_iff, Bool.or_eq_true, List.contains_iff_mem, List.contains_iff_mem, beq_iff_eq]
              show k ∈ l.take j ++ [y] ↔ _
              rw [List.mem_append, List.mem_singleton]
              exact ⟨fun h => h.imp id Eq.symm, fun h => h.imp id Eq.symm⟩
            exact h
          clear ex ej
          cases hb : (l.take j).contains k with
          | true =>
            have HC2 : Hid ((l.take (j + 1)).contains k = true) := by
              have h := HC.out
              rw [hb, Bool.true_or] at h
              exact h
            clear HC hb
            go_wp2_with (fail)
            go_roundw
            case rel => exact ⟨j + 1, by go_num, by rw [HC2.out], by omega, by first | exact rfl | exact trivial⟩
            case measure => simp [intOf]; omega
          | false =>
            obtain ⟨yk, hyk⟩ : ∃ yk, Hid ((y == k) = yk) := ⟨_, rfl⟩
            have HC2 : Hid ((l.take (j + 1)).contains k = yk) := by
              have h := HC.out
              rw [hb, Bool.false_or, hyk.out] at h
              exact h
            have t1 : (y == k) = yk := hyk.out
            have t2 : ((y : Int) == (k : Int)) = yk := by
              rw [← hyk.out, Bool.eq_iff_iff, beq_iff_eq, beq_iff_eq]
              omega
            clear HC hb
            go_wp2_with (fail)
            go_roundw
            case rel => exact ⟨j + 1, by go_num, by rw [HC2.out], by omega, by first | exact rfl | exact trivial⟩
            case measure => simp [intOf]; omega
        · have q2 : ¬ (j : Int) < (l.length : Int) := by omega
          rw [List.take_of_length_le (by omega)]
          cases hb : m.testBit k with
          | false =>
            have hu : l.contains k = true := by
              rw [List.contains_iff_mem]
              cases hd : decide (k ∈ l) with
              | true => exact of_decide_eq_true hd
              | false =>
                have := HU.out.2 (of_decide_eq_false hd)
                rw [hb] at this
                cases this
            have HN2 : Hid (leastF f bb (intsN (restF m n (k + 1))) = bs) := by
              have h := HN.out
              rw [hb, if_neg (by simp)] at h
              exact h
            rw [hu]
            clear HN hb hu
            go_wp2_with (fail)
            go_roundw
            case rel => exact ⟨k + 1, bb, by go_num, rfl, by omega, HN2, Y⟩
            case measure => simp [intOf]; omega
          | true =>
            have hu : l.contains k = false := by
              cases hd : l.contains k with
              | false => rfl
              | true => exact absurd (List.contains_iff_mem.1 hd) (HU.out.1 hb)
            have HN2 : Hid (leastF f (if bb < 0 then f (k : Int) else if f (k : Int) < bb then f (k : Int) else bb) (intsN (restF m n (k + 1))) = bs) := by
              have h := HN.out
              rw [hb, if_pos rfl] at h
              exact h
            have IHk := Lib.hid (fun (A : Option Addr) (d : Nat) (q : List Int) (hq : q = intsN l ++ [(k : Int)]) => IH3.out k A d q hlt hb hq)
            have fk := fpos.out k hlt hb
            rw [hu]
            generalize f (k : Int) = fv at *
            clear HN hb hu HU
            have c1' : wo.cell? ⟨w.heap.size, 1, none⟩ = some (.int .i64 n) := B3.out.cell 1
            have c2 : wo.cell? ⟨w.heap.size, 2, none⟩ = some (.int .i64 cap) := B3.out.cell 2
            have c3 : wo.cell? ⟨w.heap.size, 3, none⟩ = some (.slice A xw.length a) := B3.out.cell 3
            have c4 : wo.cell? ⟨w.heap.size, 4, none⟩ = some (.slice B xv.length b) := B3.out.cell 4
            have c5 : wo.cell? ⟨w.heap.size, 5, none⟩ = some (.slice D co.length d) := B3.out.cell 5
            obtain ⟨q, hq⟩ : ∃ q, Hid (q = intsN l ++ [(k : Int)]) := ⟨_, rfl⟩
            have lq : q.length = l.length + 1 := by rw [hq.out]; simp [intsN]
            go_upto_region 19 with (fail)
            refine wp_region_any (by kernel_rfl) ?_
            change wpAny _ _ _ _ _ _ _ (World.drew _)
            refine wpAny_T (i := 2) (op := Op.move (Operand.tmp 1)) (t := 22) (d := some 74) (v := ?_) rfl (by decide +kernel) (by decide +kernel) (by decide +kernel) (fun _ _ _ h => h) ?_ ?_
            case refine_2 => (intro _; unfold exec2; go_simp; try with_reducible rfl)
            try simp only [Act.put, List.setIfInBounds_toArray, List.set_cons_zero, List.set_cons_succ]
            refine wpAny_T (i := 4) (op := Op.move (Operand.tmp 9)) (t := 3) (d := some 76) (v := ?_) rfl (by decide +kernel) (by decide +kernel) (by decide +kernel) (fun _ _ _ h => h) ?_ ?_
            case refine_2 => (intro _; unfold exec2; go_simp; try with_reducible rfl)
            try simp only [Act.put, List.setIfInBounds_toArray, List.set_cons_zero, List.set_cons_succ]
            refine wpAny_core3 (n := 2) [(0, some 72), (1, some 73), (3, some 75), (5, some 77), (6, some 78)] (fun | 1 => [3] | 3 => [6] | 5 => [6] | _ => []) (Ext wo)
              (VF (fun | 0 => some (.agg #[.int .i64 2, .int .i64 n, .int .i64 cap, .slice A xw.length a, .slice B xv.length b, .slice D co.length d]) | _ => none)
                (fun j v W => (j = 1 → ∃ g, v = .slice (some ⟨g, 0, none⟩) 0 0 ∧ wo.heap.size ≤ g ∧ Blk W g 3 #[]) ∧ (j = 3 → ∃ A c, v = .slice A (intsN l).length c ∧ OwI W wo.heap.size A c (intsN l)) ∧ (j = 5 → ∃ h, v = .slice (some ⟨h, 0, none⟩) 1 1 ∧ Blk W h 3 #[.int .i64 (k : Int)]) ∧ (j = 6 → ∃ A c, v = .slice A q.length c ∧ OwI W wo.heap.size A c q)))
              (fun i W W' => i ≠ 6 → Ext W W') #[true, true, true, true, true, true, true, false, false] (by kernel_rfl) (by kernel_rfl) ?_ ?_ ?_ ((Ext.rf _).drew)
            · intro i j v W W' hkp hv hs
              refine VF.stab1 (fun _ ⟨g1, g3, g8, g9⟩ => ?_) hv
              by_cases hi : i = 6
              · subst hi
                refine ⟨fun h => ?_, fun h => ?_, fun h => ?_, fun h => ?_⟩
                all_goals (subst h; exact absurd hkp (by decide +kernel))
              · have hx := hs hi
                refine ⟨fun h => ?_, fun h => ?_, fun h => ?_, fun h => ?_⟩
                · obtain ⟨g, q1, q2, q3⟩ := g1 h
                  exact ⟨g, q1, q2, q3.ext hx⟩
                · obtain ⟨A', c', q1, q2⟩ := g3 h
                  exact ⟨A', c', q1, q2.ext hx⟩
                · obtain ⟨h', q1, q2⟩ := g8 h
                  exact ⟨h', q1, q2.ext hx⟩
                · obtain ⟨A', c', q1, q2⟩ := g9 h
                  exact ⟨A', c', q1, q2.ext hx⟩
            · intro pq hpm u W hRW hD K hK
              have z2 := hRW.size
              simp only [List.mem_cons, List.not_mem_nil, or_false] at hpm
              rcases hpm with rfl | rfl | rfl | rfl | rfl
              · have r0 := keepEL hRW zb3 c0
                have r1 := keepEL hRW zb3 c1'
                have r2 := keepEL hRW zb3 c2
                have r3 := keepEL hRW zb3 c3
                have r4 := keepEL hRW zb3 c4
                have r5 := keepEL hRW zb3 c5
                exact op_ld (T := 25) rfl (.pointer (some ⟨w.heap.size, 0, none⟩)) (by kernel_rfl) (.agg #[.int .i64 2, .int .i64 n, .int .i64 cap, .slice A xw.length a, .slice B xv.length b, .slice D co.length d]) (by go_simp) (hK _ _ (VF.mk rfl) hRW (fun _ => Ext.rf _))
              · exact op_bs0 rfl _ (ibs0_run _) (hK _ _ (VF.mg rfl ⟨fun _ => ⟨_, rfl, z2, .new rfl⟩, (fun h => by cases h), (fun h => by cases h), (fun h => by cases h)⟩) (hRW.alloc _) (fun _ => (Ext.rf _).alloc _))
              · obtain ⟨g, h1, zg, bg⟩ := ((hD 1 (depIn (by kernel_rfl))).g rfl).1 rfl
                obtain ⟨A3, c3, w3, hr3, o3, x3⟩ := run_copy_i W wo.heap.size 22 g (intsN l) P c bg zg (hP.out.ext ((X1.out.tr Y.out).tr hRW)) (by rw [intsN_len]; omega)
                exact op_app rfl (.slice (some ⟨g, 0, none⟩) 0 0) (.slice P (intsN l).length c) (Eq.trans (b := u 1) (by kernel_rfl) h1) (by rw [intsN_len]; kernel_rfl) _ hr3 (hK _ _ (VF.mg rfl ⟨(fun h => by cases h), fun _ => ⟨A3, c3, rfl, o3⟩, (fun h => by cases h), (fun h => by cases h)⟩) (hRW.tr x3) (fun _ => x3))
              · exact op_bs1 rfl (.int .i64 (k : Int)) (by kernel_rfl) _ (ibs1_run _ _) (hK _ _ (VF.mg rfl ⟨(fun h => by cases h), (fun h => by cases h), fun _ => ⟨_, rfl, .new rfl⟩, (fun h => by cases h)⟩) (hRW.alloc _) (fun _ => (Ext.rf _).alloc _))
              · obtain ⟨A3, c3', h3, o3⟩ := ((hD 3 (depIn (by kernel_rfl))).g rfl).2.1 rfl
                obtain ⟨g8, h8, b8⟩ := ((hD 5 (depIn (by kernel_rfl))).g rfl).2.2.1 rfl
                obtain ⟨A7, c7, w7, hrun, o7, g7, -⟩ := run_app_i W wo.heap.size 22 A3 (intsN l).length c3' (intsN l) [(k : Int)] (some ⟨g8, 0, none⟩) 1 rfl o3 (.blk b8 rfl) (by rw [intsN_len]; simp; omega) hRW.size
                have x7 : Ext wo w7 := hRW.grow g7 (fun k hk => (o3.lt k hk).1)
                rw [← hq.out] at hrun o7
                exact op_app rfl (.slice A3 (intsN l).length c3') (.slice (some ⟨g8, 0, none⟩) 1 1) (Eq.trans (b := u 3) (by kernel_rfl) h3) (Eq.trans (b := u 5) (by kernel_rfl) h8) _ hrun (hK _ _ (VF.mg rfl ⟨(fun h => by cases h), (fun h => by cases h), (fun h => by cases h), fun _ => ⟨A7, c7, rfl, o7⟩⟩) x7 (fun h => absurd rfl h))
            · intro u w7 hRW hV
              have h0 := (hV (0, some 72) (by simp) rfl).k rfl
              obtain ⟨A7, c7, h9, o7⟩ := ((hV (6, some 78) (by simp) rfl).g rfl).2.2.2 rfl
              simp only [putAll, h0, h9]
              have rq := Lib.hid o7.read
              have x7 := Lib.hid hRW
              clear h0 h9 hV o7 hRW
              try simp only [Act.put, List.setIfInBounds_toArray, List.set_cons_zero, List.set_cons_succ]
              refine wpAny_next 7 (by decide +kernel) (op_call (f := 58) (xs := #[Operand.tmp 72, Operand.tmp 78]) (ts := #[25, 22]) (t := 3) (d := some 79) rfl #[.agg #[.int .i64 2, .int .i64 n, .int .i64 cap, .slice A xw.length a, .slice B xv.length b, .slice D co.length d], .slice A7 q.length c7] (by go_simp) (by kernel_rfl) _ (IHk.out A7 c7 q hq.out w7 (X1.out.tr (Y.out.tr x7.out)) rq.out) ?_)
              rintro e w8 ⟨rfl, x8⟩
              refine ⟨_, rfl, ?_⟩
              try simp only [Act.put, List.setIfInBounds_toArray, List.set_cons_zero, List.set_cons_succ]
              refine wpAny_T (i := 8) (op := Op.assign (Operand.tmp 79)) (t := 3) (d := some 12) (v := ?_) rfl (by decide +kernel) (by decide +kernel) (by decide +kernel) (fun _ _ _ h => h) ?_ ?_
              case refine_2 => (intro _; unfold exec2; go_simp; try with_reducible rfl)
              try simp only [Act.put, List.setIfInBounds_toArray, List.set_cons_zero, List.set_cons_succ]
              refine wpAny_done (by kernel_rfl) ?_ _
              have Y8 := Lib.hid (Y.out.tr (x7.out.tr x8))
              clear x8 x7 rq c0 c1' c2 c3 c4 c5
              go_simp
              by_cases hbb : bb < 0
              · rw [if_pos hbb] at HN2
                go_wp2_with (fail)
                go_roundw
                case rel => exact ⟨k + 1, fv, by go_num, rfl, by omega, HN2, Y8⟩
                case measure => simp [intOf]; omega
              · rw [if_neg hbb] at HN2
                by_cases hfb : fv < bb
                · rw [if_pos hfb] at HN2
                  go_wp2_with (fail)
                  go_roundw
                  case rel => exact ⟨k + 1, fv, by go_num, rfl, by omega, HN2, Y8⟩
                  case measure => simp [intOf]; omega
                · rw [if_neg hfb] at HN2
                  go_wp2_with (fail)
                  go_roundw
                  case rel => exact ⟨k + 1, bb, by go_num, rfl, by omega, HN2, Y8⟩
                  case measure => simp [intOf]; omega
    · obtain rfl : k = n := by omega
      have q1 : ¬ (k : Int) < (k : Int) := by omega
      have HN : Hid (bb = bs) := by
        have h := HS.out
        unfold restF at h
        rw [List.drop_of_length_le (by rw [List.length_range]; omega)] at h
        exact h
      obtain rfl := HN.out
      go_wp2_with (fail)
      go_ret
      exact ⟨rfl, X1.out.tr Y.out⟩
set_option maxRecDepth 100000 in
set_option maxHeartbeats 2000000 in
theorem best2_whole (i : InstP) (us : List Value) (P : Option Addr) (c : Nat) (l : List Nat) (w : World) (H : RInst w us i) (hc : checkP i = 0) (hk : i.kind = 2) (hP : RdI w P (intsN l)) (hl : l.Perm (List.range i.cost.length)) :
    Calls Tryd.prog 58 #[.agg (List.toArray us), .slice P (intsN l).length c] w fun e w' => e = .returned (.int .i64 (costF i.cost (intsN l))) ∧ Ext w w' := by
  have CO := fun (W : World) (x : Ext w W) => cost2_any i us P c l W (H.ext x) hc hk (hP.ext x) hl
  have hll : l.length = i.cost.length := by rw [hl.length_eq, List.length_range]
  have hnn : i.n = (i.cost.length : Int) := (square_ok hc (by omega)).len.symm
  rw [intsN_len, hll]
  generalize costF i.cost (intsN l) = cv at *
  clear hll hl hP hc
  obtain ⟨kind, nn, cap, xw, xv, co⟩ := i
  obtain ⟨A, a, B, b, D, d, rfl, -, -, -⟩ := H
  simp only at *
  subst hk hnn
  replace CO := Lib.hid CO
  have hb : ((co.length : Int) == (co.length : Int)) = true := by simp
  go_enter Tryd.func58, Tryd.ntmps58
  go_wp2_with (fail)
  refine (CO.out _ (by (repeat (first | assumption | exact Ext.rf _ | apply Ext.drew | apply Ext.drewN | apply Ext.alloc)))).mono ?_
  rintro e w1 ⟨rfl, x1⟩
  have X1 := Lib.hid (Ext.tr (a := w) (by (repeat (first | assumption | exact Ext.rf _ | apply Ext.drew | apply Ext.drewN | apply Ext.alloc))) x1)
  clear x1
  go_wp2_with (fail)
  go_ret
  exact ⟨rfl, X1.out⟩
theorem memsM_bits {n m : Nat} (h : SubN n m) (hn : n ≤ 64) {k : Nat} (hk : k < n) : k ∈ memsM m ↔ m.testBit k = true := by
  rw [memsM_mem]
  exact ⟨fun h => h.2, fun h => ⟨by omega, h⟩⟩
theorem best2_any (i : InstP) (us : List Value) (hc : checkP i = 0) (hk : i.kind = 2) : ∀ (f : Nat) (P : Option Addr) (c : Nat) (p : List Int) (m : Nat) (w : World), freeP i.cost.length p = some m → f = i.cost.length - p.length → RInst w us i → RdI w P p →
    Calls Tryd.prog 58 #[.agg (List.toArray us), .slice P p.length c] w fun e w' => e = .returned (.int .i64 (bestA i.cost i.cost.length f p)) ∧ Ext w w'
  | 0, P, c, p, m, w => fun hp hf H hP => by
    have sq := square_ok hc (by omega)
    have rok := rows_ok sq
    have hlen := freeP_len rok.n2 hp
    obtain ⟨l, rfl, hl⟩ := whole_cols rok.n2 hp (by omega)
    have hll : l.length = i.cost.length := by rw [hl.length_eq, List.length_range]
    exact best2_whole i us P c l w H hc hk hP hl
  | f + 1, P, c, p, m, w => fun hp hf H hP => by
    have sq := square_ok hc (by omega)
    have rok := rows_ok sq
    have h24 := rok.n2
    have hlen := freeP_len h24 hp
    obtain ⟨_, _, hsub⟩ := freeP_in h24 hp
    obtain ⟨l, rfl, h1, h2, h3⟩ := freeP_cols h24 hp
    have hmem : ∀ k, k < i.cost.length → (k ∈ memsM m ↔ m.testBit k = true) := fun k hk => memsM_bits hsub (by omega) hk
    rw [intsN_len] at hlen hf ⊢
    refine best2_more i us P c l w H hk hP i.cost.length m sq.len.symm h24 (by omega) _ (fun x => bestA i.cost i.cost.length f (intsN l ++ [x])) (fun k hk => ?_) ?_ (fun k hk hb => ?_) ?_
    · rw [← hmem k hk, h3 k]
      exact ⟨fun h => h.2, fun h => ⟨hk, h⟩⟩
    · have e : restF m i.cost.length 0 = memsM m := by
        unfold restF
        rw [List.drop_zero, ← memsM_range hsub (by omega)]
      rw [e]
      show _ = leastF _ (-1) (match freeP i.cost.length (intsN l) with | none => [] | some m => intsN (memsM m))
      rw [hp]
    · have hs := freeP_snoc h24 hp ((hmem k hk).2 hb)
      have h4 := bounda_below rok hs
      rw [show i.cost.length - (intsN l ++ [(k : Int)]).length = f by rw [List.length_append, intsN_len, List.length_singleton]; omega] at h4
      omega
    · rintro k A d q hkn hb rfl W x hq
      have hs := freeP_snoc h24 hp ((hmem k hkn).2 hb)
      exact best2_any i us hc hk f A d _ _ W hs (by rw [List.length_append, intsN_len, List.length_singleton]; omega) (H.ext x) hq
theorem rbest12_any (i : InstP) (us : List Value) (hc : checkP i = 0) (hk : i.kind = 2) (P : Option Addr) (c : Nat) (p : List Int) (m : Nat) (w : World) (hp : freeP i.cost.length p = some m) (H : RInst w us i) (hP : RdI w P p) :
    Calls Tryd.prog 29 #[.agg (List.toArray us), .slice P p.length c] w fun e w' => e = .returned (.int .i64 (bestA i.cost i.cost.length (i.cost.length - p.length) p)) ∧ Ext w w' := by
  have BE := fun (W : World) (x : Ext w W) => best2_any i us hc hk _ P c p m W hp rfl (H.ext x) (hP.ext x)
  generalize bestA i.cost i.cost.length (i.cost.length - p.length) p = bs at *
  obtain ⟨kind, nn, cap, xw, xv, co⟩ := i
  obtain ⟨A, a, B, b, D, d, rfl, -, -, -⟩ := H
  simp only at *
  replace BE := Lib.hid BE
  clear hc hk hp hP
  go_enter Tryd.func29, Tryd.ntmps29
  go_wp2_with (fail)
  refine (BE.out _ (by (repeat (first | assumption | exact Ext.rf _ | apply Ext.drew | apply Ext.drewN | apply Ext.alloc)))).mono ?_
  rintro e w1 ⟨rfl, x1⟩
  have X1 := Lib.hid (Ext.tr (a := w) (by (repeat (first | assumption | exact Ext.rf _ | apply Ext.drew | apply Ext.drewN | apply Ext.alloc))) x1)
  clear x1
  go_wp2_with (fail)
  go_ret
  exact ⟨rfl, X1.out⟩
end Go.Proofs.YtpngflmngnjjoaaDoor
