/-
  kurganref08.Small, Perm, Cost and Best at a checked assignment.
  The document's values for tours: Small, Cost, Best at kind 3; the document's Best and Answers for tours.
  bits.Mul64 of small numbers; the program's sizes, products and Cross of small numbers.
    The program's sizes, products and Cross of small numbers.
    The program's Cross of small numbers.
  A knapsack's kernel: what New leaves alone of other problems; what a problem in form says.
    A knapsack's kernel as New makes it: its first half, the memory of it.
    A knapsack's kernel as New makes it: what an append and a store do to it.
  A knapsack's kernel: how deep it goes, where a beginning has come to, what may follow.
    A knapsack's kernel: Part; what the rest may bring; Kids.
  A knapsack's kernel: what the rest may bring, Bound, Answer; of no kernel nothing is told.
  kurganref08.Small at a checked knapsack.
    kurganref08.Cost at a checked knapsack and an answer of zeros and ones.
  The document's Best (kurganref08): a knapsack's; a tour's from the empty beginning on; of any kind.
  The kind of a problem in form.
  The document's Best of a knapsack and Small (kurganref08), of all problems.
  A search in place, plainly: what it leaves; that it is what a stack of beginnings does; that it finds the best, in so many steps.
  A certificate's word, plainly: what is taken of it behind a beginning; that a stack of beginnings does the same; that a word that is taken shows the least cost.
  The kernel of a problem's kind, plainly: what may follow, what it costs at least; the search over it.
  What the checker knows of a problem, plainly: a knapsack's order and bound.
  The document's kernel of a knapsack: where a beginning has come to.
  What the checker knows of a problem of any kind, plainly: how deep, which numbers may follow (rising), what it costs at least.
  The word of the document's search, by a list of beginnings that wait; that it is read as a whole search; how long it is.
  The document's Perm (kurganref08), of all lists.
-/
import Derived.Test.YtpapkofildcdiaaCheckSoundP2
import Derived.Lib.VarintBits
namespace Go.Proofs.Ytpapkofildcdiaa
open Go.RowKit Go.ChangeShapes Go.WideShapes Go.ChangeAt Go.Deep

set_option maxRecDepth 100000 in
set_option maxHeartbeats 2000000 in
theorem small2_any (i : InstP) (us : List Value) (w : World) (H : RInst w us i) (hc : checkP i = 0) (hk : i.kind = 2) :
    Calls Try.prog 11 #[.agg (List.toArray us)] w fun e w' => e = .returned (.bool (decide (i.n ≤ 6))) ∧ Ext w w' := by
  have CH := fun (W : World) (x : Ext w W) => rcheck_any i us W (H.ext x)
  rw [hc] at CH
  obtain ⟨kind, nn, cap, xw, xv, co⟩ := i
  obtain ⟨A, a, B, b, D, d, rfl, -, -, -⟩ := H
  simp only at *
  subst hk
  replace CH := Lib.hid CH
  clear hc
  have B1 : Hid (Blk (w.alloc (.cells #[.int .i64 2, .int .i64 nn, .int .i64 cap, .slice A xw.length a, .slice B xv.length b, .slice D co.length d] 25)) w.heap.size 25 #[.int .i64 2, .int .i64 nn, .int .i64 cap, .slice A xw.length a, .slice B xv.length b, .slice D co.length d]) := .new rfl
  obtain ⟨bb, hbb⟩ : ∃ bb, Hid (decide (nn ≤ 6) = bb) := ⟨_, rfl⟩
  rw [hbb.out]
  have hb2 : decide (nn ≤ 6) = bb := hbb.out
  go_enter Try.func11, Try.ntmps11
  go_wp2_with (fail)
  refine (CH.out _ (by (repeat (first | assumption | exact Ext.rf _ | apply Ext.drew | apply Ext.drewN | apply Ext.alloc)))).mono ?_
  rintro e w1 ⟨rfl, x1⟩
  have X1 := Lib.hid (Ext.tr (a := w) (by (repeat (first | assumption | exact Ext.rf _ | apply Ext.drew | apply Ext.drewN | apply Ext.alloc))) x1)
  have b0 : w1.cell? ⟨w.heap.size, 0, none⟩ = some (.int .i64 2) := (B1.out.ext x1).cell 0
  have b1 : w1.cell? ⟨w.heap.size, 1, none⟩ = some (.int .i64 nn) := (B1.out.ext x1).cell 1
  clear x1 B1
  go_wp2_with (fail)
  go_ret
  exact ⟨by first | rfl | simp [hbb.out], X1.out⟩
theorem count_one {k : Nat} : ∀ {l : List Nat}, l.Nodup → k ∈ l → l.count k = 1
  | [], _, h => by cases h
  | x :: l, hd, h => by
    have hd' := List.nodup_cons.1 hd
    by_cases e : x = k
    · subst e
      rw [List.count_cons_self, List.count_eq_zero.2 hd'.1]
    · rw [List.count_cons_of_ne e]
      rcases List.mem_cons.1 h with h | h
      · exact absurd h.symm e
      · exact count_one hd'.2 h
set_option maxRecDepth 100000 in
set_option maxHeartbeats 2000000 in
theorem perm_yes (P : Option Addr) (c n : Nat) (l : List Nat) (w : World) (hP : RdI w P (intsN l)) (hl : l.Perm (List.range n)) (hn : n ≤ 1000) :
    Calls Try.prog 26 #[.slice P n c, .int .i64 n] w fun e w' => e = .returned (.bool true) ∧ Ext w w' := by
  have hlen : Hid (l.length = n) := by
    have h : l.length = n := by rw [hl.length_eq, List.length_range]
    exact h
  have C1 : Hid (∀ k, k < n → l.count k = 1) := fun k hk => by
    rw [hl.count_eq]
    exact count_one List.nodup_range (List.mem_range.2 hk)
  have ne0 : ((n : Int) != (n : Int)) = false := by simp
  replace hP := Lib.hid hP
  clear hl
  go_enter Try.func26, Try.ntmps26
  go_wp2_with (fail)
  go_loopw [5] (fun v wr => ∃ k : Nat, v = .int .i64 k ∧ k ≤ n ∧ Hid (Ext w wr)) (fun v _ => n - (intOf v).toNat)
  case atStart => exact ⟨0, rfl, by omega, Ext.rf _⟩
  case round =>
    obtain ⟨wo, rfl⟩ : ∃ wo : World, wo = wr := ⟨_, rfl⟩
    obtain ⟨k, rfl, hk, Y⟩ := hrel
    by_cases hkn : k < n
    · have q1 : (k : Int) < (n : Int) := by omega
      have c1 := C1.out k hkn
      replace c1 := Lib.hid c1
      go_wp2_with (fail)
      go_loopw [7, 6] (fun v fv wr => ∃ j : Nat, v = .int .i64 j ∧ fv = .int .i64 ((l.take j).count k : Nat) ∧ j ≤ n ∧ Hid (Ext w wr)) (fun v _ _ => n - (intOf v).toNat)
      case atStart => exact ⟨0, rfl, by rw [List.take_zero, List.count_nil]; rfl, by omega, Y⟩
      case round =>
        obtain ⟨wi, rfl⟩ : ∃ wi : World, wi = wr := ⟨_, rfl⟩
        obtain ⟨j, rfl, rfl, hj, YI⟩ := hrel
        have hcl := List.count_le_length (a := k) (l := l.take j)
        rw [List.length_take] at hcl
        by_cases hjn : j < n
        · have q2 : (j : Int) < (n : Int) := by omega
          have ej : l[j]? = some (l[j]'(by rw [hlen.out]; exact hjn)) := List.getElem?_eq_getElem _
          generalize l[j]'(by rw [hlen.out]; exact hjn) = y at ej
          obtain ⟨pb, po, x, rfl, _, cx, ex, _⟩ := (hP.out.ext YI.out).at (k := j) (by rw [intsN_len, hlen.out]; exact hjn)
          obtain rfl : x = (y : Int) := by
            have h := ex.out
            rw [intsN_get ej] at h
            exact (Option.some.inj h).symm
          have HC : Hid ((l.take (j + 1)).count k = (l.take j).count k + if y = k then 1 else 0) := by
            have h : (l.take (j + 1)).count k = (l.take j).count k + if y = k then 1 else 0 := by
              rw [List.take_add_one, ej, List.count_append]
              simp [List.count_cons]
            exact h
          clear ex ej
          generalize (l.take j).count k = cn at *
          by_cases hyk : y = k
          · subst hyk
            rw [if_pos rfl] at HC
            go_wp2_with (fail)
            go_roundw
            case rel => exact ⟨j + 1, by go_num, by rw [HC.out]; go_num, by omega, YI⟩
            case measure => simp [intOf]; omega
          · have HC2 : Hid ((l.take (j + 1)).count k = cn) := by
              have h := HC.out
              rw [if_neg hyk] at h
              exact h
            clear HC
            have t1 : (y == k) = false := by rw [beq_eq_false_iff_ne]; exact hyk
            have t2 : ((y : Int) == (k : Int)) = false := by rw [beq_eq_false_iff_ne]; omega
            go_wp2_with (fail)
            go_roundw
            case rel => exact ⟨j + 1, by go_num, by rw [HC2.out], by omega, YI⟩
            case measure => simp [intOf]; omega
        · have q2 : ¬ (j : Int) < (n : Int) := by omega
          have e1 : (l.take j).count k = 1 := by
            rw [List.take_of_length_le (by rw [hlen.out]; omega)]
            exact c1.out
          rw [e1]
          clear e1 hcl
          go_wp2_with (fail)
          go_roundw
          case rel => exact ⟨k + 1, by go_num, by omega, YI⟩
          case measure => simp [intOf]; omega
    · have q1 : ¬ (k : Int) < (n : Int) := by omega
      go_wp2_with (fail)
      go_ret
      exact ⟨rfl, Y.out⟩
set_option maxRecDepth 100000 in
set_option maxHeartbeats 4000000 in
theorem cost2_any (i : InstP) (us : List Value) (P : Option Addr) (c : Nat) (l : List Nat) (w : World) (H : RInst w us i) (hc : checkP i = 0) (hk : i.kind = 2) (hP : RdI w P (intsN l)) (hl : l.Perm (List.range i.cost.length)) :
    Calls Try.prog 12 #[.agg (List.toArray us), .slice P i.cost.length c] w fun e w' => e = .returned (.tuple #[.int .i64 (costF i.cost (intsN l)), .int .i64 0]) ∧ Ext w w' := by
  have CH := fun (W : World) (x : Ext w W) => rcheck_any i us W (H.ext x)
  rw [hc] at CH
  have sq := square_ok hc (by omega)
  have rok := rows_ok sq
  have hnn : i.n = (i.cost.length : Int) := sq.len.symm
  have PE := fun (W : World) (x : Ext w W) => perm_yes P c i.cost.length l W (hP.ext x) hl (by have := rok.n2; omega)
  have hlt : Hid (∀ x ∈ l, x < i.cost.length) := fun x hx => List.mem_range.1 (hl.mem_iff.1 hx)
  have hlen : Hid (l.length = i.cost.length) := by
    have h : l.length = i.cost.length := by rw [hl.length_eq, List.length_range]
    exact h
  have n24 := rok.n2
  clear hl hc sq
  obtain ⟨kind, nn, cap, xw, xv, co⟩ := i
  obtain ⟨A, a, B, b, D, d, rfl, -, -, ⟨hC, -, -⟩⟩ := H
  simp only at *
  subst hk hnn
  replace CH := Lib.hid CH
  replace PE := Lib.hid PE
  replace hP := Lib.hid hP
  replace hC := Lib.hid hC
  replace rok := Lib.hid rok
  have B1 : Hid (Blk (w.alloc (.cells #[.int .i64 2, .int .i64 co.length, .int .i64 cap, .slice A xw.length a, .slice B xv.length b, .slice D co.length d] 25)) w.heap.size 25 #[.int .i64 2, .int .i64 co.length, .int .i64 cap, .slice A xw.length a, .slice B xv.length b, .slice D co.length d]) := .new rfl
  go_enter Try.func12, Try.ntmps12
  go_wp2_with (fail)
  refine (CH.out _ (by (repeat (first | assumption | exact Ext.rf _ | apply Ext.drew | apply Ext.drewN | apply Ext.alloc)))).mono ?_
  rintro e w1 ⟨rfl, x1⟩
  have X1 := Lib.hid (Ext.tr (a := w) (by (repeat (first | assumption | exact Ext.rf _ | apply Ext.drew | apply Ext.drewN | apply Ext.alloc))) x1)
  have BB := Lib.hid (B1.out.ext x1)
  have d0 : w1.cell? ⟨w.heap.size, 0, none⟩ = some (.int .i64 2) := BB.out.cell 0
  have d1 : w1.cell? ⟨w.heap.size, 1, none⟩ = some (.int .i64 co.length) := BB.out.cell 1
  clear x1
  go_wp2_with (fail)
  refine (PE.out _ X1.out).mono ?_
  rintro e w2 ⟨rfl, x2⟩
  have X2 := Lib.hid (X1.out.tr x2)
  have BC := Lib.hid (BB.out.ext x2)
  have e0 : w2.cell? ⟨w.heap.size, 0, none⟩ = some (.int .i64 2) := BC.out.cell 0
  clear x2 d0 d1 BB
  go_wp2_with (fail)
  go_loopw [8, 7] (fun v s wr => ∃ (k : Nat) (su : Int), v = .int .i64 k ∧ s = .int .i64 su ∧ k ≤ co.length ∧ Hid (costF co ((intsN l).take k) = su) ∧ Hid (Ext w2 wr)) (fun v _ _ => co.length - (intOf v).toNat)
  case atStart => exact ⟨0, 0, rfl, rfl, by omega, (by cases co <;> rfl : costF co ((intsN l).take 0) = 0), Ext.rf _⟩
  case round =>
    obtain ⟨wo, rfl⟩ : ∃ wo : World, wo = wr := ⟨_, rfl⟩
    obtain ⟨k, su, rfl, rfl, hk, HS, Y⟩ := hrel
    have bdS : Hid (0 ≤ su ∧ su ≤ 2147483647 * 24) := by
      have h1 := costF_bd (B := 2147483647) (rows := co) (p := (intsN l).take k) (by omega) fun row hr c hc => by
        obtain ⟨q, hq, rfl⟩ := List.mem_map.1 (List.mem_of_mem_take hc)
        have := hlt.out q hq
        exact rok.out.get hr (by omega)
      have h2 : ((intsN l).take k).length ≤ 24 := by rw [List.length_take]; omega
      have h : 0 ≤ su ∧ su ≤ 2147483647 * 24 := by
        rw [← HS.out]
        omega
      exact h
    have d0 : wo.cell? ⟨w.heap.size, 0, none⟩ = some (.int .i64 2) := (BC.out.ext Y.out).cell 0
    have d1 : wo.cell? ⟨w.heap.size, 1, none⟩ = some (.int .i64 co.length) := (BC.out.ext Y.out).cell 1
    have d5 : wo.cell? ⟨w.heap.size, 5, none⟩ = some (.slice D co.length d) := (BC.out.ext Y.out).cell 5
    have XW := Lib.hid (X2.out.tr Y.out)
    clear e0
    by_cases hkl : k < co.length
    · obtain ⟨cb, cof, D', row, d', rfl, _, cD, er, _, rD, iD, ld, md⟩ := (hC.out.ext XW.out fun _ _ h => h.ext XW.out).ints hkl
      have hmem := List.mem_of_getElem? er.out
      obtain ⟨pb, po, x, rfl, zp, cp, ep, _⟩ := (hP.out.ext XW.out).at (k := k) (by rw [intsN_len, hlen.out]; exact hkl)
      obtain ⟨q, hq, rfl⟩ := List.mem_map.1 (List.mem_of_getElem? ep.out)
      have hqn := hlt.out q hq
      have lrow := rok.out.row row hmem
      obtain ⟨rb, ro, y, rfl, zy, cy, ey, _⟩ := rD.at (k := q) (by omega)
      have yb := rok.out.get hmem (c := q) (by omega)
      rw [getD_some ey.out] at yb
      have b1 := bdS.out
      have hw : IntKind.i64.wrap (su + y) = su + y := IntWalk.i64_in _ (by omega)
      have HS2 : Hid (costF co ((intsN l).take (k + 1)) = su + y) := by
        have h : costF co ((intsN l).take (k + 1)) = su + y := by
          rw [costF_snoc er.out ep.out, HS.out, Int.toNat_natCast, getD_some ey.out]
        exact h
      have q1 : (k : Int) < (co.length : Int) := by omega
      have q3 : (q : Int) < (row.length : Int) := by omega
      clear er ep ey lrow b1 yb HS hq rD hmem
      go_wp2_with (fail)
      go_quiet (fail)
      go_wp2_with (fail)
      go_roundw
      case rel => exact ⟨k + 1, su + y, by go_num, rfl, by omega, HS2, Y.out.drewN _⟩
      case measure => simp [intOf]; omega
    · have q1 : ¬ (k : Int) < (co.length : Int) := by omega
      have HS2 : Hid (costF co (intsN l) = su) := by
        have h := HS.out
        rw [List.take_of_length_le (by rw [intsN_len, hlen.out]; omega)] at h
        exact h
      go_wp2_with (fail)
      go_ret2
      rw [HS2.out]
      exact ⟨rfl, XW.out⟩
set_option maxRecDepth 100000 in
theorem ibs0_run (u : World) : (Instr.buildSlice 22 0 #[]).run Try.prog u = .ok (.slice (some ⟨u.heap.size, 0, none⟩) 0 0) (u.alloc (.cells #[] 3)) := by go_simp
set_option maxRecDepth 100000 in
theorem ibs1_run (u : World) (x : Int) : (Instr.buildSlice 22 1 #[(0, .int .i64 x)]).run Try.prog u = .ok (.slice (some ⟨u.heap.size, 0, none⟩) 1 1) (u.alloc (.cells #[.int .i64 x] 3)) := by go_simp
/-- the columns that are left from k on -/
def restF (m n k : Nat) : List Nat := ((List.range n).drop k).filter fun c => m.testBit c
theorem restF_step {m n k : Nat} (h : k < n) : restF m n k = if m.testBit k = true then k :: restF m n (k + 1) else restF m n (k + 1) := by
  unfold restF
  have h' : k < (List.range n).length := by rw [List.length_range]; exact h
  rw [List.drop_eq_getElem_cons h', List.getElem_range, List.filter_cons]
set_option maxRecDepth 100000 in
set_option maxHeartbeats 8000000 in
theorem best2_more (i : InstP) (us : List Value) (P : Option Addr) (c : Nat) (l : List Nat) (w : World) (H : RInst w us i) (hk2 : i.kind = 2) (hP : RdI w P (intsN l)) (n m : Nat) (hn : i.n = n) (hn24 : n ≤ 24) (hlen : l.length < n) (bs : Int) (f : Int → Int)
    (hused : ∀ k, k < n → (m.testBit k = true ↔ k ∉ l)) (e5 : leastF f (-1) (intsN (restF m n 0)) = bs) (fpos : ∀ k, k < n → m.testBit k = true → 0 ≤ f (k : Int))
    (IH3 : ∀ (k : Nat) (A : Option Addr) (d : Nat) (q : List Int), k < n → m.testBit k = true → q = intsN l ++ [(k : Int)] → ∀ W : World, Ext w W → RdI W A q → Calls Try.prog 14 #[.agg (List.toArray us), .slice A q.length d] W fun e w' => e = .returned (.int .i64 (f k)) ∧ Ext W w') :
    Calls Try.prog 14 #[.agg (List.toArray us), .slice P l.length c] w fun e w' => e = .returned (.int .i64 bs) ∧ Ext w w' := by
  obtain ⟨kind, nn, cap, xw, xv, co⟩ := i
  obtain ⟨A, a, B, b, D, d, rfl, -, -, -⟩ := H
  simp only at *
  subst hk2 hn
  replace IH3 := Lib.hid IH3
  replace e5 := Lib.hid e5
  replace hP := Lib.hid hP
  replace hused := Lib.hid hused
  replace fpos := Lib.hid fpos
  have hne : ((l.length : Int) == (n : Int)) = false := by rw [beq_eq_false_iff_ne]; omega
  have B1 : Hid (Blk (w.alloc (.cells #[.int .i64 2, .int .i64 n, .int .i64 cap, .slice A xw.length a, .slice B xv.length b, .slice D co.length d] 25)) w.heap.size 25 #[.int .i64 2, .int .i64 n, .int .i64 cap, .slice A xw.length a, .slice B xv.length b, .slice D co.length d]) := .new rfl
  have X0 : Hid (Ext w (w.alloc (.cells #[.int .i64 2, .int .i64 n, .int .i64 cap, .slice A xw.length a, .slice B xv.length b, .slice D co.length d] 25))) := (Ext.rf _).alloc _
  obtain ⟨w1, hw1⟩ : ∃ w1, w1 = (w.alloc (.cells #[.int .i64 2, .int .i64 n, .int .i64 cap, .slice A xw.length a, .slice B xv.length b, .slice D co.length d] 25)) := ⟨_, rfl⟩
  have B2 : Hid (Blk w1 w.heap.size 25 #[.int .i64 2, .int .i64 n, .int .i64 cap, .slice A xw.length a, .slice B xv.length b, .slice D co.length d]) := by rw [hw1]; exact B1.out
  have X1 : Hid (Ext w w1) := by rw [hw1]; exact X0.out
  replace hw1 := Lib.hid hw1
  clear B1
  go_enter Try.func14, Try.ntmps14
  go_wp2_with (fail)
  rw [← hw1.out]
  clear X0
  go_loopw [9, 7] (fun v bv wr => ∃ (k : Nat) (bb : Int), v = .int .i64 k ∧ bv = .int .i64 bb ∧ k ≤ n ∧ Hid (leastF f bb (intsN (restF m n k)) = bs) ∧ Hid (Ext w1 wr)) (fun v _ _ => n - (intOf v).toNat)
  case atStart => exact ⟨0, -1, rfl, rfl, by omega, e5, Ext.rf _⟩
  case round =>
    obtain ⟨wo, rfl⟩ : ∃ wo : World, wo = wr := ⟨_, rfl⟩
    obtain ⟨k, bb, rfl, rfl, hk, HS, Y⟩ := hrel
    by_cases hlt : k < n
    · have HN : Hid (leastF f bb (intsN (if m.testBit k = true then k :: restF m n (k + 1) else restF m n (k + 1))) = bs) := by
        have h := HS.out
        rw [restF_step hlt] at h
        exact h
      have q1 : (k : Int) < (n : Int) := by omega
      have B3 := B2.out.ext Y.out
      have zb3 := B3.lt
      have c0 : wo.cell? ⟨w.heap.size, 0, none⟩ = some (.int .i64 2) := B3.cell 0
      have HU := hused.out k hlt
      replace HU := Lib.hid HU
      replace B3 := Lib.hid B3
      clear HS
      go_wp2_with (fail)
      go_loopw [11, 10] (fun v uv wr => ∃ j : Nat, v = .int .i64 j ∧ uv = .bool ((l.take j).contains k) ∧ j ≤ l.length ∧ wr = wo) (fun v _ _ => l.length - (intOf v).toNat)
      case atStart => exact ⟨0, rfl, rfl, by omega, rfl⟩
      case round =>
        obtain ⟨j, rfl, rfl, hj, hwr⟩ := hrel
        have hwr' : wo = wr := (show wr = wo from hwr).symm
        clear hwr
        subst hwr'
        by_cases hjl : j < l.length
        · have q2 : (j : Int) < (l.length : Int) := by omega
          have ej : l[j]? = some l[j] := List.getElem?_eq_getElem hjl
          generalize l[j] = y at ej
          obtain ⟨pb, po, x, rfl, _, cx, ex, _⟩ := (hP.out.ext (X1.out.tr Y.out)).at (k := j) (by rw [intsN_len]; exact hjl)
          obtain rfl : x = (y : Int) := by
            have h := ex.out
            rw [intsN_get ej] at h
            exact (Option.some.inj h).symm
          have HC : Hid ((l.take (j + 1)).contains k = ((l.take j).contains k || (y == k))) := by
            have h : (l.take (j + 1)).contains k = ((l.take j).contains k || (y == k)) := by
              rw [List.take_add_one, ej, Bool.eq_iff_iff, Bool.or_eq_true, List.contains_iff_mem, List.contains_iff_mem, beq_iff_eq]
              show k ∈ l.take j ++ [y] ↔ _
              rw [List.mem_append, List.mem_singleton]
              exact ⟨fun h => h.imp id Eq.symm, fun h => h.imp id Eq.symm⟩
            exact h
          clear ex ej
          cases hb : (l.take j).contains k with
          | true =>
            have HC2 : Hid ((l.take (j + 1)).contains k = true) := by
              have h := HC.out
              rw [hb, Bool.true_or] at h
              exact h
            clear HC hb
            go_wp2_with (fail)
            go_roundw
            case rel => exact ⟨j + 1, by go_num, by rw [HC2.out], by omega, by first | exact rfl | exact trivial⟩
            case measure => simp [intOf]; omega
          | false =>
            obtain ⟨yk, hyk⟩ : ∃ yk, Hid ((y == k) = yk) := ⟨_, rfl⟩
            have HC2 : Hid ((l.take (j + 1)).contains k = yk) := by
              have h := HC.out
              rw [hb, Bool.false_or, hyk.out] at h
              exact h
            have t1 : (y == k) = yk := hyk.out
            have t2 : ((y : Int) == (k : Int)) = yk := by
              rw [← hyk.out, Bool.eq_iff_iff, beq_iff_eq, beq_iff_eq]
              omega
            clear HC hb
            go_wp2_with (fail)
            go_roundw
            case rel => exact ⟨j + 1, by go_num, by rw [HC2.out], by omega, by first | exact rfl | exact trivial⟩
            case measure => simp [intOf]; omega
        · have q2 : ¬ (j : Int) < (l.length : Int) := by omega
          rw [List.take_of_length_le (by omega)]
          cases hb : m.testBit k with
          | false =>
            have hu : l.contains k = true := by
              rw [List.contains_iff_mem]
              cases hd : decide (k ∈ l) with
              | true => exact of_decide_eq_true hd
              | false =>
                have := HU.out.2 (of_decide_eq_false hd)
                rw [hb] at this
                cases this
            have HN2 : Hid (leastF f bb (intsN (restF m n (k + 1))) = bs) := by
              have h := HN.out
              rw [hb, if_neg (by simp)] at h
              exact h
            rw [hu]
            clear HN hb hu
            go_wp2_with (fail)
            go_roundw
            case rel => exact ⟨k + 1, bb, by go_num, rfl, by omega, HN2, Y⟩
            case measure => simp [intOf]; omega
          | true =>
            have hu : l.contains k = false := by
              cases hd : l.contains k with
              | false => rfl
              | true => exact absurd (List.contains_iff_mem.1 hd) (HU.out.1 hb)
            have HN2 : Hid (leastF f (if bb < 0 then f (k : Int) else if f (k : Int) < bb then f (k : Int) else bb) (intsN (restF m n (k + 1))) = bs) := by
              have h := HN.out
              rw [hb, if_pos rfl] at h
              exact h
            have IHk := Lib.hid (fun (A : Option Addr) (d : Nat) (q : List Int) (hq : q = intsN l ++ [(k : Int)]) => IH3.out k A d q hlt hb hq)
            have fk := fpos.out k hlt hb
            rw [hu]
            generalize f (k : Int) = fv at *
            clear HN hb hu HU
            have c1' : wo.cell? ⟨w.heap.size, 1, none⟩ = some (.int .i64 n) := B3.out.cell 1
            have c2 : wo.cell? ⟨w.heap.size, 2, none⟩ = some (.int .i64 cap) := B3.out.cell 2
            have c3 : wo.cell? ⟨w.heap.size, 3, none⟩ = some (.slice A xw.length a) := B3.out.cell 3
            have c4 : wo.cell? ⟨w.heap.size, 4, none⟩ = some (.slice B xv.length b) := B3.out.cell 4
            have c5 : wo.cell? ⟨w.heap.size, 5, none⟩ = some (.slice D co.length d) := B3.out.cell 5
            obtain ⟨q, hq⟩ : ∃ q, Hid (q = intsN l ++ [(k : Int)]) := ⟨_, rfl⟩
            have lq : q.length = l.length + 1 := by rw [hq.out]; simp [intsN]
            go_upto_region 19 with (fail)
            refine wp_region_any (by kernel_rfl) ?_
            change wpAny _ _ _ _ _ _ _ (World.drew _)
            refine wpAny_T (i := 2) (op := Op.move (Operand.tmp 1)) (t := 22) (d := some 74) (v := ?_) rfl (by decide +kernel) (by decide +kernel) (by decide +kernel) (fun _ _ _ h => h) ?_ ?_
            case refine_2 => (intro _; unfold exec2; go_simp; try with_reducible rfl)
            try simp only [Act.put, List.setIfInBounds_toArray, List.set_cons_zero, List.set_cons_succ]
            refine wpAny_T (i := 4) (op := Op.move (Operand.tmp 9)) (t := 3) (d := some 76) (v := ?_) rfl (by decide +kernel) (by decide +kernel) (by decide +kernel) (fun _ _ _ h => h) ?_ ?_
            case refine_2 => (intro _; unfold exec2; go_simp; try with_reducible rfl)
            try simp only [Act.put, List.setIfInBounds_toArray, List.set_cons_zero, List.set_cons_succ]
            refine wpAny_core3 (n := 2) [(0, some 72), (1, some 73), (3, some 75), (5, some 77), (6, some 78)] (fun | 1 => [3] | 3 => [6] | 5 => [6] | _ => []) (Ext wo)
              (VF (fun | 0 => some (.agg #[.int .i64 2, .int .i64 n, .int .i64 cap, .slice A xw.length a, .slice B xv.length b, .slice D co.length d]) | _ => none)
                (fun j v W => (j = 1 → ∃ g, v = .slice (some ⟨g, 0, none⟩) 0 0 ∧ wo.heap.size ≤ g ∧ Blk W g 3 #[]) ∧ (j = 3 → ∃ A c, v = .slice A (intsN l).length c ∧ OwI W wo.heap.size A c (intsN l)) ∧ (j = 5 → ∃ h, v = .slice (some ⟨h, 0, none⟩) 1 1 ∧ Blk W h 3 #[.int .i64 (k : Int)]) ∧ (j = 6 → ∃ A c, v = .slice A q.length c ∧ OwI W wo.heap.size A c q)))
              (fun i W W' => i ≠ 6 → Ext W W') #[true, true, true, true, true, true, true, false, false] (by kernel_rfl) (by kernel_rfl) ?_ ?_ ?_ ((Ext.rf _).drew)
            · intro i j v W W' hkp hv hs
              refine VF.stab1 (fun _ ⟨g1, g3, g8, g9⟩ => ?_) hv
              by_cases hi : i = 6
              · subst hi
                refine ⟨fun h => ?_, fun h => ?_, fun h => ?_, fun h => ?_⟩
                all_goals (subst h; exact absurd hkp (by decide +kernel))
              · have hx := hs hi
                refine ⟨fun h => ?_, fun h => ?_, fun h => ?_, fun h => ?_⟩
                · obtain ⟨g, q1, q2, q3⟩ := g1 h
                  exact ⟨g, q1, q2, q3.ext hx⟩
                · obtain ⟨A', c', q1, q2⟩ := g3 h
                  exact ⟨A', c', q1, q2.ext hx⟩
                · obtain ⟨h', q1, q2⟩ := g8 h
                  exact ⟨h', q1, q2.ext hx⟩
                · obtain ⟨A', c', q1, q2⟩ := g9 h
                  exact ⟨A', c', q1, q2.ext hx⟩
            · intro pq hpm u W hRW hD K hK
              have z2 := hRW.size
              simp only [List.mem_cons, List.not_mem_nil, or_false] at hpm
              rcases hpm with rfl | rfl | rfl | rfl | rfl
              · have r0 := keepEL hRW zb3 c0
                have r1 := keepEL hRW zb3 c1'
                have r2 := keepEL hRW zb3 c2
                have r3 := keepEL hRW zb3 c3
                have r4 := keepEL hRW zb3 c4
                have r5 := keepEL hRW zb3 c5
                exact op_ld (T := 25) rfl (.pointer (some ⟨w.heap.size, 0, none⟩)) (by kernel_rfl) (.agg #[.int .i64 2, .int .i64 n, .int .i64 cap, .slice A xw.length a, .slice B xv.length b, .slice D co.length d]) (by go_simp) (hK _ _ (VF.mk rfl) hRW (fun _ => Ext.rf _))
              · exact op_bs0 rfl _ (ibs0_run _) (hK _ _ (VF.mg rfl ⟨fun _ => ⟨_, rfl, z2, .new rfl⟩, (fun h => by cases h), (fun h => by cases h), (fun h => by cases h)⟩) (hRW.alloc _) (fun _ => (Ext.rf _).alloc _))
              · obtain ⟨g, h1, zg, bg⟩ := ((hD 1 (depIn (by kernel_rfl))).g rfl).1 rfl
                obtain ⟨A3, c3, w3, hr3, o3, x3⟩ := run_copy_i W wo.heap.size 22 g (intsN l) P c bg zg (hP.out.ext ((X1.out.tr Y.out).tr hRW)) (by rw [intsN_len]; omega)
                exact op_app rfl (.slice (some ⟨g, 0, none⟩) 0 0) (.slice P (intsN l).length c) (Eq.trans (b := u 1) (by kernel_rfl) h1) (by rw [intsN_len]; kernel_rfl) _ hr3 (hK _ _ (VF.mg rfl ⟨(fun h => by cases h), fun _ => ⟨A3, c3, rfl, o3⟩, (fun h => by cases h), (fun h => by cases h)⟩) (hRW.tr x3) (fun _ => x3))
              · exact op_bs1 rfl (.int .i64 (k : Int)) (by kernel_rfl) _ (ibs1_run _ _) (hK _ _ (VF.mg rfl ⟨(fun h => by cases h), (fun h => by cases h), fun _ => ⟨_, rfl, .new rfl⟩, (fun h => by cases h)⟩) (hRW.alloc _) (fun _ => (Ext.rf _).alloc _))
              · obtain ⟨A3, c3', h3, o3⟩ := ((hD 3 (depIn (by kernel_rfl))).g rfl).2.1 rfl
                obtain ⟨g8, h8, b8⟩ := ((hD 5 (depIn (by kernel_rfl))).g rfl).2.2.1 rfl
                obtain ⟨A7, c7, w7, hrun, o7, g7, -⟩ := run_app_i W wo.heap.size 22 A3 (intsN l).length c3' (intsN l) [(k : Int)] (some ⟨g8, 0, none⟩) 1 rfl o3 (.blk b8 rfl) (by rw [intsN_len]; simp; omega) hRW.size
                have x7 : Ext wo w7 := hRW.grow g7 (fun k hk => (o3.lt k hk).1)
                rw [← hq.out] at hrun o7
                exact op_app rfl (.slice A3 (intsN l).length c3') (.slice (some ⟨g8, 0, none⟩) 1 1) (Eq.trans (b := u 3) (by kernel_rfl) h3) (Eq.trans (b := u 5) (by kernel_rfl) h8) _ hrun (hK _ _ (VF.mg rfl ⟨(fun h => by cases h), (fun h => by cases h), (fun h => by cases h), fun _ => ⟨A7, c7, rfl, o7⟩⟩) x7 (fun h => absurd rfl h))
            · intro u w7 hRW hV
              have h0 := (hV (0, some 72) (by simp) rfl).k rfl
              obtain ⟨A7, c7, h9, o7⟩ := ((hV (6, some 78) (by simp) rfl).g rfl).2.2.2 rfl
              simp only [putAll, h0, h9]
              have rq := Lib.hid o7.read
              have x7 := Lib.hid hRW
              clear h0 h9 hV o7 hRW
              try simp only [Act.put, List.setIfInBounds_toArray, List.set_cons_zero, List.set_cons_succ]
              refine wpAny_next 7 (by decide +kernel) (op_call (f := 14) (xs := #[Operand.tmp 72, Operand.tmp 78]) (ts := #[25, 22]) (t := 3) (d := some 79) rfl #[.agg #[.int .i64 2, .int .i64 n, .int .i64 cap, .slice A xw.length a, .slice B xv.length b, .slice D co.length d], .slice A7 q.length c7] (by go_simp) (by kernel_rfl) _ (IHk.out A7 c7 q hq.out w7 (X1.out.tr (Y.out.tr x7.out)) rq.out) ?_)
              rintro e w8 ⟨rfl, x8⟩
              refine ⟨_, rfl, ?_⟩
              try simp only [Act.put, List.setIfInBounds_toArray, List.set_cons_zero, List.set_cons_succ]
              refine wpAny_T (i := 8) (op := Op.assign (Operand.tmp 79)) (t := 3) (d := some 12) (v := ?_) rfl (by decide +kernel) (by decide +kernel) (by decide +kernel) (fun _ _ _ h => h) ?_ ?_
              case refine_2 => (intro _; unfold exec2; go_simp; try with_reducible rfl)
              try simp only [Act.put, List.setIfInBounds_toArray, List.set_cons_zero, List.set_cons_succ]
              refine wpAny_done (by kernel_rfl) ?_ _
              have Y8 := Lib.hid (Y.out.tr (x7.out.tr x8))
              clear x8 x7 rq c0 c1' c2 c3 c4 c5
              go_simp
              by_cases hbb : bb < 0
              · rw [if_pos hbb] at HN2
                go_wp2_with (fail)
                go_roundw
                case rel => exact ⟨k + 1, fv, by go_num, rfl, by omega, HN2, Y8⟩
                case measure => simp [intOf]; omega
              · rw [if_neg hbb] at HN2
                by_cases hfb : fv < bb
                · rw [if_pos hfb] at HN2
                  go_wp2_with (fail)
                  go_roundw
                  case rel => exact ⟨k + 1, fv, by go_num, rfl, by omega, HN2, Y8⟩
                  case measure => simp [intOf]; omega
                · rw [if_neg hfb] at HN2
                  go_wp2_with (fail)
                  go_roundw
                  case rel => exact ⟨k + 1, bb, by go_num, rfl, by omega, HN2, Y8⟩
                  case measure => simp [intOf]; omega
    · obtain rfl : k = n := by omega
      have q1 : ¬ (k : Int) < (k : Int) := by omega
      have HN : Hid (bb = bs) := by
        have h := HS.out
        unfold restF at h
        rw [List.drop_of_length_le (by rw [List.length_range]; omega)] at h
        exact h
      obtain rfl := HN.out
      go_wp2_with (fail)
      go_ret
      exact ⟨rfl, X1.out.tr Y.out⟩
set_option maxRecDepth 100000 in
set_option maxHeartbeats 2000000 in
theorem best2_whole (i : InstP) (us : List Value) (P : Option Addr) (c : Nat) (l : List Nat) (w : World) (H : RInst w us i) (hc : checkP i = 0) (hk : i.kind = 2) (hP : RdI w P (intsN l)) (hl : l.Perm (List.range i.cost.length)) :
    Calls Try.prog 14 #[.agg (List.toArray us), .slice P (intsN l).length c] w fun e w' => e = .returned (.int .i64 (costF i.cost (intsN l))) ∧ Ext w w' := by
  have CO := fun (W : World) (x : Ext w W) => cost2_any i us P c l W (H.ext x) hc hk (hP.ext x) hl
  have hll : l.length = i.cost.length := by rw [hl.length_eq, List.length_range]
  have hnn : i.n = (i.cost.length : Int) := (square_ok hc (by omega)).len.symm
  rw [intsN_len, hll]
  generalize costF i.cost (intsN l) = cv at *
  clear hll hl hP hc
  obtain ⟨kind, nn, cap, xw, xv, co⟩ := i
  obtain ⟨A, a, B, b, D, d, rfl, -, -, -⟩ := H
  simp only at *
  subst hk hnn
  replace CO := Lib.hid CO
  have hb : ((co.length : Int) == (co.length : Int)) = true := by simp
  go_enter Try.func14, Try.ntmps14
  go_wp2_with (fail)
  refine (CO.out _ (by (repeat (first | assumption | exact Ext.rf _ | apply Ext.drew | apply Ext.drewN | apply Ext.alloc)))).mono ?_
  rintro e w1 ⟨rfl, x1⟩
  have X1 := Lib.hid (Ext.tr (a := w) (by (repeat (first | assumption | exact Ext.rf _ | apply Ext.drew | apply Ext.drewN | apply Ext.alloc))) x1)
  clear x1
  go_wp2_with (fail)
  go_ret
  exact ⟨rfl, X1.out⟩
theorem memsM_bits {n m : Nat} (h : SubN n m) (hn : n ≤ 64) {k : Nat} (hk : k < n) : k ∈ memsM m ↔ m.testBit k = true := by
  rw [memsM_mem]
  exact ⟨fun h => h.2, fun h => ⟨by omega, h⟩⟩
theorem best2_any (i : InstP) (us : List Value) (hc : checkP i = 0) (hk : i.kind = 2) : ∀ (f : Nat) (P : Option Addr) (c : Nat) (p : List Int) (m : Nat) (w : World), freeP i.cost.length p = some m → f = i.cost.length - p.length → RInst w us i → RdI w P p →
    Calls Try.prog 14 #[.agg (List.toArray us), .slice P p.length c] w fun e w' => e = .returned (.int .i64 (bestA i.cost i.cost.length f p)) ∧ Ext w w'
  | 0, P, c, p, m, w => fun hp hf H hP => by
    have sq := square_ok hc (by omega)
    have rok := rows_ok sq
    have hlen := freeP_len rok.n2 hp
    obtain ⟨l, rfl, hl⟩ := whole_cols rok.n2 hp (by omega)
    have hll : l.length = i.cost.length := by rw [hl.length_eq, List.length_range]
    exact best2_whole i us P c l w H hc hk hP hl
  | f + 1, P, c, p, m, w => fun hp hf H hP => by
    have sq := square_ok hc (by omega)
    have rok := rows_ok sq
    have h24 := rok.n2
    have hlen := freeP_len h24 hp
    obtain ⟨_, _, hsub⟩ := freeP_in h24 hp
    obtain ⟨l, rfl, h1, h2, h3⟩ := freeP_cols h24 hp
    have hmem : ∀ k, k < i.cost.length → (k ∈ memsM m ↔ m.testBit k = true) := fun k hk => memsM_bits hsub (by omega) hk
    rw [intsN_len] at hlen hf ⊢
    refine best2_more i us P c l w H hk hP i.cost.length m sq.len.symm h24 (by omega) _ (fun x => bestA i.cost i.cost.length f (intsN l ++ [x])) (fun k hk => ?_) ?_ (fun k hk hb => ?_) ?_
    · rw [← hmem k hk, h3 k]
      exact ⟨fun h => h.2, fun h => ⟨hk, h⟩⟩
    · have e : restF m i.cost.length 0 = memsM m := by
        unfold restF
        rw [List.drop_zero, ← memsM_range hsub (by omega)]
      rw [e]
      show _ = leastF _ (-1) (match freeP i.cost.length (intsN l) with | none => [] | some m => intsN (memsM m))
      rw [hp]
    · have hs := freeP_snoc h24 hp ((hmem k hk).2 hb)
      have h4 := bounda_below rok hs
      rw [show i.cost.length - (intsN l ++ [(k : Int)]).length = f by rw [List.length_append, intsN_len, List.length_singleton]; omega] at h4
      omega
    · rintro k A d q hkn hb rfl W x hq
      have hs := freeP_snoc h24 hp ((hmem k hkn).2 hb)
      exact best2_any i us hc hk f A d _ _ W hs (by rw [List.length_append, intsN_len, List.length_singleton]; omega) (H.ext x) hq
end Go.Proofs.Ytpapkofildcdiaa
namespace Go.Proofs.Ytpapkofildcdiaa
open Go.RowKit Go.ChangeShapes Go.WideShapes Go.ChangeAt Go.Deep

set_option maxRecDepth 100000 in
set_option maxHeartbeats 8000000 in
theorem small3_any (i : InstP) (us : List Value) (w : World) (H : RInst w us i) (hc : checkP i = 0) (hk : i.kind = 3) :
    Calls Try.prog 11 #[.agg (List.toArray us)] w fun e w' => e = .returned (.bool (decide (i.n ≤ 6))) ∧ Ext w w' := by
  have CH := fun (W : World) (x : Ext w W) => rcheck_any i us W (H.ext x)
  rw [hc] at CH
  obtain ⟨kind, nn, cap, xw, xv, co⟩ := i
  obtain ⟨A, a, B, b, D, d, rfl, -, -, -⟩ := H
  simp only at *
  subst hk
  replace CH := Lib.hid CH
  clear hc
  have B1 : Hid (Blk (w.alloc (.cells #[.int .i64 3, .int .i64 nn, .int .i64 cap, .slice A xw.length a, .slice B xv.length b, .slice D co.length d] 25)) w.heap.size 25 #[.int .i64 3, .int .i64 nn, .int .i64 cap, .slice A xw.length a, .slice B xv.length b, .slice D co.length d]) := .new rfl
  obtain ⟨bb, hbb⟩ : ∃ bb, Hid (decide (nn ≤ 6) = bb) := ⟨_, rfl⟩
  rw [hbb.out]
  have hb2 : decide (nn ≤ 6) = bb := hbb.out
  go_enter Try.func11, Try.ntmps11
  go_wp2_with (fail)
  refine (CH.out _ (by (repeat (first | assumption | exact Ext.rf _ | apply Ext.drew | apply Ext.drewN | apply Ext.alloc)))).mono ?_
  rintro e w1 ⟨rfl, x1⟩
  have X1 := Lib.hid (Ext.tr (a := w) (by (repeat (first | assumption | exact Ext.rf _ | apply Ext.drew | apply Ext.drewN | apply Ext.alloc))) x1)
  have b0 : w1.cell? ⟨w.heap.size, 0, none⟩ = some (.int .i64 3) := (B1.out.ext x1).cell 0
  have b1 : w1.cell? ⟨w.heap.size, 1, none⟩ = some (.int .i64 nn) := (B1.out.ext x1).cell 1
  clear x1 B1
  go_wp2_with (fail)
  go_ret
  exact ⟨by first | rfl | simp [hbb.out], X1.out⟩
set_option maxRecDepth 100000 in
set_option maxHeartbeats 8000000 in
theorem cost3_any (i : InstP) (us : List Value) (P : Option Addr) (c : Nat) (q : List Nat) (w : World) (H : RInst w us i) (hc : checkP i = 0) (hk : i.kind = 3) (hP : RdI w P (intsN (0 :: q))) (hl : (0 :: q).Perm (List.range i.cost.length)) :
    Calls Try.prog 12 #[.agg (List.toArray us), .slice P i.cost.length c] w fun e w' => e = .returned (.tuple #[.int .i64 (pathT i.cost 0 q), .int .i64 0]) ∧ Ext w w' := by
  have CH := fun (W : World) (x : Ext w W) => rcheck_any i us W (H.ext x)
  rw [hc] at CH
  have sq := square_ok hc (by omega)
  have rok := rows_ok sq
  have hnn : i.n = (i.cost.length : Int) := sq.len.symm
  have PE := fun (W : World) (x : Ext w W) => perm_yes P c i.cost.length (0 :: q) W (hP.ext x) hl (by have := rok.n2; omega)
  have hlt : Hid (∀ x ∈ 0 :: q, x < i.cost.length) := fun x hx => List.mem_range.1 (hl.mem_iff.1 hx)
  have hlen : Hid ((0 :: q).length = i.cost.length) := by
    have h : (0 :: q).length = i.cost.length := by rw [hl.length_eq, List.length_range]
    exact h
  have n24 := rok.n2
  have n1 := rok.n1
  clear hl hc sq
  obtain ⟨kind, nn, cap, xw, xv, co⟩ := i
  obtain ⟨A, a, B, b, D, d, rfl, -, -, ⟨hC, -, -⟩⟩ := H
  simp only at *
  subst hk hnn
  obtain ⟨cb, cof, _, _, _, rfl, _, _⟩ := cost_at rok hC (r := 0) (c := 0) (by omega) (by omega)
  have num := ends_num rok
  have CA := Lib.hid (fun (W : World) (x : Ext w W) (r c : Nat) (hr : r < co.length) (hc : c < co.length) => cost_in rok (hC.ext x fun _ _ h => h.ext x) hr hc)
  obtain ⟨tot, htot⟩ : ∃ tot, Hid (pathT co 0 q = tot) := ⟨_, rfl⟩
  rw [htot.out]
  have bt : 0 ≤ tot ∧ tot ≤ 2147483647 * 24 := by
    have h1 := pathT_bd num q 0 (by omega) fun x hx => hlt.out x (by simp [hx])
    have h2 := hlen.out
    rw [List.length_cons] at h2
    rw [htot.out] at h1
    omega
  have START : Hid ((0 : Int) + restW co ((0 :: q).drop 0) = tot) := by
    have h : (0 : Int) + restW co ((0 :: q).drop 0) = tot := by rw [← htot.out]; simp [restW]
    exact h
  obtain ⟨l, hll⟩ : ∃ l, Hid (0 :: q = l) := ⟨_, rfl⟩
  have h00 : Hid (l[0]? = some 0) := by
    have h : l[0]? = some 0 := by rw [← hll.out]; rfl
    exact h
  rw [hll.out] at hP hlt hlen START
  obtain ⟨pb, po, x0, rfl, zp0, cp0, ep0, _⟩ := hP.at (k := 0) (by rw [intsN_len, hlen.out]; omega)
  obtain rfl : x0 = 0 := by
    have h := ep0.out
    rw [intsN_get h00.out] at h
    exact (Option.some.inj h).symm
  replace cp0 : w.cell? ⟨pb, po, none⟩ = some (.int .i64 0) := cp0
  have DR : Hid (∀ k, k < co.length → ∃ u, l[k]? = some u ∧ u < co.length ∧ l.drop k = u :: l.drop (k + 1)) := fun k hk => by
    have h : k < l.length := by rw [hlen.out]; exact hk
    exact ⟨l[k], List.getElem?_eq_getElem h, hlt.out _ (List.getElem_mem h), List.drop_eq_getElem_cons h⟩
  replace CH := Lib.hid CH
  replace PE := Lib.hid PE
  replace hP := Lib.hid hP
  replace hC := Lib.hid hC
  replace rok := Lib.hid rok
  replace num := Lib.hid num
  have B1 : Hid (Blk (w.alloc (.cells #[.int .i64 3, .int .i64 co.length, .int .i64 cap, .slice A xw.length a, .slice B xv.length b, .slice (some ⟨cb, cof, none⟩) co.length d] 25)) w.heap.size 25 #[.int .i64 3, .int .i64 co.length, .int .i64 cap, .slice A xw.length a, .slice B xv.length b, .slice (some ⟨cb, cof, none⟩) co.length d]) := .new rfl
  have q00 : (0 : Int) < (co.length : Int) := by omega
  clear ep0
  go_enter Try.func12, Try.ntmps12
  go_wp2_with (fail)
  refine (CH.out _ (by (repeat (first | assumption | exact Ext.rf _ | apply Ext.drew | apply Ext.drewN | apply Ext.alloc)))).mono ?_
  rintro e w1 ⟨rfl, x1⟩
  have X1 := Lib.hid (Ext.tr (a := w) (by (repeat (first | assumption | exact Ext.rf _ | apply Ext.drew | apply Ext.drewN | apply Ext.alloc))) x1)
  have BB := Lib.hid (B1.out.ext x1)
  have d0 : w1.cell? ⟨w.heap.size, 0, none⟩ = some (.int .i64 3) := BB.out.cell 0
  have d1 : w1.cell? ⟨w.heap.size, 1, none⟩ = some (.int .i64 co.length) := BB.out.cell 1
  clear x1
  go_wp2_with (fail)
  refine (PE.out _ X1.out).mono ?_
  rintro e w2 ⟨rfl, x2⟩
  have X2 := Lib.hid (X1.out.tr x2)
  have BC := Lib.hid (BB.out.ext x2)
  have e0 : w2.cell? ⟨w.heap.size, 0, none⟩ = some (.int .i64 3) := BC.out.cell 0
  have e2 : w2.cell? ⟨pb, po, none⟩ = some (.int .i64 0) := keepEL X2.out zp0 cp0
  clear x2 d0 d1 BB
  go_wp2_with (fail)
  go_loopw [8, 7] (fun v s wr => ∃ (k : Nat) (su : Int), v = .int .i64 k ∧ s = .int .i64 su ∧ k ≤ co.length ∧ Hid (0 ≤ su ∧ su + restW co (l.drop k) = tot) ∧ Hid (Ext w2 wr)) (fun v _ _ => co.length - (intOf v).toNat)
  case atStart => exact ⟨0, 0, rfl, rfl, by omega, by exact (show (0 : Int) ≤ 0 ∧ (0 : Int) + restW co (l.drop 0) = tot from ⟨by omega, START.out⟩), Ext.rf _⟩
  case round =>
    obtain ⟨wo, rfl⟩ : ∃ wo : World, wo = wr := ⟨_, rfl⟩
    obtain ⟨k, su, rfl, rfl, hk, HS, Y⟩ := hrel
    have d0 : wo.cell? ⟨w.heap.size, 0, none⟩ = some (.int .i64 3) := (BC.out.ext Y.out).cell 0
    have d1 : wo.cell? ⟨w.heap.size, 1, none⟩ = some (.int .i64 co.length) := (BC.out.ext Y.out).cell 1
    have d5 : wo.cell? ⟨w.heap.size, 5, none⟩ = some (.slice (some ⟨cb, cof, none⟩) co.length d) := (BC.out.ext Y.out).cell 5
    have XW := Lib.hid (X2.out.tr Y.out)
    clear e0 e2 START
    by_cases hkl : k < co.length
    · obtain ⟨u, ek, hun, edr⟩ := DR.out k hkl
      obtain ⟨pb', po', xu, hPq, zpk, cpk, epk, _⟩ := (hP.out.ext XW.out).at (k := k) (by rw [intsN_len, hlen.out]; exact hkl)
      obtain ⟨rfl, rfl⟩ : pb = pb' ∧ po = po' := by simpa using hPq
      obtain rfl : xu = (u : Int) := by
        have h := epk.out
        rw [intsN_get ek] at h
        exact (Option.some.inj h).symm
      have HS1 := HS.out
      rw [edr] at HS1
      have q1 : (k : Int) < (co.length : Int) := by omega
      have q2 : (u : Int) < (co.length : Int) := by omega
      have hw0 : IntKind.i64.wrap ((k : Int) + 1) = (k : Int) + 1 := IntWalk.i64_in _ (by omega)
      clear ek edr hPq epk HS
      by_cases hlast : k + 1 = co.length
      · have e1 : l.drop (k + 1) = [] := List.drop_of_length_le (by rw [hlen.out]; omega)
        rw [e1] at HS1
        obtain ⟨rb, ro, d', c1, c2⟩ := CA.out _ XW.out u 0 hun (by omega)
        have nu := num.out u 0 hun (by omega)
        obtain ⟨y, hy⟩ : ∃ y, Hid (costAt co u 0 = y) := ⟨_, rfl⟩
        simp only [restW, pathT] at HS1
        rw [hy.out] at c2 nu HS1
        replace c2 : wo.cell? ⟨rb, ro, none⟩ = some (.int .i64 y) := c2
        have hrem : ((k : Int) + 1).tmod (co.length : Int) = 0 := by
          have h : (k : Int) + 1 = (co.length : Int) := by omega
          rw [h, Int.tmod_self]
        have hw1 : IntKind.i64.wrap 0 = 0 := IntWalk.i64_in _ (by omega)
        have hw : IntKind.i64.wrap (su + y) = su + y := IntWalk.i64_in _ (by omega)
        have p0 : wo.cell? ⟨pb, po, none⟩ = some (.int .i64 0) := keepEL XW.out zp0 cp0
        have NEW : Hid (0 ≤ su + y ∧ su + y + restW co (l.drop (k + 1)) = tot) := by
          have h : 0 ≤ su + y ∧ su + y + restW co (l.drop (k + 1)) = tot := by
            rw [e1]
            simp only [restW]
            omega
          exact h
        have hnz : ((co.length : Int) == 0) = false := by rw [beq_eq_false_iff_ne]; omega
        clear HS1 e1
        replace hlast := Lib.hid hlast
        go_wp2_with (fail)
        go_quiet (fail)
        go_wp2_with (fail)
        go_roundw
        case rel => exact ⟨k + 1, su + y, by go_num, rfl, by omega, NEW, Y.out.drewN _⟩
        case measure => simp [intOf]; omega
      · have hk1 : k + 1 < co.length := by omega
        obtain ⟨v, ek1, hvn, edr1⟩ := DR.out (k + 1) hk1
        obtain ⟨pb', po', xu, hPq, zpk1, cpk1, epk1, _⟩ := (hP.out.ext XW.out).at (k := k + 1) (by rw [intsN_len, hlen.out]; exact hk1)
        obtain ⟨rfl, rfl⟩ : pb = pb' ∧ po = po' := by simpa using hPq
        obtain rfl : xu = (v : Int) := by
          have h := epk1.out
          rw [intsN_get ek1] at h
          exact (Option.some.inj h).symm
        rw [edr1] at HS1
        obtain ⟨rb, ro, d', c1, c2⟩ := CA.out _ XW.out u v hun hvn
        have nu := num.out u v hun hvn
        obtain ⟨y, hy⟩ : ∃ y, Hid (costAt co u v = y) := ⟨_, rfl⟩
        simp only [restW, pathT] at HS1
        rw [hy.out] at c2 nu HS1
        have hpp := (pathT_bd num.out (l.drop (k + 1 + 1)) v hvn fun x hx => hlt.out x (List.mem_of_mem_drop hx)).1
        have hrem : ((k : Int) + 1).tmod (co.length : Int) = ((k + 1 : Nat) : Int) := by
          rw [Int.tmod_eq_emod_of_nonneg (by omega), Int.emod_eq_of_lt (by omega) (by omega)]
          omega
        have hw1 : IntKind.i64.wrap ((k + 1 : Nat) : Int) = ((k + 1 : Nat) : Int) := IntWalk.i64_in _ (by omega)
        have hw : IntKind.i64.wrap (su + y) = su + y := IntWalk.i64_in _ (by omega)
        have NEW : Hid (0 ≤ su + y ∧ su + y + restW co (l.drop (k + 1)) = tot) := by
          have h : 0 ≤ su + y ∧ su + y + restW co (l.drop (k + 1)) = tot := by
            rw [edr1]
            simp only [restW]
            omega
          exact h
        have q3 : (v : Int) < (co.length : Int) := by omega
        have q4 : ((k + 1 : Nat) : Int) < (co.length : Int) := by omega
        have hnz : ((co.length : Int) == 0) = false := by rw [beq_eq_false_iff_ne]; omega
        clear HS1 edr1 ek1 hPq epk1 hpp
        replace hlast := Lib.hid hlast
        go_wp2_with (fail)
        go_quiet (fail)
        go_wp2_with (fail)
        go_roundw
        case rel => exact ⟨k + 1, su + y, by go_num, rfl, by omega, NEW, Y.out.drewN _⟩
        case measure => simp [intOf]; omega
    · have q1 : ¬ (k : Int) < (co.length : Int) := by omega
      have HS2 : Hid (su = tot) := by
        have h := HS.out.2
        rw [List.drop_of_length_le (by rw [hlen.out]; omega)] at h
        simp only [restW] at h
        have h2 : su = tot := by omega
        exact h2
      go_wp2_with (fail)
      go_ret2
      rw [HS2.out]
      exact ⟨rfl, XW.out⟩
set_option maxRecDepth 100000 in
set_option maxHeartbeats 8000000 in
theorem best3_more (i : InstP) (us : List Value) (P : Option Addr) (c : Nat) (l : List Nat) (w : World) (H : RInst w us i) (hk2 : i.kind = 3) (hP : RdI w P (intsN l)) (n m : Nat) (hn : i.n = n) (hn24 : n ≤ 24) (hlen : l.length < n) (hl0 : 0 < l.length) (bs : Int) (f : Int → Int)
    (hused : ∀ k, k < n → (m.testBit k = true ↔ k ∉ l)) (e5 : leastF f (-1) (intsN (restF m n 0)) = bs) (fpos : ∀ k, k < n → m.testBit k = true → 0 ≤ f (k : Int))
    (IH3 : ∀ (k : Nat) (A : Option Addr) (d : Nat) (q : List Int), k < n → m.testBit k = true → q = intsN l ++ [(k : Int)] → ∀ W : World, Ext w W → RdI W A q → Calls Try.prog 14 #[.agg (List.toArray us), .slice A q.length d] W fun e w' => e = .returned (.int .i64 (f k)) ∧ Ext W w') :
    Calls Try.prog 14 #[.agg (List.toArray us), .slice P l.length c] w fun e w' => e = .returned (.int .i64 bs) ∧ Ext w w' := by
  obtain ⟨kind, nn, cap, xw, xv, co⟩ := i
  obtain ⟨A, a, B, b, D, d, rfl, -, -, -⟩ := H
  simp only at *
  subst hk2 hn
  replace IH3 := Lib.hid IH3
  replace e5 := Lib.hid e5
  replace hP := Lib.hid hP
  replace hused := Lib.hid hused
  replace fpos := Lib.hid fpos
  have hz0 : ((l.length : Int) == 0) = false := by rw [beq_eq_false_iff_ne]; omega
  have hne : ((l.length : Int) == (n : Int)) = false := by rw [beq_eq_false_iff_ne]; omega
  have B1 : Hid (Blk (w.alloc (.cells #[.int .i64 3, .int .i64 n, .int .i64 cap, .slice A xw.length a, .slice B xv.length b, .slice D co.length d] 25)) w.heap.size 25 #[.int .i64 3, .int .i64 n, .int .i64 cap, .slice A xw.length a, .slice B xv.length b, .slice D co.length d]) := .new rfl
  have X0 : Hid (Ext w (w.alloc (.cells #[.int .i64 3, .int .i64 n, .int .i64 cap, .slice A xw.length a, .slice B xv.length b, .slice D co.length d] 25))) := (Ext.rf _).alloc _
  obtain ⟨w1, hw1⟩ : ∃ w1, w1 = (w.alloc (.cells #[.int .i64 3, .int .i64 n, .int .i64 cap, .slice A xw.length a, .slice B xv.length b, .slice D co.length d] 25)) := ⟨_, rfl⟩
  have B2 : Hid (Blk w1 w.heap.size 25 #[.int .i64 3, .int .i64 n, .int .i64 cap, .slice A xw.length a, .slice B xv.length b, .slice D co.length d]) := by rw [hw1]; exact B1.out
  have X1 : Hid (Ext w w1) := by rw [hw1]; exact X0.out
  replace hw1 := Lib.hid hw1
  clear B1
  go_enter Try.func14, Try.ntmps14
  go_wp2_with (fail)
  rw [← hw1.out]
  clear X0
  go_loopw [9, 7] (fun v bv wr => ∃ (k : Nat) (bb : Int), v = .int .i64 k ∧ bv = .int .i64 bb ∧ k ≤ n ∧ Hid (leastF f bb (intsN (restF m n k)) = bs) ∧ Hid (Ext w1 wr)) (fun v _ _ => n - (intOf v).toNat)
  case atStart => exact ⟨0, -1, rfl, rfl, by omega, e5, Ext.rf _⟩
  case round =>
    obtain ⟨wo, rfl⟩ : ∃ wo : World, wo = wr := ⟨_, rfl⟩
    obtain ⟨k, bb, rfl, rfl, hk, HS, Y⟩ := hrel
    by_cases hlt : k < n
    · have HN : Hid (leastF f bb (intsN (if m.testBit k = true then k :: restF m n (k + 1) else restF m n (k + 1))) = bs) := by
        have h := HS.out
        rw [restF_step hlt] at h
        exact h
      have q1 : (k : Int) < (n : Int) := by omega
      have B3 := B2.out.ext Y.out
      have zb3 := B3.lt
      have c0 : wo.cell? ⟨w.heap.size, 0, none⟩ = some (.int .i64 3) := B3.cell 0
      have HU := hused.out k hlt
      replace HU := Lib.hid HU
      replace B3 := Lib.hid B3
      clear HS
      go_wp2_with (fail)
      go_loopw [11, 10] (fun v uv wr => ∃ j : Nat, v = .int .i64 j ∧ uv = .bool ((l.take j).contains k) ∧ j ≤ l.length ∧ wr = wo) (fun v _ _ => l.length - (intOf v).toNat)
      case atStart => exact ⟨0, rfl, rfl, by omega, rfl⟩
      case round =>
        obtain ⟨j, rfl, rfl, hj, hwr⟩ := hrel
        have hwr' : wo = wr := (show wr = wo from hwr).symm
        clear hwr
        subst hwr'
        by_cases hjl : j < l.length
        · have q2 : (j : Int) < (l.length : Int) := by omega
          have ej : l[j]? = some l[j] := List.getElem?_eq_getElem hjl
          generalize l[j] = y at ej
          obtain ⟨pb, po, x, rfl, _, cx, ex, _⟩ := (hP.out.ext (X1.out.tr Y.out)).at (k := j) (by rw [intsN_len]; exact hjl)
          obtain rfl : x = (y : Int) := by
            have h := ex.out
            rw [intsN_get ej] at h
            exact (Option.some.inj h).symm
          have HC : Hid ((l.take (j + 1)).contains k = ((l.take j).contains k || (y == k))) := by
            have h : (l.take (j + 1)).contains k = ((l.take j).contains k || (y == k)) := by
              rw [List.take_add_one, ej, Bool.eq_iff_iff, Bool.or_eq_true, List.contains_iff_mem, List.contains_iff_mem, beq_iff_eq]
              show k ∈ l.take j ++ [y] ↔ _
              rw [List.mem_append, List.mem_singleton]
              exact ⟨fun h => h.imp id Eq.symm, fun h => h.imp id Eq.symm⟩
            exact h
          clear ex ej
          cases hb : (l.take j).contains k with
          | true =>
            have HC2 : Hid ((l.take (j + 1)).contains k = true) := by
              have h := HC.out
              rw [hb, Bool.true_or] at h
              exact h
            clear HC hb
            go_wp2_with (fail)
            go_roundw
            case rel => exact ⟨j + 1, by go_num, by rw [HC2.out], by omega, by first | exact rfl | exact trivial⟩
            case measure => simp [intOf]; omega
          | false =>
            obtain ⟨yk, hyk⟩ : ∃ yk, Hid ((y == k) = yk) := ⟨_, rfl⟩
            have HC2 : Hid ((l.take (j + 1)).contains k = yk) := by
              have h := HC.out
              rw [hb, Bool.false_or, hyk.out] at h
              exact h
            have t1 : (y == k) = yk := hyk.out
            have t2 : ((y : Int) == (k : Int)) = yk := by
              rw [← hyk.out, Bool.eq_iff_iff, beq_iff_eq, beq_iff_eq]
              omega
            clear HC hb
            go_wp2_with (fail)
            go_roundw
            case rel => exact ⟨j + 1, by go_num, by rw [HC2.out], by omega, by first | exact rfl | exact trivial⟩
            case measure => simp [intOf]; omega
        · have q2 : ¬ (j : Int) < (l.length : Int) := by omega
          rw [List.take_of_length_le (by omega)]
          cases hb : m.testBit k with
          | false =>
            have hu : l.contains k = true := by
              rw [List.contains_iff_mem]
              cases hd : decide (k ∈ l) with
              | true => exact of_decide_eq_true hd
              | false =>
                have := HU.out.2 (of_decide_eq_false hd)
                rw [hb] at this
                cases this
            have HN2 : Hid (leastF f bb (intsN (restF m n (k + 1))) = bs) := by
              have h := HN.out
              rw [hb, if_neg (by simp)] at h
              exact h
            rw [hu]
            clear HN hb hu
            go_wp2_with (fail)
            go_roundw
            case rel => exact ⟨k + 1, bb, by go_num, rfl, by omega, HN2, Y⟩
            case measure => simp [intOf]; omega
          | true =>
            have hu : l.contains k = false := by
              cases hd : l.contains k with
              | false => rfl
              | true => exact absurd (List.contains_iff_mem.1 hd) (HU.out.1 hb)
            have HN2 : Hid (leastF f (if bb < 0 then f (k : Int) else if f (k : Int) < bb then f (k : Int) else bb) (intsN (restF m n (k + 1))) = bs) := by
              have h := HN.out
              rw [hb, if_pos rfl] at h
              exact h
            have IHk := Lib.hid (fun (A : Option Addr) (d : Nat) (q : List Int) (hq : q = intsN l ++ [(k : Int)]) => IH3.out k A d q hlt hb hq)
            have fk := fpos.out k hlt hb
            rw [hu]
            generalize f (k : Int) = fv at *
            clear HN hb hu HU
            have c1' : wo.cell? ⟨w.heap.size, 1, none⟩ = some (.int .i64 n) := B3.out.cell 1
            have c2 : wo.cell? ⟨w.heap.size, 2, none⟩ = some (.int .i64 cap) := B3.out.cell 2
            have c3 : wo.cell? ⟨w.heap.size, 3, none⟩ = some (.slice A xw.length a) := B3.out.cell 3
            have c4 : wo.cell? ⟨w.heap.size, 4, none⟩ = some (.slice B xv.length b) := B3.out.cell 4
            have c5 : wo.cell? ⟨w.heap.size, 5, none⟩ = some (.slice D co.length d) := B3.out.cell 5
            obtain ⟨q, hq⟩ : ∃ q, Hid (q = intsN l ++ [(k : Int)]) := ⟨_, rfl⟩
            have lq : q.length = l.length + 1 := by rw [hq.out]; simp [intsN]
            go_upto_region 19 with (fail)
            refine wp_region_any (by kernel_rfl) ?_
            change wpAny _ _ _ _ _ _ _ (World.drew _)
            refine wpAny_T (i := 2) (op := Op.move (Operand.tmp 1)) (t := 22) (d := some 74) (v := ?_) rfl (by decide +kernel) (by decide +kernel) (by decide +kernel) (fun _ _ _ h => h) ?_ ?_
            case refine_2 => (intro _; unfold exec2; go_simp; try with_reducible rfl)
            try simp only [Act.put, List.setIfInBounds_toArray, List.set_cons_zero, List.set_cons_succ]
            refine wpAny_T (i := 4) (op := Op.move (Operand.tmp 9)) (t := 3) (d := some 76) (v := ?_) rfl (by decide +kernel) (by decide +kernel) (by decide +kernel) (fun _ _ _ h => h) ?_ ?_
            case refine_2 => (intro _; unfold exec2; go_simp; try with_reducible rfl)
            try simp only [Act.put, List.setIfInBounds_toArray, List.set_cons_zero, List.set_cons_succ]
            refine wpAny_core3 (n := 2) [(0, some 72), (1, some 73), (3, some 75), (5, some 77), (6, some 78)] (fun | 1 => [3] | 3 => [6] | 5 => [6] | _ => []) (Ext wo)
              (VF (fun | 0 => some (.agg #[.int .i64 3, .int .i64 n, .int .i64 cap, .slice A xw.length a, .slice B xv.length b, .slice D co.length d]) | _ => none)
                (fun j v W => (j = 1 → ∃ g, v = .slice (some ⟨g, 0, none⟩) 0 0 ∧ wo.heap.size ≤ g ∧ Blk W g 3 #[]) ∧ (j = 3 → ∃ A c, v = .slice A (intsN l).length c ∧ OwI W wo.heap.size A c (intsN l)) ∧ (j = 5 → ∃ h, v = .slice (some ⟨h, 0, none⟩) 1 1 ∧ Blk W h 3 #[.int .i64 (k : Int)]) ∧ (j = 6 → ∃ A c, v = .slice A q.length c ∧ OwI W wo.heap.size A c q)))
              (fun i W W' => i ≠ 6 → Ext W W') #[true, true, true, true, true, true, true, false, false] (by kernel_rfl) (by kernel_rfl) ?_ ?_ ?_ ((Ext.rf _).drew)
            · intro i j v W W' hkp hv hs
              refine VF.stab1 (fun _ ⟨g1, g3, g8, g9⟩ => ?_) hv
              by_cases hi : i = 6
              · subst hi
                refine ⟨fun h => ?_, fun h => ?_, fun h => ?_, fun h => ?_⟩
                all_goals (subst h; exact absurd hkp (by decide +kernel))
              · have hx := hs hi
                refine ⟨fun h => ?_, fun h => ?_, fun h => ?_, fun h => ?_⟩
                · obtain ⟨g, q1, q2, q3⟩ := g1 h
                  exact ⟨g, q1, q2, q3.ext hx⟩
                · obtain ⟨A', c', q1, q2⟩ := g3 h
                  exact ⟨A', c', q1, q2.ext hx⟩
                · obtain ⟨h', q1, q2⟩ := g8 h
                  exact ⟨h', q1, q2.ext hx⟩
                · obtain ⟨A', c', q1, q2⟩ := g9 h
                  exact ⟨A', c', q1, q2.ext hx⟩
            · intro pq hpm u W hRW hD K hK
              have z2 := hRW.size
              simp only [List.mem_cons, List.not_mem_nil, or_false] at hpm
              rcases hpm with rfl | rfl | rfl | rfl | rfl
              · have r0 := keepEL hRW zb3 c0
                have r1 := keepEL hRW zb3 c1'
                have r2 := keepEL hRW zb3 c2
                have r3 := keepEL hRW zb3 c3
                have r4 := keepEL hRW zb3 c4
                have r5 := keepEL hRW zb3 c5
                exact op_ld (T := 25) rfl (.pointer (some ⟨w.heap.size, 0, none⟩)) (by kernel_rfl) (.agg #[.int .i64 3, .int .i64 n, .int .i64 cap, .slice A xw.length a, .slice B xv.length b, .slice D co.length d]) (by go_simp) (hK _ _ (VF.mk rfl) hRW (fun _ => Ext.rf _))
              · exact op_bs0 rfl _ (ibs0_run _) (hK _ _ (VF.mg rfl ⟨fun _ => ⟨_, rfl, z2, .new rfl⟩, (fun h => by cases h), (fun h => by cases h), (fun h => by cases h)⟩) (hRW.alloc _) (fun _ => (Ext.rf _).alloc _))
              · obtain ⟨g, h1, zg, bg⟩ := ((hD 1 (depIn (by kernel_rfl))).g rfl).1 rfl
                obtain ⟨A3, c3, w3, hr3, o3, x3⟩ := run_copy_i W wo.heap.size 22 g (intsN l) P c bg zg (hP.out.ext ((X1.out.tr Y.out).tr hRW)) (by rw [intsN_len]; omega)
                exact op_app rfl (.slice (some ⟨g, 0, none⟩) 0 0) (.slice P (intsN l).length c) (Eq.trans (b := u 1) (by kernel_rfl) h1) (by rw [intsN_len]; kernel_rfl) _ hr3 (hK _ _ (VF.mg rfl ⟨(fun h => by cases h), fun _ => ⟨A3, c3, rfl, o3⟩, (fun h => by cases h), (fun h => by cases h)⟩) (hRW.tr x3) (fun _ => x3))
              · exact op_bs1 rfl (.int .i64 (k : Int)) (by kernel_rfl) _ (ibs1_run _ _) (hK _ _ (VF.mg rfl ⟨(fun h => by cases h), (fun h => by cases h), fun _ => ⟨_, rfl, .new rfl⟩, (fun h => by cases h)⟩) (hRW.alloc _) (fun _ => (Ext.rf _).alloc _))
              · obtain ⟨A3, c3', h3, o3⟩ := ((hD 3 (depIn (by kernel_rfl))).g rfl).2.1 rfl
                obtain ⟨g8, h8, b8⟩ := ((hD 5 (depIn (by kernel_rfl))).g rfl).2.2.1 rfl
                obtain ⟨A7, c7, w7, hrun, o7, g7, -⟩ := run_app_i W wo.heap.size 22 A3 (intsN l).length c3' (intsN l) [(k : Int)] (some ⟨g8, 0, none⟩) 1 rfl o3 (.blk b8 rfl) (by rw [intsN_len]; simp; omega) hRW.size
                have x7 : Ext wo w7 := hRW.grow g7 (fun k hk => (o3.lt k hk).1)
                rw [← hq.out] at hrun o7
                exact op_app rfl (.slice A3 (intsN l).length c3') (.slice (some ⟨g8, 0, none⟩) 1 1) (Eq.trans (b := u 3) (by kernel_rfl) h3) (Eq.trans (b := u 5) (by kernel_rfl) h8) _ hrun (hK _ _ (VF.mg rfl ⟨(fun h => by cases h), (fun h => by cases h), (fun h => by cases h), fun _ => ⟨A7, c7, rfl, o7⟩⟩) x7 (fun h => absurd rfl h))
            · intro u w7 hRW hV
              have h0 := (hV (0, some 72) (by simp) rfl).k rfl
              obtain ⟨A7, c7, h9, o7⟩ := ((hV (6, some 78) (by simp) rfl).g rfl).2.2.2 rfl
              simp only [putAll, h0, h9]
              have rq := Lib.hid o7.read
              have x7 := Lib.hid hRW
              clear h0 h9 hV o7 hRW
              try simp only [Act.put, List.setIfInBounds_toArray, List.set_cons_zero, List.set_cons_succ]
              refine wpAny_next 7 (by decide +kernel) (op_call (f := 14) (xs := #[Operand.tmp 72, Operand.tmp 78]) (ts := #[25, 22]) (t := 3) (d := some 79) rfl #[.agg #[.int .i64 3, .int .i64 n, .int .i64 cap, .slice A xw.length a, .slice B xv.length b, .slice D co.length d], .slice A7 q.length c7] (by go_simp) (by kernel_rfl) _ (IHk.out A7 c7 q hq.out w7 (X1.out.tr (Y.out.tr x7.out)) rq.out) ?_)
              rintro e w8 ⟨rfl, x8⟩
              refine ⟨_, rfl, ?_⟩
              try simp only [Act.put, List.setIfInBounds_toArray, List.set_cons_zero, List.set_cons_succ]
              refine wpAny_T (i := 8) (op := Op.assign (Operand.tmp 79)) (t := 3) (d := some 12) (v := ?_) rfl (by decide +kernel) (by decide +kernel) (by decide +kernel) (fun _ _ _ h => h) ?_ ?_
              case refine_2 => (intro _; unfold exec2; go_simp; try with_reducible rfl)
              try simp only [Act.put, List.setIfInBounds_toArray, List.set_cons_zero, List.set_cons_succ]
              refine wpAny_done (by kernel_rfl) ?_ _
              have Y8 := Lib.hid (Y.out.tr (x7.out.tr x8))
              clear x8 x7 rq c0 c1' c2 c3 c4 c5
              go_simp
              by_cases hbb : bb < 0
              · rw [if_pos hbb] at HN2
                go_wp2_with (fail)
                go_roundw
                case rel => exact ⟨k + 1, fv, by go_num, rfl, by omega, HN2, Y8⟩
                case measure => simp [intOf]; omega
              · rw [if_neg hbb] at HN2
                by_cases hfb : fv < bb
                · rw [if_pos hfb] at HN2
                  go_wp2_with (fail)
                  go_roundw
                  case rel => exact ⟨k + 1, fv, by go_num, rfl, by omega, HN2, Y8⟩
                  case measure => simp [intOf]; omega
                · rw [if_neg hfb] at HN2
                  go_wp2_with (fail)
                  go_roundw
                  case rel => exact ⟨k + 1, bb, by go_num, rfl, by omega, HN2, Y8⟩
                  case measure => simp [intOf]; omega
    · obtain rfl : k = n := by omega
      have q1 : ¬ (k : Int) < (k : Int) := by omega
      have HN : Hid (bb = bs) := by
        have h := HS.out
        unfold restF at h
        rw [List.drop_of_length_le (by rw [List.length_range]; omega)] at h
        exact h
      obtain rfl := HN.out
      go_wp2_with (fail)
      go_ret
      exact ⟨rfl, X1.out.tr Y.out⟩
set_option maxRecDepth 100000 in
set_option maxHeartbeats 8000000 in
theorem best3_whole (i : InstP) (us : List Value) (P : Option Addr) (c : Nat) (q : List Nat) (w : World) (H : RInst w us i) (hc : checkP i = 0) (hk : i.kind = 3) (hP : RdI w P (intsN (0 :: q))) (hl : (0 :: q).Perm (List.range i.cost.length)) :
    Calls Try.prog 14 #[.agg (List.toArray us), .slice P i.cost.length c] w fun e w' => e = .returned (.int .i64 (pathT i.cost 0 q)) ∧ Ext w w' := by
  have CO := fun (W : World) (x : Ext w W) => cost3_any i us P c q W (H.ext x) hc hk (hP.ext x) hl
  have hnn : i.n = (i.cost.length : Int) := (square_ok hc (by omega)).len.symm
  generalize pathT i.cost 0 q = cv at *
  clear hl hP hc
  obtain ⟨kind, nn, cap, xw, xv, co⟩ := i
  obtain ⟨A, a, B, b, D, d, rfl, -, -, -⟩ := H
  simp only at *
  subst hk hnn
  replace CO := Lib.hid CO
  have hb : ((co.length : Int) == (co.length : Int)) = true := by simp
  go_enter Try.func14, Try.ntmps14
  go_wp2_with (fail)
  refine (CO.out _ (by (repeat (first | assumption | exact Ext.rf _ | apply Ext.drew | apply Ext.drewN | apply Ext.alloc)))).mono ?_
  rintro e w1 ⟨rfl, x1⟩
  have X1 := Lib.hid (Ext.tr (a := w) (by (repeat (first | assumption | exact Ext.rf _ | apply Ext.drew | apply Ext.drewN | apply Ext.alloc))) x1)
  clear x1
  go_wp2_with (fail)
  go_ret
  exact ⟨rfl, X1.out⟩
theorem whole_perm {rows : List (List Int)} {p : List Int} {m last : Nat} {cost : Int} {l : List Nat} (h1 : 1 ≤ rows.length) (W : WalkOk rows p m last cost l) (hlen : l.length = rows.length - 1) : (0 :: l).Perm (List.range rows.length) := by
  have hm := W.len
  have he : memsM m = [] := List.eq_nil_of_length_eq_zero (by omega)
  refine (List.perm_ext_iff_of_nodup (List.nodup_cons.2 ⟨fun h => (W.inn 0 h).2 rfl, W.nodup⟩) List.nodup_range).2 fun x => ?_
  rw [List.mem_range]
  constructor
  · intro hx
    rcases List.mem_cons.1 hx with rfl | hx
    · omega
    · exact (W.inn x hx).1
  · intro hx
    by_cases h0 : x = 0
    · simp [h0]
    · by_cases hl : x ∈ l
      · exact List.mem_cons_of_mem _ hl
      · have := (W.rest x).2 ⟨⟨hx, h0⟩, hl⟩
        rw [he] at this
        cases this
theorem best3_any (i : InstP) (us : List Value) (hc : checkP i = 0) (hk : i.kind = 3) : ∀ (f : Nat) (P : Option Addr) (c : Nat) (p : List Int) (m last : Nat) (cost : Int) (w : World), walkP i.cost p = some (m, last, cost) → f = i.cost.length - 1 - p.length → RInst w us i → RdI w P (0 :: p) →
    Calls Try.prog 14 #[.agg (List.toArray us), .slice P (0 :: p).length c] w fun e w' => e = .returned (.int .i64 (bestT i.cost f p)) ∧ Ext w w'
  | 0, P, c, p, m, last, cost, w => fun hp hf H hP => by
    have sq := square_ok hc (by omega)
    have rok := rows_ok sq
    obtain ⟨l, W⟩ := walk_ok rok.n1 rok.n2 hp
    have hlen := W.len
    have h1 := rok.n1
    have hpl : p.length = l.length := by rw [W.eq, intsN_len]
    have e : bestT i.cost 0 p = pathT i.cost 0 l := by
      show pathT i.cost 0 (p.map Int.toNat) = _
      rw [W.eq, toNat_ints]
    have hpm := whole_perm h1 W (by omega)
    rw [e, show (0 :: p).length = i.cost.length by simp; omega]
    have hP' : RdI w P (intsN (0 :: l)) := by
      have e2 : intsN (0 :: l) = 0 :: p := by rw [W.eq]; rfl
      rw [e2]
      exact hP
    exact best3_whole i us P c l w H hc hk hP' hpm
  | f + 1, P, c, p, m, last, cost, w => fun hp hf H hP => by
    have sq := square_ok hc (by omega)
    have rok := rows_ok sq
    have h24 := rok.n2
    have h1 := rok.n1
    obtain ⟨l, W⟩ := walk_ok h1 h24 hp
    have hlen := W.len
    have hsub := W.sub
    have hpl : p.length = l.length := by rw [W.eq, intsN_len]
    have hmem : ∀ k, k < i.cost.length → (k ∈ memsM m ↔ m.testBit k = true) := fun k hk => memsM_bits hsub (by omega) hk
    have e2 : intsN (0 :: l) = 0 :: p := by rw [W.eq]; rfl
    have hP' : RdI w P (intsN (0 :: l)) := by
      rw [e2]
      exact hP
    have elen : (0 :: p).length = (0 :: l).length := by simp [hpl]
    rw [elen]
    refine best3_more i us P c (0 :: l) w H hk hP' i.cost.length m sq.len.symm h24 (by simp; omega) (by simp) _ (fun x => bestT i.cost f (p ++ [x])) (fun k hk => ?_) ?_ (fun k hk hb => ?_) ?_
    · rw [← hmem k hk, W.rest k, List.mem_cons]
      constructor
      · rintro ⟨⟨_, a⟩, b⟩ (h | h)
        · exact a h
        · exact b h
      · intro h
        exact ⟨⟨hk, fun a => h (.inl a)⟩, fun b => h (.inr b)⟩
    · have e : restF m i.cost.length 0 = memsM m := by
        unfold restF
        rw [List.drop_zero, ← memsM_range hsub (by omega)]
      rw [e]
      show _ = leastF _ (-1) (match walkP i.cost p with | none => [] | some (m, _, _) => intsN (memsM m))
      rw [hp]
    · have hs := walkP_snoc h1 h24 hp ((hmem k hk).2 hb)
      have h4 := boundT_below (mirror := false) h1 h24 (ends_num rok) (fun h => by cases h) hs
      rw [show i.cost.length - 1 - (p ++ [(k : Int)]).length = f by rw [List.length_append, List.length_singleton]; omega] at h4
      omega
    · rintro k A d q hkn hb rfl W' x hq
      have hs := walkP_snoc h1 h24 hp ((hmem k hkn).2 hb)
      have e3 : intsN (0 :: l) ++ [(k : Int)] = 0 :: (p ++ [(k : Int)]) := by rw [e2]; rfl
      rw [e3] at hq ⊢
      exact best3_any i us hc hk f A d _ _ _ _ W' hs (by rw [List.length_append, List.length_singleton]; omega) (H.ext x) hq
end Go.Proofs.Ytpapkofildcdiaa
namespace Go.Proofs.Ytpapkofildcdiaa
open Go.RowKit Go.ChangeShapes Go.WideShapes Go.ChangeAt Go.Deep

theorem u64_and32 (x : Int) (h₀ : 0 ≤ x) (h₁ : x < 18446744073709551616) : bits .and .u64 x 4294967295 = x % 4294967296 := bits_mask .u64 64 (by decide) wraps_u64 32 (by decide) x h₀ h₁
theorem mul_bd {a b : Int} (ha : 0 ≤ a) (ha' : a ≤ 2147483647) (hb : 0 ≤ b) (hb' : b ≤ 2147483647) : 0 ≤ a * b ∧ a * b ≤ 4611686014132420609 := by
  refine ⟨Int.mul_nonneg ha hb, ?_⟩
  have h1 : a * b ≤ 2147483647 * b := Int.mul_le_mul_of_nonneg_right ha' hb
  omega
set_option maxRecDepth 100000 in
theorem mul64_any (a b : Int) (w : World) (ha : 0 ≤ a) (ha' : a ≤ 2147483647) (hb : 0 ≤ b) (hb' : b ≤ 2147483647) :
    Calls Try.prog 64 #[.int .u64 a, .int .u64 b] w fun e w' => e = .returned (.tuple #[.int .u64 0, .int .u64 (a * b)]) ∧ Ext w w' := by
  have ea : Hid (bits BinOp.and IntKind.u64 a 4294967295 = a) := by
    have h := u64_and32 a ha (by omega)
    rw [Int.emod_eq_of_lt ha (by omega)] at h
    exact h
  have eb : Hid (bits BinOp.and IntKind.u64 b 4294967295 = b) := by
    have h := u64_and32 b hb (by omega)
    rw [Int.emod_eq_of_lt hb (by omega)] at h
    exact h
  have da : Hid (a / 4294967296 = 0) := by
    have h : a / 4294967296 = 0 := by omega
    exact h
  have db : Hid (b / 4294967296 = 0) := by
    have h : b / 4294967296 = 0 := by omega
    exact h
  have hm := mul_bd ha ha' hb hb'
  have wm : Hid (IntKind.u64.wrap (a * b) = a * b) := wraps_u64 _ hm.1 (by omega)
  have dm : Hid (∃ q : Int, 0 ≤ q ∧ q < 4294967296 ∧ a * b / 4294967296 = q) := by
    have h : ∃ q : Int, 0 ≤ q ∧ q < 4294967296 ∧ a * b / 4294967296 = q := ⟨_, by omega, by omega, rfl⟩
    exact h
  have w0 : Hid (IntKind.u64.wrap 0 = 0) := by
    have h : IntKind.u64.wrap 0 = 0 := by decide
    exact h
  clear hm
  go_enter Try.func64, Try.ntmps64
  go_wp2
  refine bodyPost_ret (v := .tuple #[.int .u64 0, .int .u64 (a * b)]) ?_ rfl ⟨rfl, Ext.rf _⟩
  obtain ⟨q, hq0, hq1, hq⟩ := dm.out
  have w1 := ea.out
  have w2 := eb.out
  have w3 := da.out
  have w4 := db.out
  have w5 := wm.out
  have w6 := w0.out
  have wq := wraps_u64 q hq0 (by omega)
  have dq : q / 4294967296 = 0 := by omega
  have aq : bits BinOp.and IntKind.u64 q 4294967295 = q := by
    have h := u64_and32 q hq0 (by omega)
    rw [Int.emod_eq_of_lt hq0 hq1] at h
    exact h
  simp only [w1, w2, w3, w4, w5, w6, hq, Int.zero_mul, Int.mul_zero, Int.add_zero, Int.zero_add, wq, dq, aq]
  simp [results, Try.results64, go_sem]
end Go.Proofs.Ytpapkofildcdiaa
namespace Go.Proofs.Ytpapkofildcdiaa
open Go.RowKit Go.ChangeShapes Go.WideShapes Go.ChangeAt Go.Deep

theorem size64_any (a : Int) (w : World) (ha : 0 ≤ a) (ha' : a ≤ 2147483647) :
    Calls Try.prog 65 #[.int .i64 a] w fun e w' => e = .returned (.int .u64 a) ∧ Ext w w' := by
  have wm : IntKind.u64.wrap a = a := wraps_u64 _ ha (by omega)
  go_enter Try.func65, Try.ntmps65
  go_wp2
  go_ret
  exact ⟨rfl, Ext.rf _⟩
/-- a sum of which one part is nought -/
def sgnP (a b : Int) : Int := if a = 0 ∨ b = 0 then 0 else 1
set_option maxRecDepth 100000 in
set_option maxHeartbeats 1000000 in
theorem product_any (a b : Int) (w : World) (ha : 0 ≤ a) (ha' : a ≤ 2147483647) (hb : 0 ≤ b) (hb' : b ≤ 2147483647) :
    Calls Try.prog 61 #[.int .i64 a, .int .i64 b] w fun e w' => e = .returned (.tuple #[.int .i64 (sgnP a b), .agg #[.int .u64 0, .int .u64 (a * b)]]) ∧ Ext w w' := by
  have na : decide (a < 0) = false := by simpa using ha
  have nb : decide (b < 0) = false := by simpa using hb
  have B0 : Hid (Blk (w.alloc (.cells #[.int .u64 0, .int .u64 0] 93)) w.heap.size 93 #[.int .u64 0, .int .u64 0]) := .new rfl
  go_enter Try.func61, Try.ntmps61
  go_wp2_with (fail)
  refine (size64_any a _ ha ha').mono ?_
  rintro e w1 ⟨rfl, x1⟩
  go_wp2_with (fail)
  refine (size64_any b _ hb hb').mono ?_
  rintro e w2 ⟨rfl, x2⟩
  go_wp2_with (fail)
  refine (mul64_any a b _ ha ha' hb hb').mono ?_
  rintro e w3 ⟨rfl, x3⟩
  have X3 : Ext w w3 := Ext.tr (Ext.tr (Ext.tr ((Ext.rf w).alloc _) x1) x2) x3
  have B3 := Lib.hid (((B0.out.ext x1).ext x2).ext x3)
  have X4 := Lib.hid ((X3.setNew (p := ⟨w.heap.size, 0, none⟩) (Nat.le_refl _) (.int .u64 0)).setNew (p := ⟨w.heap.size, 1, none⟩) (Nat.le_refl _) (.int .u64 (a * b)))
  have c0 : w3.cell? ⟨w.heap.size, 0, none⟩ = some (.int .u64 0) := B3.out.cell 0
  have c1 : w3.cell? ⟨w.heap.size, 1, none⟩ = some (.int .u64 0) := B3.out.cell 1
  have f0 := B3.out.free 0
  have f1 := B3.out.free 1
  clear X3
  by_cases a0 : a = 0
  · subst a0
    have e1 : Hid (sgnP 0 b = 0) := rfl
    have e2 : Hid ((0 : Int) * b = 0) := Int.zero_mul b
    have X5 : Hid (Ext w ((w3.setCell ⟨w.heap.size, 0, none⟩ (.int .u64 0)).setCell ⟨w.heap.size, 1, none⟩ (.int .u64 0))) := by
      have h := X4.out
      rw [e2.out] at h
      exact h
    clear X4
    go_wp2
    exact bodyPost_ret (v := .tuple #[.int .i64 0, .agg #[.int .u64 0, .int .u64 0]]) (by simp [results, Try.results61, go_sem, *]) rfl ⟨by rw [e1.out, e2.out], X5.out⟩
  · have a0' : (a == 0) = false := by simpa using a0
    by_cases b0 : b = 0
    · subst b0
      have e1 : Hid (sgnP a 0 = 0) := by
        have h : sgnP a 0 = 0 := by simp [sgnP]
        exact h
      have e2 : Hid (a * (0 : Int) = 0) := Int.mul_zero a
      have X5 : Hid (Ext w ((w3.setCell ⟨w.heap.size, 0, none⟩ (.int .u64 0)).setCell ⟨w.heap.size, 1, none⟩ (.int .u64 0))) := by
        have h := X4.out
        rw [e2.out] at h
        exact h
      clear X4 a0
      go_wp2
      exact bodyPost_ret (v := .tuple #[.int .i64 0, .agg #[.int .u64 0, .int .u64 0]]) (by simp [results, Try.results61, go_sem, *]) rfl ⟨by rw [e1.out, e2.out], X5.out⟩
    · have b0' : (b == 0) = false := by simpa using b0
      have e1 : Hid (sgnP a b = 1) := by
        have h : sgnP a b = 1 := by simp [sgnP, a0, b0]
        exact h
      clear a0 b0
      go_wp2
      exact bodyPost_ret (v := .tuple #[.int .i64 1, .agg #[.int .u64 0, .int .u64 (a * b)]]) (by simp [results, Try.results61, go_sem, *]) rfl ⟨by rw [e1.out], X4.out⟩
/-- which of two sizes is less -/
def ordP (x y : Int) : Int := if x = y then 0 else if x < y then -1 else 1
theorem order_any (x y : Int) (w : World) : Calls Try.prog 62 #[.agg #[.int .u64 0, .int .u64 x], .agg #[.int .u64 0, .int .u64 y]] w fun e w' => e = .returned (.int .i64 (ordP x y)) ∧ Ext w w' := by
  unfold ordP
  by_cases h : x = y
  · subst h
    rw [if_pos rfl]
    go_enter Try.func62, Try.ntmps62
    go_wp2
    go_ret
    exact ⟨rfl, by (repeat (first | assumption | exact Ext.rf _ | apply Ext.drew | apply Ext.drewN | apply Ext.alloc))⟩
  · rw [if_neg h]
    by_cases h1 : x < y
    · rw [if_pos h1]
      have h' : (x == y) = false := by simpa using h
      clear h
      go_enter Try.func62, Try.ntmps62
      go_wp2
      go_ret
      exact ⟨rfl, by (repeat (first | assumption | exact Ext.rf _ | apply Ext.drew | apply Ext.drewN | apply Ext.alloc))⟩
    · rw [if_neg h1]
      have h' : (x == y) = false := by simpa using h
      clear h
      go_enter Try.func62, Try.ntmps62
      go_wp2
      go_ret
      exact ⟨rfl, by (repeat (first | assumption | exact Ext.rf _ | apply Ext.drew | apply Ext.drewN | apply Ext.alloc))⟩
end Go.Proofs.Ytpapkofildcdiaa
namespace Go.Proofs.Ytpapkofildcdiaa
open Go.RowKit Go.ChangeShapes Go.WideShapes Go.ChangeAt Go.Deep

theorem sgnP_cases (a b : Int) : sgnP a b = 0 ∨ sgnP a b = 1 := by unfold sgnP; split <;> simp
def crossP (a b c d : Int) : Int := if sgnP a b < sgnP c d then -1 else if sgnP c d < sgnP a b then 1 else sgnP a b * ordP (a * b) (c * d)
set_option maxRecDepth 100000 in
set_option maxHeartbeats 1000000 in
theorem cross_any (a b c d : Int) (w : World) (ha : 0 ≤ a ∧ a ≤ 2147483647) (hb : 0 ≤ b ∧ b ≤ 2147483647) (hc : 0 ≤ c ∧ c ≤ 2147483647) (hd : 0 ≤ d ∧ d ≤ 2147483647) :
    Calls Try.prog 59 #[.int .i64 a, .int .i64 b, .int .i64 c, .int .i64 d] w fun e w' => e = .returned (.int .i64 (crossP a b c d)) ∧ Ext w w' := by
  have s1 := sgnP_cases a b
  have s2 := sgnP_cases c d
  have HC : Hid (crossP a b c d = if sgnP a b < sgnP c d then -1 else if sgnP c d < sgnP a b then 1 else sgnP a b * ordP (a * b) (c * d)) := rfl
  have HO : -1 ≤ ordP (a * b) (c * d) ∧ ordP (a * b) (c * d) ≤ 1 := by unfold ordP; split <;> (try split) <;> omega
  have P1 := product_any a b
  have P2 := product_any c d
  have M1 := mul_bd ha.1 ha.2 hb.1 hb.2
  have M2 := mul_bd hc.1 hc.2 hd.1 hd.2
  generalize crossP a b c d = res at *
  generalize sgnP a b = s at *
  generalize sgnP c d = t at *
  generalize a * b = p at *
  generalize c * d = q at *
  replace P1 := Lib.hid P1
  replace P2 := Lib.hid P2
  have O1 := Lib.hid (order_any p q)
  generalize ordP p q = r at *
  go_enter Try.func59, Try.ntmps59
  go_wp2_with (fail)
  refine (P1.out _ ha.1 ha.2 hb.1 hb.2).mono ?_
  rintro e w1 ⟨rfl, x1⟩
  go_wp2_with (fail)
  refine (P2.out _ hc.1 hc.2 hd.1 hd.2).mono ?_
  rintro e w2 ⟨rfl, x2⟩
  have B1 : Blk (w1.alloc (.cells #[.int .u64 0, .int .u64 p] 93)) w1.heap.size 93 #[.int .u64 0, .int .u64 p] := .new rfl
  have B2 := Lib.hid (B1.ext x2)
  have c0 : w2.cell? ⟨w1.heap.size, 0, none⟩ = some (.int .u64 0) := B2.out.cell 0
  have c1 : w2.cell? ⟨w1.heap.size, 1, none⟩ = some (.int .u64 p) := B2.out.cell 1
  have lt1 : w1.heap.size < w2.heap.size := B2.out.lt
  have X2 : Ext w w2 := Ext.tr (Ext.tr x1 ((Ext.rf _).alloc _)) x2
  clear B1
  rcases s1 with rfl | rfl
  · rcases s2 with rfl | rfl
    · go_wp2_with (fail)
      refine (O1.out _).mono ?_
      rintro e w3 ⟨rfl, x3⟩
      go_wp2
      go_ret
      exact ⟨ret_i (by rw [HC.out]; simp), Ext.tr (a := w) (by (repeat (first | assumption | exact Ext.rf _ | apply Ext.drew | apply Ext.drewN | apply Ext.alloc))) x3⟩
    · go_wp2_with (fail)
      go_ret
      exact ⟨ret_i (by rw [HC.out]; simp), by (repeat (first | assumption | exact Ext.rf _ | apply Ext.drew | apply Ext.drewN | apply Ext.alloc))⟩
  · rcases s2 with rfl | rfl
    · go_wp2_with (fail)
      go_ret
      exact ⟨ret_i (by rw [HC.out]; simp), by (repeat (first | assumption | exact Ext.rf _ | apply Ext.drew | apply Ext.drewN | apply Ext.alloc))⟩
    · go_wp2_with (fail)
      refine (O1.out _).mono ?_
      rintro e w3 ⟨rfl, x3⟩
      go_wp2
      go_ret
      exact ⟨ret_i (by rw [HC.out]; simp), Ext.tr (a := w) (by (repeat (first | assumption | exact Ext.rf _ | apply Ext.drew | apply Ext.drewN | apply Ext.alloc))) x3⟩
end Go.Proofs.Ytpapkofildcdiaa
namespace Go.Proofs.Ytpapkofildcdiaa
open Go.RowKit Go.ChangeShapes Go.WideShapes Go.ChangeAt Go.Deep

end Go.Proofs.Ytpapkofildcdiaa
namespace Go.Proofs.Ytpapkofildcdiaa
open Go.RowKit Go.ChangeShapes Go.WideShapes Go.ChangeAt Go.Deep

section
variable {ops : Array Oper} {i : Nat} {t : TypeId} {d : Option Tmp} {a : Act} {w : World} {K : Act → World → Prop} {Q : Exit → Act → World → Prop}
end
theorem RdI.mod {S : Nat → Prop} {w w' : World} {A : Option Addr} {xs : List Int} (h : RdI w A xs) (k : Mod S w w') (hb : ∀ b, bl A = some b → ¬ S b) : RdI w' A xs := by
  rcases h with rfl | ⟨b, off, rfl, hlt, hc⟩
  · exact .inl rfl
  · refine .inr ⟨b, off, rfl, Nat.lt_of_lt_of_le hlt k.size, fun j x hj => ?_⟩
    rw [← hc j x hj]
    exact World.cell?_of_block (k.block b hlt (hb b rfl))
end Go.Proofs.Ytpapkofildcdiaa
namespace Go.Proofs.Ytpapkofildcdiaa
open Go.RowKit Go.ChangeShapes Go.WideShapes Go.ChangeAt Go.Deep

section
variable {w w2 : World} {base g pn pc wc vc hc c' : Nat} {cap x : Int} {PA WA VA HA A' : Option Addr} {ws vs bs : List Int}
end
theorem inOrder_len (l : List Nat) (v : List Int) : (inOrder l v).length = l.length := by simp [inOrder]
theorem inOrder_succ {l : List Nat} {k n : Nat} {v : List Int} {x : Int} (h : l[k]? = some n) (hx : v[n]? = some x) : inOrder (l.take (k + 1)) v = inOrder (l.take k) v ++ [x] := by
  obtain ⟨hk, h⟩ := List.getElem?_eq_some_iff.1 h
  unfold inOrder
  rw [List.take_succ_eq_append_getElem hk, List.map_append, h]
  simp [List.getD, hx]
end Go.Proofs.Ytpapkofildcdiaa
namespace Go.Proofs.Ytpapkofildcdiaa
open Go.RowKit Go.ChangeShapes Go.WideShapes Go.ChangeAt Go.Deep

end Go.Proofs.Ytpapkofildcdiaa
namespace Go.Proofs.Ytpapkofildcdiaa
open Go.RowKit Go.ChangeShapes Go.WideShapes Go.ChangeAt Go.Deep

set_option maxRecDepth 100000 in
theorem div64_any (x y : Int) (w : World) (hx : 0 ≤ x) (hx' : x ≤ 4611686014132420609) (hy : 1 ≤ y) (hy' : y ≤ 2147483647) :
    Calls Try.prog 97 #[.int .u64 0, .int .u64 x, .int .u64 y] w fun e w' => e = .returned (.tuple #[.int .u64 (x / y), .int .u64 (x % y)]) ∧ Ext w w' := by
  have y0 : (y == 0) = false := by rw [beq_eq_false_iff_ne]; omega
  have y1 : decide (y ≤ 0) = false := by simp; omega
  go_enter Try.func97, Try.ntmps97
  go_wp2_with (go_quiet (fail))
  go_ret2
  exact ⟨rfl, by (repeat (first | assumption | exact Ext.rf _ | apply Ext.drew | apply Ext.drewN | apply Ext.alloc))⟩
set_option maxRecDepth 100000 in
set_option maxHeartbeats 1000000 in
theorem part_any (a b c : Int) (w : World) (ha : 0 ≤ a ∧ a ≤ 2147483647) (hb : 0 ≤ b ∧ b ≤ 2147483647) (hc : 1 ≤ c ∧ c ≤ 2147483647) :
    Calls Try.prog 96 #[.int .i64 a, .int .i64 b, .int .i64 c] w fun e w' => e = .returned (.tuple #[.int .i64 (a * b / c), .bool true]) ∧ Ext w w' := by
  obtain ⟨ha, ha'⟩ := ha
  obtain ⟨hb, hb'⟩ := hb
  obtain ⟨hc, hc'⟩ := hc
  have hm := mul_bd ha ha' hb hb'
  have wa : IntKind.u64.wrap a = a := wraps_u64 _ ha (by omega)
  have wb : IntKind.u64.wrap b = b := wraps_u64 _ hb (by omega)
  have wc : IntKind.u64.wrap c = c := wraps_u64 _ (by omega) (by omega)
  have M := mul64_any a b
  have D := div64_any (a * b) c
  have hq : 0 ≤ a * b / c ∧ a * b / c ≤ 4611686014132420609 := by
    refine ⟨Int.ediv_nonneg hm.1 (by omega), ?_⟩
    have := Int.ediv_le_self c hm.1
    omega
  have na : decide (a < 0) = false := by simpa using ha
  have nb : decide (b < 0) = false := by simpa using hb
  have nc : decide (c ≤ 0) = false := by simp; omega
  generalize a * b = p at *
  generalize p / c = q at *
  generalize p % c = r at *
  obtain ⟨hm1, hm2⟩ := hm
  obtain ⟨hq1, hq2⟩ := hq
  have wq : IntKind.i64.wrap q = q := IntWalk.i64_in _ (by omega)
  have hcc : decide (c ≤ 0) = false := nc
  have ng : ¬ (9223372036854775807 < q) := by omega
  replace M := Lib.hid M
  replace D := Lib.hid D
  go_enter Try.func96, Try.ntmps96
  go_wp2_with (fail)
  refine (M.out _ ha ha' hb hb').mono ?_
  rintro e w1 ⟨rfl, x1⟩
  go_wp2_with (fail)
  refine (D.out _ hm1 hm2 hc hc').mono ?_
  rintro e w2 ⟨rfl, x2⟩
  go_wp2
  go_ret2
  exact ⟨rfl, Ext.tr x1 x2⟩
end Go.Proofs.Ytpapkofildcdiaa
namespace Go.Proofs.Ytpapkofildcdiaa
open Go.RowKit Go.ChangeShapes Go.WideShapes Go.ChangeAt Go.Deep

def BoundVal (b : Int × Int) : Value := .tuple #[.int .i64 b.1, .int .i64 b.2]
end Go.Proofs.Ytpapkofildcdiaa
namespace Go.Proofs.Ytpapkofildcdiaa
open Go.RowKit Go.ChangeShapes Go.WideShapes Go.ChangeAt Go.Deep

set_option maxRecDepth 100000 in
set_option maxHeartbeats 2000000 in
theorem small_any (i : InstP) (us : List Value) (w : World) (H : RInst w us i) (hc : checkP i = 0) (hk : i.kind = 1) :
    Calls Try.prog 11 #[.agg (List.toArray us)] w fun e w' => e = .returned (.bool (decide (i.n ≤ 9))) ∧ Ext w w' := by
  have CH := fun (W : World) (x : Ext w W) => rcheck_any i us W (H.ext x)
  rw [hc] at CH
  obtain ⟨kind, nn, cap, xw, xv, co⟩ := i
  obtain ⟨A, a, B, b, D, d, rfl, -, -, -⟩ := H
  simp only at *
  subst hk
  replace CH := Lib.hid CH
  clear hc
  by_cases h9 : nn ≤ 9
  · have e9 : decide (nn ≤ 9) = true := decide_eq_true h9
    have B1 : Blk (w.alloc (.cells #[.int .i64 1, .int .i64 nn, .int .i64 cap, .slice A xw.length a, .slice B xv.length b, .slice D co.length d] 25)) w.heap.size 25 #[.int .i64 1, .int .i64 nn, .int .i64 cap, .slice A xw.length a, .slice B xv.length b, .slice D co.length d] := .new rfl
    go_enter Try.func11, Try.ntmps11
    go_wp2_with (fail)
    refine (CH.out _ (by (repeat (first | assumption | exact Ext.rf _ | apply Ext.drew | apply Ext.drewN | apply Ext.alloc)))).mono ?_
    rintro e w1 ⟨rfl, x1⟩
    have X1 := Lib.hid (Ext.tr (a := w) (by (repeat (first | assumption | exact Ext.rf _ | apply Ext.drew | apply Ext.drewN | apply Ext.alloc))) x1)
    have b0 : w1.cell? ⟨w.heap.size, 0, none⟩ = some (.int .i64 1) := (B1.ext x1).cell 0
    have b1 : w1.cell? ⟨w.heap.size, 1, none⟩ = some (.int .i64 nn) := (B1.ext x1).cell 1
    clear x1 B1
    go_wp2_with (fail)
    go_ret
    exact ⟨by simp [e9], X1.out⟩
  · have e9 : decide (nn ≤ 9) = false := decide_eq_false h9
    have h6 : ¬ nn ≤ 6 := by omega
    have e6 : decide (nn ≤ 6) = false := decide_eq_false h6
    have B1 : Blk (w.alloc (.cells #[.int .i64 1, .int .i64 nn, .int .i64 cap, .slice A xw.length a, .slice B xv.length b, .slice D co.length d] 25)) w.heap.size 25 #[.int .i64 1, .int .i64 nn, .int .i64 cap, .slice A xw.length a, .slice B xv.length b, .slice D co.length d] := .new rfl
    go_enter Try.func11, Try.ntmps11
    go_wp2_with (fail)
    refine (CH.out _ (by (repeat (first | assumption | exact Ext.rf _ | apply Ext.drew | apply Ext.drewN | apply Ext.alloc)))).mono ?_
    rintro e w1 ⟨rfl, x1⟩
    have X1 := Lib.hid (Ext.tr (a := w) (by (repeat (first | assumption | exact Ext.rf _ | apply Ext.drew | apply Ext.drewN | apply Ext.alloc))) x1)
    have b0 : w1.cell? ⟨w.heap.size, 0, none⟩ = some (.int .i64 1) := (B1.ext x1).cell 0
    have b1 : w1.cell? ⟨w.heap.size, 1, none⟩ = some (.int .i64 nn) := (B1.ext x1).cell 1
    clear x1 B1
    go_wp2_with (fail)
    go_ret
    exact ⟨by simp [e9], X1.out⟩
end Go.Proofs.Ytpapkofildcdiaa
namespace Go.Proofs.Ytpapkofildcdiaa
open Go.RowKit Go.ChangeShapes Go.WideShapes Go.ChangeAt Go.Deep

set_option maxRecDepth 100000 in
set_option maxHeartbeats 4000000 in
theorem rcost_any (i : InstP) (us : List Value) (P : Option Addr) (c : Nat) (x : List Int) (w : World) (H : RInst w us i) (hc : checkP i = 0) (hk : i.kind = 1) (hP : RdI w P x) (lx : (x.length : Int) = i.n) (h01 : ∀ v ∈ x, v = 0 ∨ v = 1) :
    Calls Try.prog 12 #[.agg (List.toArray us), .slice P x.length c] w fun e w' => e = .returned (BoundVal (costP i.cap i.weight i.value x)) ∧ Ext w w' := by
  have CH := fun (W : World) (x : Ext w W) => rcheck_any i us W (H.ext x)
  rw [hc] at CH
  have ok := knap_ok hc hk
  have k1 := ok.n1
  have k2 := ok.n2
  have k3 := ok.w
  have k4 := ok.v
  have k5 := ok.cap
  have k6 := Lib.hid ok.sw
  have k7 := Lib.hid ok.sv
  clear ok hc
  obtain ⟨kind, nn, cap, xw, xv, co⟩ := i
  obtain ⟨A, a, B, b, D, d, rfl, ⟨rA, iA, lA, mA⟩, ⟨rB, iB, lB, mB⟩, -⟩ := H
  simp only at *
  subst hk
  obtain ⟨n, rfl⟩ : ∃ n : Nat, nn = (n : Int) := ⟨nn.toNat, by omega⟩
  have lxn : x.length = n := by omega
  have lwn : xw.length = n := by omega
  have lvn : xv.length = n := by omega
  have hn2 : n ≤ 64 := by omega
  replace lwn := Lib.hid lwn
  replace lvn := Lib.hid lvn
  replace lxn := Lib.hid lxn
  clear lx k3 k4
  have W1 : ∀ k v u, x[k]? = some v → xw[k]? = some u → takenL (x.take (k + 1)) xw = takenL (x.take k) xw + if v = 1 then u else 0 := fun k v u h1 h2 => sumZip_take _ k x xw h1 h2
  have V1 : ∀ k v u, x[k]? = some v → xv[k]? = some u → leftL (x.take (k + 1)) xv = leftL (x.take k) xv + if v = 1 then 0 else u := fun k v u h1 h2 => sumZip_take _ k x xv h1 h2
  replace W1 := Lib.hid W1
  replace V1 := Lib.hid V1
  replace CH := Lib.hid CH
  replace rA := Lib.hid rA
  replace rB := Lib.hid rB
  replace hP := Lib.hid hP
  replace mA := Lib.hid mA
  replace mB := Lib.hid mB
  replace iA := Lib.hid iA
  replace iB := Lib.hid iB
  replace h01 := Lib.hid h01
  have B1 : Hid (Blk (w.alloc (.cells #[.int .i64 1, .int .i64 n, .int .i64 cap, .slice A xw.length a, .slice B xv.length b, .slice D co.length d] 25)) w.heap.size 25 #[.int .i64 1, .int .i64 n, .int .i64 cap, .slice A xw.length a, .slice B xv.length b, .slice D co.length d]) := .new rfl
  have lz := List.take_length (l := x)
  have bW : ∀ k, k ≤ n → 0 ≤ takenL (x.take k) xw ∧ takenL (x.take k) xw ≤ 2147483647 * (k : Int) := by
    intro k
    induction k with
    | zero => intro _; simp [takenL, sumL]
    | succ k ih =>
      intro hk
      have h0 := ih (by omega)
      have h8 : k < x.length := by rw [lxn.out]; omega
      have e1 : x[k]? = some x[k] := List.getElem?_eq_getElem h8
      have h9 : k < xw.length := by rw [lwn.out]; omega
      have e2 : xw[k]? = some xw[k] := List.getElem?_eq_getElem h9
      have h1 := W1.out k _ _ e1 e2
      have h2 := k6.out.get e2
      rw [h1]
      split <;> omega
  have bV : ∀ k, k ≤ n → 0 ≤ leftL (x.take k) xv ∧ leftL (x.take k) xv ≤ 2147483647 * (k : Int) := by
    intro k
    induction k with
    | zero => intro _; simp [leftL, sumL]
    | succ k ih =>
      intro hk
      have h0 := ih (by omega)
      have h8 : k < x.length := by rw [lxn.out]; omega
      have e1 : x[k]? = some x[k] := List.getElem?_eq_getElem h8
      have h9 : k < xv.length := by rw [lvn.out]; omega
      have e2 : xv[k]? = some xv[k] := List.getElem?_eq_getElem h9
      have h1 := V1.out k _ _ e1 e2
      have h2 := k7.out.get e2
      rw [h1]
      split <;> omega
  replace bW := Lib.hid bW
  replace bV := Lib.hid bV
  obtain ⟨cc, hcc⟩ : ∃ cc, Hid (costP cap xw xv x = cc) := ⟨_, rfl⟩
  have HC : Hid (cc = if cap < takenL (x.take n) xw then (0, 9) else (leftL (x.take n) xv, 0)) := by
    have h : cc = if cap < takenL (x.take n) xw then (0, 9) else (leftL (x.take n) xv, 0) := by
      rw [← hcc.out, ← lxn.out, lz]
      rfl
    exact h
  rw [hcc.out]
  clear hcc lz
  go_enter Try.func12, Try.ntmps12
  go_wp2_with (fail)
  refine (CH.out _ (by (repeat (first | assumption | exact Ext.rf _ | apply Ext.drew | apply Ext.drewN | apply Ext.alloc)))).mono ?_
  rintro e w1 ⟨rfl, x1⟩
  have X1 := Lib.hid (Ext.tr (a := w) (by (repeat (first | assumption | exact Ext.rf _ | apply Ext.drew | apply Ext.drewN | apply Ext.alloc))) x1)
  have BB := Lib.hid (B1.out.ext x1)
  have d0 : w1.cell? ⟨w.heap.size, 0, none⟩ = some (.int .i64 1) := BB.out.cell 0
  have d1 : w1.cell? ⟨w.heap.size, 1, none⟩ = some (.int .i64 n) := BB.out.cell 1
  have zb := BB.out.lt
  clear x1
  have exn : (x.length : Int) = (n : Int) := by rw [lxn.out]
  have d2 : w1.cell? ⟨w.heap.size, 2, none⟩ = some (.int .i64 cap) := BB.out.cell 2
  have d3 : w1.cell? ⟨w.heap.size, 3, none⟩ = some (.slice A xw.length a) := BB.out.cell 3
  have d4 : w1.cell? ⟨w.heap.size, 4, none⟩ = some (.slice B xv.length b) := BB.out.cell 4
  go_wp2_with (fail)
  go_loopw [9, 10, 11] (fun a b i wr => ∃ k : Nat, i = .int .i64 k ∧ a = .int .i64 (takenL (x.take k) xw) ∧ b = .int .i64 (leftL (x.take k) xv) ∧ k ≤ n ∧ Ext w1 wr) (fun _ _ i _ => n - (intOf i).toNat)
  case atStart => exact ⟨0, rfl, rfl, rfl, by omega, Ext.rf _⟩
  case round =>
    obtain ⟨wo, rfl⟩ : ∃ wo : World, wo = wr := ⟨_, rfl⟩
    obtain ⟨k, rfl, rfl, rfl, hk, Y⟩ := hrel
    have e1 := keepEL Y zb d1
    have e2 := keepEL Y zb d2
    have e3 := keepEL Y zb d3
    have e4 := keepEL Y zb d4
    obtain ⟨tw1, tw2⟩ := bW.out k hk
    obtain ⟨tv1, tv2⟩ := bV.out k hk
    by_cases hlt : k < n
    · obtain ⟨pb, po, y, rfl, zy, cy, ey, _⟩ := (hP.out.ext (X1.out.tr Y)).at (k := k) (by rw [lxn.out]; exact hlt)
      obtain ⟨ab, ao, u, rfl, zu, cu, eu, _⟩ := (rA.out.ext (X1.out.tr Y)).at (k := k) (by rw [lwn.out]; exact hlt)
      obtain ⟨vb, vo, v, rfl, zv, cv, ev, _⟩ := (rB.out.ext (X1.out.tr Y)).at (k := k) (by rw [lvn.out]; exact hlt)
      have sW := Lib.hid (W1.out k y u ey.out eu.out)
      have sV := Lib.hid (V1.out k y v ey.out ev.out)
      have bu := k6.out.get eu.out
      have bv := k7.out.get ev.out
      have q1 : (k : Int) < (x.length : Int) := by omega
      have q2 : (k : Int) < (xw.length : Int) := by rw [lwn.out]; omega
      have q3 : (k : Int) < (xv.length : Int) := by rw [lvn.out]; omega
      have hy := h01.out y (List.mem_of_getElem? ey.out)
      obtain ⟨tw, htw⟩ : ∃ tw, tw = takenL (x.take k) xw := ⟨_, rfl⟩
      obtain ⟨tv, htv⟩ : ∃ tv, tv = leftL (x.take k) xv := ⟨_, rfl⟩
      rw [← htw] at tw1 tw2 sW ⊢
      rw [← htv] at tv1 tv2 sV ⊢
      clear ey eu ev htw htv e2
      by_cases y1 : y = 1
      · subst y1
        have sW2 : Hid (takenL (x.take (k + 1)) xw = tw + u) := by
          have h := sW.out
          rw [if_pos rfl] at h
          exact h
        have sV2 : Hid (leftL (x.take (k + 1)) xv = tv) := by
          have h := sV.out
          rw [if_pos rfl, Int.add_zero] at h
          exact h
        clear sW sV hy
        have w1' : IntKind.i64.wrap (tw + u) = tw + u := IntWalk.i64_in _ (by omega)
        go_wp2_with (go_quiet (fail))
        go_roundw
        case rel => exact ⟨k + 1, by go_num, by rw [sW2.out], by rw [sV2.out], by omega, by repeat (first | exact Y | apply Ext.drewN)⟩
        case measure => simp [intOf]; omega
      · obtain rfl : y = 0 := by omega
        have sW2 : Hid (takenL (x.take (k + 1)) xw = tw) := by
          have h := sW.out
          rw [if_neg (by decide), Int.add_zero] at h
          exact h
        have sV2 : Hid (leftL (x.take (k + 1)) xv = tv + v) := by
          have h := sV.out
          rw [if_neg (by decide)] at h
          exact h
        clear sW sV hy y1
        have w1' : IntKind.i64.wrap (tv + v) = tv + v := IntWalk.i64_in _ (by omega)
        go_wp2_with (go_quiet (fail))
        go_roundw
        case rel => exact ⟨k + 1, by go_num, by rw [sW2.out], by rw [sV2.out], by omega, by repeat (first | exact Y | apply Ext.drewN)⟩
        case measure => simp [intOf]; omega
    · obtain rfl : k = n := by omega
      obtain ⟨tw, htw⟩ : ∃ tw, tw = takenL (x.take k) xw := ⟨_, rfl⟩
      obtain ⟨tv, htv⟩ : ∃ tv, tv = leftL (x.take k) xv := ⟨_, rfl⟩
      rw [← htw] at tw1 tw2 HC ⊢
      rw [← htv] at tv1 tv2 HC ⊢
      clear htw htv e3 e4
      by_cases hcap : cap < tw
      · have hb : decide (cap < tw) = true := decide_eq_true hcap
        have HC2 : Hid (cc = (0, 9)) := by
          have h := HC.out
          rw [if_pos hcap] at h
          exact h
        clear HC hcap
        go_wp2_with (fail)
        go_ret2
        rw [HC2.out]
        exact ⟨rfl, X1.out.tr Y⟩
      · have hb : decide (cap < tw) = false := decide_eq_false hcap
        have HC2 : Hid (cc = (tv, 0)) := by
          have h := HC.out
          rw [if_neg hcap] at h
          exact h
        clear HC hcap
        go_wp2_with (fail)
        go_ret2
        rw [HC2.out]
        exact ⟨rfl, X1.out.tr Y⟩
end Go.Proofs.Ytpapkofildcdiaa
namespace Go.Proofs.Ytpapkofildcdiaa
open Go.RowKit Go.ChangeShapes Go.WideShapes Go.ChangeAt Go.Deep

def foldB (f : Int → Int) : Int → List Nat → Int
  | b, [] => b
  | b, k :: l => foldB f (pkB b (f (k : Int))) l
def rest1 (k : Nat) : List Nat := (List.range 2).drop k
set_option maxRecDepth 100000 in
set_option maxHeartbeats 4000000 in
theorem best1_more (i : InstP) (us : List Value) (P : Option Addr) (c : Nat) (x : List Int) (w : World) (H : RInst w us i) (hk2 : i.kind = 1) (hP : RdI w P x) (lx : x.length ≤ 1000) (n : Nat) (hn : i.n = n) (n1 : 1 ≤ n) (n64 : n ≤ 64) (hlen : x.length < n) (f : Int → Int)
    (IH : ∀ (k : Nat) (A : Option Addr) (d : Nat) (q : List Int), k < 2 → q = x ++ [(k : Int)] → ∀ W, Ext w W → RdI W A q → Calls Try.prog 14 #[.agg (List.toArray us), .slice A q.length d] W fun e w' => e = .returned (.int .i64 (f (k : Int))) ∧ Ext W w') :
    Calls Try.prog 14 #[.agg (List.toArray us), .slice P x.length c] w fun e w' => e = .returned (.int .i64 (pkB (pkB (-1) (f 0)) (f 1))) ∧ Ext w w' := by
  have e5 : foldB f (-1) (rest1 0) = pkB (pkB (-1) (f 0)) (f 1) := by first | rfl | simp [rest1, foldB]
  generalize pkB (pkB (-1) (f 0)) (f 1) = bs at *
  have ST : ∀ k, k < 2 → rest1 k = k :: rest1 (k + 1) := fun k hk => by
    unfold rest1; rw [List.drop_eq_getElem_cons (by rw [List.length_range]; exact hk), List.getElem_range]
  have EN : ∀ k, 2 ≤ k → rest1 k = [] := fun k hk => by
    unfold rest1; exact List.drop_of_length_le (by rw [List.length_range]; exact hk)
  obtain ⟨kind, nn, cap, xw, xv, co⟩ := i
  obtain ⟨A, a, B, b, D, d, rfl, -, -, -⟩ := H
  simp only at *
  subst hk2 hn
  have hne : ((x.length : Int) == (n : Int)) = false := by rw [beq_eq_false_iff_ne]; omega
  replace IH := Lib.hid IH
  replace ST := Lib.hid ST
  replace EN := Lib.hid EN
  replace e5 := Lib.hid e5
  replace hP := Lib.hid hP
  have B1 : Hid (Blk (w.alloc (.cells #[.int .i64 1, .int .i64 n, .int .i64 cap, .slice A xw.length a, .slice B xv.length b, .slice D co.length d] 25)) w.heap.size 25 #[.int .i64 1, .int .i64 n, .int .i64 cap, .slice A xw.length a, .slice B xv.length b, .slice D co.length d]) := .new rfl
  have X0 : Hid (Ext w (w.alloc (.cells #[.int .i64 1, .int .i64 n, .int .i64 cap, .slice A xw.length a, .slice B xv.length b, .slice D co.length d] 25))) := (Ext.rf _).alloc _
  obtain ⟨w1, hw1⟩ : ∃ w1, w1 = (w.alloc (.cells #[.int .i64 1, .int .i64 n, .int .i64 cap, .slice A xw.length a, .slice B xv.length b, .slice D co.length d] 25)) := ⟨_, rfl⟩
  have B2 : Hid (Blk w1 w.heap.size 25 #[.int .i64 1, .int .i64 n, .int .i64 cap, .slice A xw.length a, .slice B xv.length b, .slice D co.length d]) := by rw [hw1]; exact B1.out
  have X1 : Hid (Ext w w1) := by rw [hw1]; exact X0.out
  replace hw1 := Lib.hid hw1
  clear B1
  go_enter Try.func14, Try.ntmps14
  go_wp2_with (fail)
  rw [← hw1.out]
  clear X0
  go_loopw [9, 7] (fun v bv wr => ∃ (k : Nat) (bb : Int), v = .int .i64 k ∧ bv = .int .i64 bb ∧ k ≤ 2 ∧ Hid (foldB f bb (rest1 k) = bs) ∧ Hid (Ext w1 wr)) (fun v _ _ => 2 - (intOf v).toNat)
  case atStart => exact ⟨0, -1, rfl, rfl, by omega, e5, Ext.rf _⟩
  case round =>
    obtain ⟨wo, rfl⟩ : ∃ wo : World, wo = wr := ⟨_, rfl⟩
    obtain ⟨k, bb, rfl, rfl, hk, HS, Y⟩ := hrel
    by_cases hlt : k < 2
    · have HN : Hid (foldB f bb (k :: rest1 (k + 1)) = bs) := by
        have h := HS.out
        rw [ST.out k hlt] at h
        exact h
      have q1 : (k : Int) < 2 := by omega
      have B3 := B2.out.ext Y.out
      have zb3 := B3.lt
      have c0 : wo.cell? ⟨w.heap.size, 0, none⟩ = some (.int .i64 1) := B3.cell 0
      replace B3 := Lib.hid B3
      clear HS
      go_wp2_with (fail)
      go_loopw [11, 10] (fun v uv wr => v = .int .i64 0 ∧ uv = .bool false ∧ wr = wo) (fun _ _ _ => 0)
      case atStart => exact ⟨rfl, rfl, rfl⟩
      case round =>
        obtain ⟨rfl, rfl, hwr⟩ := hrel
        have hwr' : wo = wr := (show wr = wo from hwr).symm
        clear hwr
        subst hwr'
        have HN2 : Hid ((0 ≤ f (k : Int) ∧ (bb < 0 ∨ f (k : Int) < bb) → Hid (foldB f (f (k : Int)) (rest1 (k + 1)) = bs)) ∧ (¬ (0 ≤ f (k : Int) ∧ (bb < 0 ∨ f (k : Int) < bb)) → Hid (foldB f bb (rest1 (k + 1)) = bs))) := by
          have h : foldB f (pkB bb (f (k : Int))) (rest1 (k + 1)) = bs := HN.out
          unfold pkB at h
          exact ⟨fun hh => by rw [if_pos hh] at h; exact h, fun hh => by rw [if_neg hh] at h; exact h⟩
        by_cases hx0 : (0 : Int) < (x.length : Int)
        · have IHk := Lib.hid (fun (A : Option Addr) (d : Nat) (q : List Int) (hq : q = x ++ [(k : Int)]) => IH.out k A d q hlt hq)
          generalize f (k : Int) = fv at *
          clear HN
          have c1' : wo.cell? ⟨w.heap.size, 1, none⟩ = some (.int .i64 n) := B3.out.cell 1
          have c2 : wo.cell? ⟨w.heap.size, 2, none⟩ = some (.int .i64 cap) := B3.out.cell 2
          have c3 : wo.cell? ⟨w.heap.size, 3, none⟩ = some (.slice A xw.length a) := B3.out.cell 3
          have c4 : wo.cell? ⟨w.heap.size, 4, none⟩ = some (.slice B xv.length b) := B3.out.cell 4
          have c5 : wo.cell? ⟨w.heap.size, 5, none⟩ = some (.slice D co.length d) := B3.out.cell 5
          obtain ⟨q, hq⟩ : ∃ q, Hid (q = x ++ [(k : Int)]) := ⟨_, rfl⟩
          have lq : q.length = x.length + 1 := by rw [hq.out]; simp
          replace lq := Lib.hid lq
          go_upto_region 19 with (fail)
          refine wp_region_any (by kernel_rfl) ?_
          change wpAny _ _ _ _ _ _ _ (World.drew _)
          refine wpAny_T (i := 2) (op := Op.move (Operand.tmp 1)) (t := 22) (d := some 74) (v := ?_) rfl (by decide +kernel) (by decide +kernel) (by decide +kernel) (fun _ _ _ h => h) ?_ ?_
          case refine_2 => (intro _; unfold exec2; go_simp; try with_reducible rfl)
          try simp only [Act.put, List.setIfInBounds_toArray, List.set_cons_zero, List.set_cons_succ]
          refine wpAny_T (i := 4) (op := Op.move (Operand.tmp 9)) (t := 3) (d := some 76) (v := ?_) rfl (by decide +kernel) (by decide +kernel) (by decide +kernel) (fun _ _ _ h => h) ?_ ?_
          case refine_2 => (intro _; unfold exec2; go_simp; try with_reducible rfl)
          try simp only [Act.put, List.setIfInBounds_toArray, List.set_cons_zero, List.set_cons_succ]
          refine wpAny_core3 (n := 2) [(0, some 72), (1, some 73), (3, some 75), (5, some 77), (6, some 78)] (fun | 1 => [3] | 3 => [6] | 5 => [6] | _ => []) (Ext wo)
            (VF (fun | 0 => some (.agg #[.int .i64 1, .int .i64 n, .int .i64 cap, .slice A xw.length a, .slice B xv.length b, .slice D co.length d]) | _ => none)
              (fun j v W => (j = 1 → ∃ g, v = .slice (some ⟨g, 0, none⟩) 0 0 ∧ wo.heap.size ≤ g ∧ Blk W g 3 #[]) ∧ (j = 3 → ∃ A c, v = .slice A x.length c ∧ OwI W wo.heap.size A c x) ∧ (j = 5 → ∃ h, v = .slice (some ⟨h, 0, none⟩) 1 1 ∧ Blk W h 3 #[.int .i64 (k : Int)]) ∧ (j = 6 → ∃ A c, v = .slice A q.length c ∧ OwI W wo.heap.size A c q)))
            (fun i W W' => i ≠ 6 → Ext W W') #[true, true, true, true, true, true, true, false, false] (by kernel_rfl) (by kernel_rfl) ?_ ?_ ?_ ((Ext.rf _).drew)
          · intro i j v W W' hkp hv hs
            refine VF.stab1 (fun _ ⟨g1, g3, g8, g9⟩ => ?_) hv
            by_cases hi : i = 6
            · subst hi
              refine ⟨fun h => ?_, fun h => ?_, fun h => ?_, fun h => ?_⟩
              all_goals (subst h; exact absurd hkp (by decide +kernel))
            · have hx := hs hi
              refine ⟨fun h => ?_, fun h => ?_, fun h => ?_, fun h => ?_⟩
              · obtain ⟨g, q1, q2, q3⟩ := g1 h
                exact ⟨g, q1, q2, q3.ext hx⟩
              · obtain ⟨A', c', q1, q2⟩ := g3 h
                exact ⟨A', c', q1, q2.ext hx⟩
              · obtain ⟨h', q1, q2⟩ := g8 h
                exact ⟨h', q1, q2.ext hx⟩
              · obtain ⟨A', c', q1, q2⟩ := g9 h
                exact ⟨A', c', q1, q2.ext hx⟩
          · intro pq hpm u W hRW hD K hK
            have z2 := hRW.size
            simp only [List.mem_cons, List.not_mem_nil, or_false] at hpm
            rcases hpm with rfl | rfl | rfl | rfl | rfl
            · have r0 := keepEL hRW zb3 c0
              have r1 := keepEL hRW zb3 c1'
              have r2 := keepEL hRW zb3 c2
              have r3 := keepEL hRW zb3 c3
              have r4 := keepEL hRW zb3 c4
              have r5 := keepEL hRW zb3 c5
              exact op_ld (T := 25) rfl (.pointer (some ⟨w.heap.size, 0, none⟩)) (by kernel_rfl) (.agg #[.int .i64 1, .int .i64 n, .int .i64 cap, .slice A xw.length a, .slice B xv.length b, .slice D co.length d]) (by go_simp) (hK _ _ (VF.mk rfl) hRW (fun _ => Ext.rf _))
            · exact op_bs0 rfl _ (ibs0_run _) (hK _ _ (VF.mg rfl ⟨fun _ => ⟨_, rfl, z2, .new rfl⟩, (fun h => by cases h), (fun h => by cases h), (fun h => by cases h)⟩) (hRW.alloc _) (fun _ => (Ext.rf _).alloc _))
            · obtain ⟨g, h1, zg, bg⟩ := ((hD 1 (depIn (by kernel_rfl))).g rfl).1 rfl
              obtain ⟨A3, c3, w3, hr3, o3, x3⟩ := run_copy_i W wo.heap.size 22 g x P c bg zg (hP.out.ext ((X1.out.tr Y.out).tr hRW)) (by omega)
              exact op_app rfl (.slice (some ⟨g, 0, none⟩) 0 0) (.slice P x.length c) (Eq.trans (b := u 1) (by kernel_rfl) h1) (by kernel_rfl) _ hr3 (hK _ _ (VF.mg rfl ⟨(fun h => by cases h), fun _ => ⟨A3, c3, rfl, o3⟩, (fun h => by cases h), (fun h => by cases h)⟩) (hRW.tr x3) (fun _ => x3))
            · exact op_bs1 rfl (.int .i64 (k : Int)) (by kernel_rfl) _ (ibs1_run _ _) (hK _ _ (VF.mg rfl ⟨(fun h => by cases h), (fun h => by cases h), fun _ => ⟨_, rfl, .new rfl⟩, (fun h => by cases h)⟩) (hRW.alloc _) (fun _ => (Ext.rf _).alloc _))
            · obtain ⟨A3, c3', h3, o3⟩ := ((hD 3 (depIn (by kernel_rfl))).g rfl).2.1 rfl
              obtain ⟨g8, h8, b8⟩ := ((hD 5 (depIn (by kernel_rfl))).g rfl).2.2.1 rfl
              obtain ⟨A7, c7, w7, hrun, o7, g7, -⟩ := run_app_i W wo.heap.size 22 A3 x.length c3' x [(k : Int)] (some ⟨g8, 0, none⟩) 1 rfl o3 (.blk b8 rfl) (by simp; omega) hRW.size
              have x7 : Ext wo w7 := hRW.grow g7 (fun k hk => (o3.lt k hk).1)
              rw [← hq.out] at hrun o7
              exact op_app rfl (.slice A3 x.length c3') (.slice (some ⟨g8, 0, none⟩) 1 1) (Eq.trans (b := u 3) (by kernel_rfl) h3) (Eq.trans (b := u 5) (by kernel_rfl) h8) _ hrun (hK _ _ (VF.mg rfl ⟨(fun h => by cases h), (fun h => by cases h), (fun h => by cases h), fun _ => ⟨A7, c7, rfl, o7⟩⟩) x7 (fun h => absurd rfl h))
          · intro u w7 hRW hV
            have h0 := (hV (0, some 72) (by simp) rfl).k rfl
            obtain ⟨A7, c7, h9, o7⟩ := ((hV (6, some 78) (by simp) rfl).g rfl).2.2.2 rfl
            simp only [putAll, h0, h9]
            have rq := Lib.hid o7.read
            have x7 := Lib.hid hRW
            clear h0 h9 hV o7 hRW
            try simp only [Act.put, List.setIfInBounds_toArray, List.set_cons_zero, List.set_cons_succ]
            refine wpAny_next 7 (by decide +kernel) (op_call (f := 14) (xs := #[Operand.tmp 72, Operand.tmp 78]) (ts := #[25, 22]) (t := 3) (d := some 79) rfl #[.agg #[.int .i64 1, .int .i64 n, .int .i64 cap, .slice A xw.length a, .slice B xv.length b, .slice D co.length d], .slice A7 q.length c7] (by go_simp) (by kernel_rfl) _ (IHk.out A7 c7 q hq.out w7 (X1.out.tr (Y.out.tr x7.out)) rq.out) ?_)
            rintro e w8 ⟨rfl, x8⟩
            refine ⟨_, rfl, ?_⟩
            try simp only [Act.put, List.setIfInBounds_toArray, List.set_cons_zero, List.set_cons_succ]
            refine wpAny_T (i := 8) (op := Op.assign (Operand.tmp 79)) (t := 3) (d := some 12) (v := ?_) rfl (by decide +kernel) (by decide +kernel) (by decide +kernel) (fun _ _ _ h => h) ?_ ?_
            case refine_2 => (intro _; unfold exec2; go_simp; try with_reducible rfl)
            try simp only [Act.put, List.setIfInBounds_toArray, List.set_cons_zero, List.set_cons_succ]
            refine wpAny_done (by kernel_rfl) ?_ _
            have Y8 := Lib.hid (Y.out.tr (x7.out.tr x8))
            clear x8 x7 rq c0 c1' c2 c3 c4 c5
            go_simp
            by_cases hfv : 0 ≤ fv
            · by_cases hbb : bb < 0
              · have HN3 := HN2.out.1 ⟨hfv, .inl hbb⟩
                clear HN2
                go_wp2_with (fail)
                go_roundw
                case rel => exact ⟨k + 1, fv, by go_num, rfl, by omega, HN3, Y8⟩
                case measure => simp [intOf]; omega
              · by_cases hfb : fv < bb
                · have HN3 := HN2.out.1 ⟨hfv, .inr hfb⟩
                  clear HN2
                  go_wp2_with (fail)
                  go_roundw
                  case rel => exact ⟨k + 1, fv, by go_num, rfl, by omega, HN3, Y8⟩
                  case measure => simp [intOf]; omega
                · have HN3 := HN2.out.2 (by omega)
                  clear HN2
                  go_wp2_with (fail)
                  go_roundw
                  case rel => exact ⟨k + 1, bb, by go_num, rfl, by omega, HN3, Y8⟩
                  case measure => simp [intOf]; omega
            · have HN3 := HN2.out.2 (by omega)
              clear HN2
              go_wp2_with (fail)
              go_roundw
              case rel => exact ⟨k + 1, bb, by go_num, rfl, by omega, HN3, Y8⟩
              case measure => simp [intOf]; omega
        · have IHk := Lib.hid (fun (A : Option Addr) (d : Nat) (q : List Int) (hq : q = x ++ [(k : Int)]) => IH.out k A d q hlt hq)
          generalize f (k : Int) = fv at *
          clear HN
          have c1' : wo.cell? ⟨w.heap.size, 1, none⟩ = some (.int .i64 n) := B3.out.cell 1
          have c2 : wo.cell? ⟨w.heap.size, 2, none⟩ = some (.int .i64 cap) := B3.out.cell 2
          have c3 : wo.cell? ⟨w.heap.size, 3, none⟩ = some (.slice A xw.length a) := B3.out.cell 3
          have c4 : wo.cell? ⟨w.heap.size, 4, none⟩ = some (.slice B xv.length b) := B3.out.cell 4
          have c5 : wo.cell? ⟨w.heap.size, 5, none⟩ = some (.slice D co.length d) := B3.out.cell 5
          obtain ⟨q, hq⟩ : ∃ q, Hid (q = x ++ [(k : Int)]) := ⟨_, rfl⟩
          have lq : q.length = x.length + 1 := by rw [hq.out]; simp
          replace lq := Lib.hid lq
          go_upto_region 19 with (fail)
          refine wp_region_any (by kernel_rfl) ?_
          change wpAny _ _ _ _ _ _ _ (World.drew _)
          refine wpAny_T (i := 2) (op := Op.move (Operand.tmp 1)) (t := 22) (d := some 74) (v := ?_) rfl (by decide +kernel) (by decide +kernel) (by decide +kernel) (fun _ _ _ h => h) ?_ ?_
          case refine_2 => (intro _; unfold exec2; go_simp; try with_reducible rfl)
          try simp only [Act.put, List.setIfInBounds_toArray, List.set_cons_zero, List.set_cons_succ]
          refine wpAny_T (i := 4) (op := Op.move (Operand.tmp 9)) (t := 3) (d := some 76) (v := ?_) rfl (by decide +kernel) (by decide +kernel) (by decide +kernel) (fun _ _ _ h => h) ?_ ?_
          case refine_2 => (intro _; unfold exec2; go_simp; try with_reducible rfl)
          try simp only [Act.put, List.setIfInBounds_toArray, List.set_cons_zero, List.set_cons_succ]
          refine wpAny_core3 (n := 2) [(0, some 72), (1, some 73), (3, some 75), (5, some 77), (6, some 78)] (fun | 1 => [3] | 3 => [6] | 5 => [6] | _ => []) (Ext wo)
            (VF (fun | 0 => some (.agg #[.int .i64 1, .int .i64 n, .int .i64 cap, .slice A xw.length a, .slice B xv.length b, .slice D co.length d]) | _ => none)
              (fun j v W => (j = 1 → ∃ g, v = .slice (some ⟨g, 0, none⟩) 0 0 ∧ wo.heap.size ≤ g ∧ Blk W g 3 #[]) ∧ (j = 3 → ∃ A c, v = .slice A x.length c ∧ OwI W wo.heap.size A c x) ∧ (j = 5 → ∃ h, v = .slice (some ⟨h, 0, none⟩) 1 1 ∧ Blk W h 3 #[.int .i64 (k : Int)]) ∧ (j = 6 → ∃ A c, v = .slice A q.length c ∧ OwI W wo.heap.size A c q)))
            (fun i W W' => i ≠ 6 → Ext W W') #[true, true, true, true, true, true, true, false, false] (by kernel_rfl) (by kernel_rfl) ?_ ?_ ?_ ((Ext.rf _).drew)
          · intro i j v W W' hkp hv hs
            refine VF.stab1 (fun _ ⟨g1, g3, g8, g9⟩ => ?_) hv
            by_cases hi : i = 6
            · subst hi
              refine ⟨fun h => ?_, fun h => ?_, fun h => ?_, fun h => ?_⟩
              all_goals (subst h; exact absurd hkp (by decide +kernel))
            · have hx := hs hi
              refine ⟨fun h => ?_, fun h => ?_, fun h => ?_, fun h => ?_⟩
              · obtain ⟨g, q1, q2, q3⟩ := g1 h
                exact ⟨g, q1, q2, q3.ext hx⟩
              · obtain ⟨A', c', q1, q2⟩ := g3 h
                exact ⟨A', c', q1, q2.ext hx⟩
              · obtain ⟨h', q1, q2⟩ := g8 h
                exact ⟨h', q1, q2.ext hx⟩
              · obtain ⟨A', c', q1, q2⟩ := g9 h
                exact ⟨A', c', q1, q2.ext hx⟩
          · intro pq hpm u W hRW hD K hK
            have z2 := hRW.size
            simp only [List.mem_cons, List.not_mem_nil, or_false] at hpm
            rcases hpm with rfl | rfl | rfl | rfl | rfl
            · have r0 := keepEL hRW zb3 c0
              have r1 := keepEL hRW zb3 c1'
              have r2 := keepEL hRW zb3 c2
              have r3 := keepEL hRW zb3 c3
              have r4 := keepEL hRW zb3 c4
              have r5 := keepEL hRW zb3 c5
              exact op_ld (T := 25) rfl (.pointer (some ⟨w.heap.size, 0, none⟩)) (by kernel_rfl) (.agg #[.int .i64 1, .int .i64 n, .int .i64 cap, .slice A xw.length a, .slice B xv.length b, .slice D co.length d]) (by go_simp) (hK _ _ (VF.mk rfl) hRW (fun _ => Ext.rf _))
            · exact op_bs0 rfl _ (ibs0_run _) (hK _ _ (VF.mg rfl ⟨fun _ => ⟨_, rfl, z2, .new rfl⟩, (fun h => by cases h), (fun h => by cases h), (fun h => by cases h)⟩) (hRW.alloc _) (fun _ => (Ext.rf _).alloc _))
            · obtain ⟨g, h1, zg, bg⟩ := ((hD 1 (depIn (by kernel_rfl))).g rfl).1 rfl
              obtain ⟨A3, c3, w3, hr3, o3, x3⟩ := run_copy_i W wo.heap.size 22 g x P c bg zg (hP.out.ext ((X1.out.tr Y.out).tr hRW)) (by omega)
              exact op_app rfl (.slice (some ⟨g, 0, none⟩) 0 0) (.slice P x.length c) (Eq.trans (b := u 1) (by kernel_rfl) h1) (by kernel_rfl) _ hr3 (hK _ _ (VF.mg rfl ⟨(fun h => by cases h), fun _ => ⟨A3, c3, rfl, o3⟩, (fun h => by cases h), (fun h => by cases h)⟩) (hRW.tr x3) (fun _ => x3))
            · exact op_bs1 rfl (.int .i64 (k : Int)) (by kernel_rfl) _ (ibs1_run _ _) (hK _ _ (VF.mg rfl ⟨(fun h => by cases h), (fun h => by cases h), fun _ => ⟨_, rfl, .new rfl⟩, (fun h => by cases h)⟩) (hRW.alloc _) (fun _ => (Ext.rf _).alloc _))
            · obtain ⟨A3, c3', h3, o3⟩ := ((hD 3 (depIn (by kernel_rfl))).g rfl).2.1 rfl
              obtain ⟨g8, h8, b8⟩ := ((hD 5 (depIn (by kernel_rfl))).g rfl).2.2.1 rfl
              obtain ⟨A7, c7, w7, hrun, o7, g7, -⟩ := run_app_i W wo.heap.size 22 A3 x.length c3' x [(k : Int)] (some ⟨g8, 0, none⟩) 1 rfl o3 (.blk b8 rfl) (by simp; omega) hRW.size
              have x7 : Ext wo w7 := hRW.grow g7 (fun k hk => (o3.lt k hk).1)
              rw [← hq.out] at hrun o7
              exact op_app rfl (.slice A3 x.length c3') (.slice (some ⟨g8, 0, none⟩) 1 1) (Eq.trans (b := u 3) (by kernel_rfl) h3) (Eq.trans (b := u 5) (by kernel_rfl) h8) _ hrun (hK _ _ (VF.mg rfl ⟨(fun h => by cases h), (fun h => by cases h), (fun h => by cases h), fun _ => ⟨A7, c7, rfl, o7⟩⟩) x7 (fun h => absurd rfl h))
          · intro u w7 hRW hV
            have h0 := (hV (0, some 72) (by simp) rfl).k rfl
            obtain ⟨A7, c7, h9, o7⟩ := ((hV (6, some 78) (by simp) rfl).g rfl).2.2.2 rfl
            simp only [putAll, h0, h9]
            have rq := Lib.hid o7.read
            have x7 := Lib.hid hRW
            clear h0 h9 hV o7 hRW
            try simp only [Act.put, List.setIfInBounds_toArray, List.set_cons_zero, List.set_cons_succ]
            refine wpAny_next 7 (by decide +kernel) (op_call (f := 14) (xs := #[Operand.tmp 72, Operand.tmp 78]) (ts := #[25, 22]) (t := 3) (d := some 79) rfl #[.agg #[.int .i64 1, .int .i64 n, .int .i64 cap, .slice A xw.length a, .slice B xv.length b, .slice D co.length d], .slice A7 q.length c7] (by go_simp) (by kernel_rfl) _ (IHk.out A7 c7 q hq.out w7 (X1.out.tr (Y.out.tr x7.out)) rq.out) ?_)
            rintro e w8 ⟨rfl, x8⟩
            refine ⟨_, rfl, ?_⟩
            try simp only [Act.put, List.setIfInBounds_toArray, List.set_cons_zero, List.set_cons_succ]
            refine wpAny_T (i := 8) (op := Op.assign (Operand.tmp 79)) (t := 3) (d := some 12) (v := ?_) rfl (by decide +kernel) (by decide +kernel) (by decide +kernel) (fun _ _ _ h => h) ?_ ?_
            case refine_2 => (intro _; unfold exec2; go_simp; try with_reducible rfl)
            try simp only [Act.put, List.setIfInBounds_toArray, List.set_cons_zero, List.set_cons_succ]
            refine wpAny_done (by kernel_rfl) ?_ _
            have Y8 := Lib.hid (Y.out.tr (x7.out.tr x8))
            clear x8 x7 rq c0 c1' c2 c3 c4 c5
            go_simp
            by_cases hfv : 0 ≤ fv
            · by_cases hbb : bb < 0
              · have HN3 := HN2.out.1 ⟨hfv, .inl hbb⟩
                clear HN2
                go_wp2_with (fail)
                go_roundw
                case rel => exact ⟨k + 1, fv, by go_num, rfl, by omega, HN3, Y8⟩
                case measure => simp [intOf]; omega
              · by_cases hfb : fv < bb
                · have HN3 := HN2.out.1 ⟨hfv, .inr hfb⟩
                  clear HN2
                  go_wp2_with (fail)
                  go_roundw
                  case rel => exact ⟨k + 1, fv, by go_num, rfl, by omega, HN3, Y8⟩
                  case measure => simp [intOf]; omega
                · have HN3 := HN2.out.2 (by omega)
                  clear HN2
                  go_wp2_with (fail)
                  go_roundw
                  case rel => exact ⟨k + 1, bb, by go_num, rfl, by omega, HN3, Y8⟩
                  case measure => simp [intOf]; omega
            · have HN3 := HN2.out.2 (by omega)
              clear HN2
              go_wp2_with (fail)
              go_roundw
              case rel => exact ⟨k + 1, bb, by go_num, rfl, by omega, HN3, Y8⟩
              case measure => simp [intOf]; omega
    · have hkm : k = 2 := by omega
      have q1 : ¬ (k : Int) < 2 := by omega
      have HN : Hid (bb = bs) := by
        have h := HS.out
        rw [EN.out k (by omega)] at h
        exact h
      obtain rfl := HN.out
      replace hkm := Lib.hid hkm
      go_wp2_with (fail)
      go_ret
      exact ⟨rfl, X1.out.tr Y.out⟩
def rest3 (k : Nat) : List Nat := if k = 0 then [0] else []
set_option maxRecDepth 100000 in
set_option maxHeartbeats 4000000 in
theorem best3_root (i : InstP) (us : List Value) (P : Option Addr) (c : Nat) (x : List Int) (w : World) (H : RInst w us i) (hk2 : i.kind = 3) (hP : RdI w P x) (lx : x.length ≤ 1000) (hx0 : x = []) (n : Nat) (hn : i.n = n) (n1 : 1 ≤ n) (n64 : n ≤ 64) (hlen : x.length < n) (f : Int → Int)
    (IH : ∀ (k : Nat) (A : Option Addr) (d : Nat) (q : List Int), k = 0 → q = x ++ [(k : Int)] → ∀ W, Ext w W → RdI W A q → Calls Try.prog 14 #[.agg (List.toArray us), .slice A q.length d] W fun e w' => e = .returned (.int .i64 (f (k : Int))) ∧ Ext W w') :
    Calls Try.prog 14 #[.agg (List.toArray us), .slice P x.length c] w fun e w' => e = .returned (.int .i64 (pkB (-1) (f 0))) ∧ Ext w w' := by
  have e5 : foldB f (-1) (rest3 0) = pkB (-1) (f 0) := by first | rfl | simp [rest3, foldB]
  generalize pkB (-1) (f 0) = bs at *
  have ST : ∀ k, k < n → rest3 k = (if k = 0 then 0 :: rest3 1 else rest3 (k + 1)) := fun k hk => by
    unfold rest3; by_cases e : k = 0 <;> simp [e]
  have EN : ∀ k, n ≤ k → rest3 k = [] := fun k hk => by
    unfold rest3; rw [if_neg (by omega)]
  obtain ⟨kind, nn, cap, xw, xv, co⟩ := i
  obtain ⟨A, a, B, b, D, d, rfl, -, -, -⟩ := H
  simp only at *
  subst hk2 hn
  have hne : ((x.length : Int) == (n : Int)) = false := by rw [beq_eq_false_iff_ne]; omega
  have hx1 : x.length = 0 := by rw [hx0]; rfl
  have hz0 : ((x.length : Int) == 0) = true := by rw [hx1]; rfl
  have hz1 : ¬ (0 : Int) < (x.length : Int) := by omega
  replace hx1 := Lib.hid hx1
  replace IH := Lib.hid IH
  replace ST := Lib.hid ST
  replace EN := Lib.hid EN
  replace e5 := Lib.hid e5
  replace hP := Lib.hid hP
  replace hx0 := Lib.hid hx0
  have B1 : Hid (Blk (w.alloc (.cells #[.int .i64 3, .int .i64 n, .int .i64 cap, .slice A xw.length a, .slice B xv.length b, .slice D co.length d] 25)) w.heap.size 25 #[.int .i64 3, .int .i64 n, .int .i64 cap, .slice A xw.length a, .slice B xv.length b, .slice D co.length d]) := .new rfl
  have X0 : Hid (Ext w (w.alloc (.cells #[.int .i64 3, .int .i64 n, .int .i64 cap, .slice A xw.length a, .slice B xv.length b, .slice D co.length d] 25))) := (Ext.rf _).alloc _
  obtain ⟨w1, hw1⟩ : ∃ w1, w1 = (w.alloc (.cells #[.int .i64 3, .int .i64 n, .int .i64 cap, .slice A xw.length a, .slice B xv.length b, .slice D co.length d] 25)) := ⟨_, rfl⟩
  have B2 : Hid (Blk w1 w.heap.size 25 #[.int .i64 3, .int .i64 n, .int .i64 cap, .slice A xw.length a, .slice B xv.length b, .slice D co.length d]) := by rw [hw1]; exact B1.out
  have X1 : Hid (Ext w w1) := by rw [hw1]; exact X0.out
  replace hw1 := Lib.hid hw1
  clear B1
  go_enter Try.func14, Try.ntmps14
  go_wp2_with (fail)
  rw [← hw1.out]
  clear X0
  go_loopw [9, 7] (fun v bv wr => ∃ (k : Nat) (bb : Int), v = .int .i64 k ∧ bv = .int .i64 bb ∧ k ≤ n ∧ Hid (foldB f bb (rest3 k) = bs) ∧ Hid (Ext w1 wr)) (fun v _ _ => n - (intOf v).toNat)
  case atStart => exact ⟨0, -1, rfl, rfl, by omega, e5, Ext.rf _⟩
  case round =>
    obtain ⟨wo, rfl⟩ : ∃ wo : World, wo = wr := ⟨_, rfl⟩
    obtain ⟨k, bb, rfl, rfl, hk, HS, Y⟩ := hrel
    by_cases hlt : k < n
    · have HN : Hid (foldB f bb (if k = 0 then 0 :: rest3 1 else rest3 (k + 1)) = bs) := by
        have h := HS.out
        rw [ST.out k hlt] at h
        exact h
      have q1 : (k : Int) < (n : Int) := by omega
      have B3 := B2.out.ext Y.out
      have zb3 := B3.lt
      have c0 : wo.cell? ⟨w.heap.size, 0, none⟩ = some (.int .i64 3) := B3.cell 0
      replace B3 := Lib.hid B3
      clear HS
      go_wp2_with (fail)
      go_loopw [11, 10] (fun v uv wr => v = .int .i64 0 ∧ uv = .bool false ∧ wr = wo) (fun _ _ _ => 0)
      case atStart => exact ⟨rfl, rfl, rfl⟩
      case round =>
        obtain ⟨rfl, rfl, hwr⟩ := hrel
        have hwr' : wo = wr := (show wr = wo from hwr).symm
        clear hwr
        subst hwr'
        by_cases hk0 : k = 0
        · have HM : Hid (foldB f bb (0 :: rest3 1) = bs) := by
            have h := HN.out
            rw [if_pos hk0] at h
            exact h
          have ek : (k : Int) = 0 := by omega
          have k1 : k + 1 = 1 := by omega
          have HN2 : Hid ((0 ≤ f (k : Int) ∧ (bb < 0 ∨ f (k : Int) < bb) → Hid (foldB f (f (k : Int)) (rest3 (k + 1)) = bs)) ∧ (¬ (0 ≤ f (k : Int) ∧ (bb < 0 ∨ f (k : Int) < bb)) → Hid (foldB f bb (rest3 (k + 1)) = bs))) := by
            have h : foldB f (pkB bb (f (k : Int))) (rest3 (k + 1)) = bs := by rw [ek, k1]; exact HM.out
            unfold pkB at h
            exact ⟨fun hh => by rw [if_pos hh] at h; exact h, fun hh => by rw [if_neg hh] at h; exact h⟩
          replace k1 := Lib.hid k1
          clear HM
          have IHk := Lib.hid (fun (A : Option Addr) (d : Nat) (q : List Int) (hq : q = x ++ [(k : Int)]) => IH.out k A d q hk0 hq)
          generalize f (k : Int) = fv at *
          clear HN
          have c1' : wo.cell? ⟨w.heap.size, 1, none⟩ = some (.int .i64 n) := B3.out.cell 1
          have c2 : wo.cell? ⟨w.heap.size, 2, none⟩ = some (.int .i64 cap) := B3.out.cell 2
          have c3 : wo.cell? ⟨w.heap.size, 3, none⟩ = some (.slice A xw.length a) := B3.out.cell 3
          have c4 : wo.cell? ⟨w.heap.size, 4, none⟩ = some (.slice B xv.length b) := B3.out.cell 4
          have c5 : wo.cell? ⟨w.heap.size, 5, none⟩ = some (.slice D co.length d) := B3.out.cell 5
          obtain ⟨q, hq⟩ : ∃ q, Hid (q = x ++ [(k : Int)]) := ⟨_, rfl⟩
          have lq : q.length = x.length + 1 := by rw [hq.out]; simp
          replace lq := Lib.hid lq
          have ekn : ((k : Int) != 0) = false := by simp [ek]
          replace ek := Lib.hid ek
          replace hk0 := Lib.hid hk0
          go_upto_region 19 with (fail)
          refine wp_region_any (by kernel_rfl) ?_
          change wpAny _ _ _ _ _ _ _ (World.drew _)
          refine wpAny_T (i := 2) (op := Op.move (Operand.tmp 1)) (t := 22) (d := some 74) (v := ?_) rfl (by decide +kernel) (by decide +kernel) (by decide +kernel) (fun _ _ _ h => h) ?_ ?_
          case refine_2 => (intro _; unfold exec2; go_simp; try with_reducible rfl)
          try simp only [Act.put, List.setIfInBounds_toArray, List.set_cons_zero, List.set_cons_succ]
          refine wpAny_T (i := 4) (op := Op.move (Operand.tmp 9)) (t := 3) (d := some 76) (v := ?_) rfl (by decide +kernel) (by decide +kernel) (by decide +kernel) (fun _ _ _ h => h) ?_ ?_
          case refine_2 => (intro _; unfold exec2; go_simp; try with_reducible rfl)
          try simp only [Act.put, List.setIfInBounds_toArray, List.set_cons_zero, List.set_cons_succ]
          refine wpAny_core3 (n := 2) [(0, some 72), (1, some 73), (3, some 75), (5, some 77), (6, some 78)] (fun | 1 => [3] | 3 => [6] | 5 => [6] | _ => []) (Ext wo)
            (VF (fun | 0 => some (.agg #[.int .i64 3, .int .i64 n, .int .i64 cap, .slice A xw.length a, .slice B xv.length b, .slice D co.length d]) | _ => none)
              (fun j v W => (j = 1 → ∃ g, v = .slice (some ⟨g, 0, none⟩) 0 0 ∧ wo.heap.size ≤ g ∧ Blk W g 3 #[]) ∧ (j = 3 → ∃ A c, v = .slice A x.length c ∧ OwI W wo.heap.size A c x) ∧ (j = 5 → ∃ h, v = .slice (some ⟨h, 0, none⟩) 1 1 ∧ Blk W h 3 #[.int .i64 (k : Int)]) ∧ (j = 6 → ∃ A c, v = .slice A q.length c ∧ OwI W wo.heap.size A c q)))
            (fun i W W' => i ≠ 6 → Ext W W') #[true, true, true, true, true, true, true, false, false] (by kernel_rfl) (by kernel_rfl) ?_ ?_ ?_ ((Ext.rf _).drew)
          · intro i j v W W' hkp hv hs
            refine VF.stab1 (fun _ ⟨g1, g3, g8, g9⟩ => ?_) hv
            by_cases hi : i = 6
            · subst hi
              refine ⟨fun h => ?_, fun h => ?_, fun h => ?_, fun h => ?_⟩
              all_goals (subst h; exact absurd hkp (by decide +kernel))
            · have hx := hs hi
              refine ⟨fun h => ?_, fun h => ?_, fun h => ?_, fun h => ?_⟩
              · obtain ⟨g, q1, q2, q3⟩ := g1 h
                exact ⟨g, q1, q2, q3.ext hx⟩
              · obtain ⟨A', c', q1, q2⟩ := g3 h
                exact ⟨A', c', q1, q2.ext hx⟩
              · obtain ⟨h', q1, q2⟩ := g8 h
                exact ⟨h', q1, q2.ext hx⟩
              · obtain ⟨A', c', q1, q2⟩ := g9 h
                exact ⟨A', c', q1, q2.ext hx⟩
          · intro pq hpm u W hRW hD K hK
            have z2 := hRW.size
            simp only [List.mem_cons, List.not_mem_nil, or_false] at hpm
            rcases hpm with rfl | rfl | rfl | rfl | rfl
            · have r0 := keepEL hRW zb3 c0
              have r1 := keepEL hRW zb3 c1'
              have r2 := keepEL hRW zb3 c2
              have r3 := keepEL hRW zb3 c3
              have r4 := keepEL hRW zb3 c4
              have r5 := keepEL hRW zb3 c5
              exact op_ld (T := 25) rfl (.pointer (some ⟨w.heap.size, 0, none⟩)) (by kernel_rfl) (.agg #[.int .i64 3, .int .i64 n, .int .i64 cap, .slice A xw.length a, .slice B xv.length b, .slice D co.length d]) (by go_simp) (hK _ _ (VF.mk rfl) hRW (fun _ => Ext.rf _))
            · exact op_bs0 rfl _ (ibs0_run _) (hK _ _ (VF.mg rfl ⟨fun _ => ⟨_, rfl, z2, .new rfl⟩, (fun h => by cases h), (fun h => by cases h), (fun h => by cases h)⟩) (hRW.alloc _) (fun _ => (Ext.rf _).alloc _))
            · obtain ⟨g, h1, zg, bg⟩ := ((hD 1 (depIn (by kernel_rfl))).g rfl).1 rfl
              obtain ⟨A3, c3, w3, hr3, o3, x3⟩ := run_copy_i W wo.heap.size 22 g x P c bg zg (hP.out.ext ((X1.out.tr Y.out).tr hRW)) (by omega)
              exact op_app rfl (.slice (some ⟨g, 0, none⟩) 0 0) (.slice P x.length c) (Eq.trans (b := u 1) (by kernel_rfl) h1) (by kernel_rfl) _ hr3 (hK _ _ (VF.mg rfl ⟨(fun h => by cases h), fun _ => ⟨A3, c3, rfl, o3⟩, (fun h => by cases h), (fun h => by cases h)⟩) (hRW.tr x3) (fun _ => x3))
            · exact op_bs1 rfl (.int .i64 (k : Int)) (by kernel_rfl) _ (ibs1_run _ _) (hK _ _ (VF.mg rfl ⟨(fun h => by cases h), (fun h => by cases h), fun _ => ⟨_, rfl, .new rfl⟩, (fun h => by cases h)⟩) (hRW.alloc _) (fun _ => (Ext.rf _).alloc _))
            · obtain ⟨A3, c3', h3, o3⟩ := ((hD 3 (depIn (by kernel_rfl))).g rfl).2.1 rfl
              obtain ⟨g8, h8, b8⟩ := ((hD 5 (depIn (by kernel_rfl))).g rfl).2.2.1 rfl
              obtain ⟨A7, c7, w7, hrun, o7, g7, -⟩ := run_app_i W wo.heap.size 22 A3 x.length c3' x [(k : Int)] (some ⟨g8, 0, none⟩) 1 rfl o3 (.blk b8 rfl) (by simp; omega) hRW.size
              have x7 : Ext wo w7 := hRW.grow g7 (fun k hk => (o3.lt k hk).1)
              rw [← hq.out] at hrun o7
              exact op_app rfl (.slice A3 x.length c3') (.slice (some ⟨g8, 0, none⟩) 1 1) (Eq.trans (b := u 3) (by kernel_rfl) h3) (Eq.trans (b := u 5) (by kernel_rfl) h8) _ hrun (hK _ _ (VF.mg rfl ⟨(fun h => by cases h), (fun h => by cases h), (fun h => by cases h), fun _ => ⟨A7, c7, rfl, o7⟩⟩) x7 (fun h => absurd rfl h))
          · intro u w7 hRW hV
            have h0 := (hV (0, some 72) (by simp) rfl).k rfl
            obtain ⟨A7, c7, h9, o7⟩ := ((hV (6, some 78) (by simp) rfl).g rfl).2.2.2 rfl
            simp only [putAll, h0, h9]
            have rq := Lib.hid o7.read
            have x7 := Lib.hid hRW
            clear h0 h9 hV o7 hRW
            try simp only [Act.put, List.setIfInBounds_toArray, List.set_cons_zero, List.set_cons_succ]
            refine wpAny_next 7 (by decide +kernel) (op_call (f := 14) (xs := #[Operand.tmp 72, Operand.tmp 78]) (ts := #[25, 22]) (t := 3) (d := some 79) rfl #[.agg #[.int .i64 3, .int .i64 n, .int .i64 cap, .slice A xw.length a, .slice B xv.length b, .slice D co.length d], .slice A7 q.length c7] (by go_simp) (by kernel_rfl) _ (IHk.out A7 c7 q hq.out w7 (X1.out.tr (Y.out.tr x7.out)) rq.out) ?_)
            rintro e w8 ⟨rfl, x8⟩
            refine ⟨_, rfl, ?_⟩
            try simp only [Act.put, List.setIfInBounds_toArray, List.set_cons_zero, List.set_cons_succ]
            refine wpAny_T (i := 8) (op := Op.assign (Operand.tmp 79)) (t := 3) (d := some 12) (v := ?_) rfl (by decide +kernel) (by decide +kernel) (by decide +kernel) (fun _ _ _ h => h) ?_ ?_
            case refine_2 => (intro _; unfold exec2; go_simp; try with_reducible rfl)
            try simp only [Act.put, List.setIfInBounds_toArray, List.set_cons_zero, List.set_cons_succ]
            refine wpAny_done (by kernel_rfl) ?_ _
            have Y8 := Lib.hid (Y.out.tr (x7.out.tr x8))
            clear x8 x7 rq c0 c1' c2 c3 c4 c5
            go_simp
            by_cases hfv : 0 ≤ fv
            · by_cases hbb : bb < 0
              · have HN3 := HN2.out.1 ⟨hfv, .inl hbb⟩
                clear HN2
                go_wp2_with (fail)
                go_roundw
                case rel => exact ⟨k + 1, fv, by go_num, rfl, by omega, HN3, Y8⟩
                case measure => simp [intOf]; omega
              · by_cases hfb : fv < bb
                · have HN3 := HN2.out.1 ⟨hfv, .inr hfb⟩
                  clear HN2
                  go_wp2_with (fail)
                  go_roundw
                  case rel => exact ⟨k + 1, fv, by go_num, rfl, by omega, HN3, Y8⟩
                  case measure => simp [intOf]; omega
                · have HN3 := HN2.out.2 (by omega)
                  clear HN2
                  go_wp2_with (fail)
                  go_roundw
                  case rel => exact ⟨k + 1, bb, by go_num, rfl, by omega, HN3, Y8⟩
                  case measure => simp [intOf]; omega
            · have HN3 := HN2.out.2 (by omega)
              clear HN2
              go_wp2_with (fail)
              go_roundw
              case rel => exact ⟨k + 1, bb, by go_num, rfl, by omega, HN3, Y8⟩
              case measure => simp [intOf]; omega
        · have ekn : ((k : Int) != 0) = true := by simp; omega
          have HM : Hid (foldB f bb (rest3 (k + 1)) = bs) := by
            have h := HN.out
            rw [if_neg hk0] at h
            exact h
          clear HN
          go_wp2_with (fail)
          go_roundw
          case rel => exact ⟨k + 1, bb, by go_num, rfl, by omega, HM, Y⟩
          case measure => simp [intOf]; omega
    · have hkm : k = n := by omega
      have q1 : ¬ (k : Int) < (n : Int) := by omega
      have HN : Hid (bb = bs) := by
        have h := HS.out
        rw [EN.out k (by omega)] at h
        exact h
      obtain rfl := HN.out
      replace hkm := Lib.hid hkm
      go_wp2_with (fail)
      go_ret
      exact ⟨rfl, X1.out.tr Y.out⟩
end Go.Proofs.Ytpapkofildcdiaa
namespace Go.Proofs.Ytpapkofildcdiaa
open Go.RowKit Go.ChangeShapes Go.WideShapes Go.ChangeAt Go.Deep

theorem check_kind {i : InstP} (h : checkP i = 0) : i.kind = 1 ∨ i.kind = 2 ∨ i.kind = 3 := by
  unfold checkP at h
  by_cases hs : sizeP i.kind i.n = 0
  · exact sizeP_kind hs
  · rw [if_neg hs] at h
    exact absurd h hs
end Go.Proofs.Ytpapkofildcdiaa
namespace Go.Proofs.Ytpapkofildcdiaa
open Go.RowKit Go.ChangeShapes Go.WideShapes Go.ChangeAt Go.Deep

set_option maxRecDepth 100000 in
set_option maxHeartbeats 1000000 in
theorem best1_whole (i : InstP) (us : List Value) (P : Option Addr) (c : Nat) (x : List Int) (w : World) (H : RInst w us i) (hc : checkP i = 0) (hk : i.kind = 1) (hP : RdI w P x) (lx : (x.length : Int) = i.n) (h01 : ∀ v ∈ x, v = 0 ∨ v = 1) :
    Calls Try.prog 14 #[.agg (List.toArray us), .slice P x.length c] w fun e w' => e = .returned (.int .i64 (best1 i.cap i.weight i.value 0 x)) ∧ Ext w w' := by
  have CO := fun (W : World) (y : Ext w W) => rcost_any i us P c x W (H.ext y) hc hk (hP.ext y) lx h01
  unfold best1
  unfold costP at CO
  by_cases hcap : i.cap < takenL x i.weight
  · rw [if_pos hcap]
    rw [if_pos hcap] at CO
    unfold BoundVal at CO
    clear hcap hP hc h01
    obtain ⟨kind, nn, cap, xw, xv, co⟩ := i
    obtain ⟨A, a, B, b, D, d, rfl, -, -, -⟩ := H
    simp only at *
    subst lx hk
    have hb : ((x.length : Int) == (x.length : Int)) = true := by simp
    replace CO := Lib.hid CO
    go_enter Try.func14, Try.ntmps14
    go_wp2_with (fail)
    refine (CO.out _ (by (repeat (first | assumption | exact Ext.rf _ | apply Ext.drew | apply Ext.drewN | apply Ext.alloc)))).mono ?_
    rintro e w1 ⟨rfl, x1⟩
    have X1 := Lib.hid (Ext.tr (a := w) (by (repeat (first | assumption | exact Ext.rf _ | apply Ext.drew | apply Ext.drewN | apply Ext.alloc))) x1)
    clear x1
    go_wp2_with (fail)
    go_ret
    exact ⟨rfl, X1.out⟩
  · rw [if_neg hcap]
    rw [if_neg hcap] at CO
    unfold BoundVal at CO
    generalize leftL x i.value = lv at *
    clear hcap hP hc h01
    obtain ⟨kind, nn, cap, xw, xv, co⟩ := i
    obtain ⟨A, a, B, b, D, d, rfl, -, -, -⟩ := H
    simp only at *
    subst lx hk
    have hb : ((x.length : Int) == (x.length : Int)) = true := by simp
    replace CO := Lib.hid CO
    go_enter Try.func14, Try.ntmps14
    go_wp2_with (fail)
    refine (CO.out _ (by (repeat (first | assumption | exact Ext.rf _ | apply Ext.drew | apply Ext.drewN | apply Ext.alloc)))).mono ?_
    rintro e w1 ⟨rfl, x1⟩
    have X1 := Lib.hid (Ext.tr (a := w) (by (repeat (first | assumption | exact Ext.rf _ | apply Ext.drew | apply Ext.drewN | apply Ext.alloc))) x1)
    clear x1
    go_wp2_with (fail)
    go_ret
    exact ⟨rfl, X1.out⟩
theorem best1_any (i : InstP) (us : List Value) (hc : checkP i = 0) (hk : i.kind = 1) (n : Nat) (hn : i.n = n) : ∀ (f : Nat) (P : Option Addr) (c : Nat) (x : List Int) (w : World), x.length + f = n → (∀ v ∈ x, v = 0 ∨ v = 1) → RInst w us i → RdI w P x →
    Calls Try.prog 14 #[.agg (List.toArray us), .slice P x.length c] w fun e w' => e = .returned (.int .i64 (best1 i.cap i.weight i.value f x)) ∧ Ext w w'
  | 0, P, c, x, w => fun hl h01 H hP => best1_whole i us P c x w H hc hk hP (by omega) h01
  | f + 1, P, c, x, w => fun hl h01 H hP => by
    have ok := knap_ok hc hk
    have k1 := ok.n1
    have k2 := ok.n2
    refine best1_more i us P c x w H hk hP (by omega) n hn (by omega) (by omega) (by omega) (fun b => best1 i.cap i.weight i.value f (x ++ [b])) ?_
    rintro k A d q hk2 rfl W y hq
    refine best1_any i us hc hk n hn f A d _ W (by simp; omega) (fun v hv => ?_) (H.ext y) hq
    rcases List.mem_append.1 hv with h | h
    · exact h01 v h
    · have := List.mem_singleton.1 h
      omega
set_option maxRecDepth 100000 in
set_option maxHeartbeats 1000000 in
theorem small_bad (i : InstP) (us : List Value) (w : World) (H : RInst w us i) (hc : checkP i ≠ 0) :
    Calls Try.prog 11 #[.agg (List.toArray us)] w fun e w' => e = .returned (.bool false) ∧ Ext w w' := by
  have CH := fun (W : World) (x : Ext w W) => rcheck_any i us W (H.ext x)
  generalize checkP i = cc at *
  have e1 : (cc == 0) = false := by simpa using hc
  obtain ⟨kind, nn, cap, xw, xv, co⟩ := i
  obtain ⟨A, a, B, b, D, d, rfl, -, -, -⟩ := H
  simp only at *
  replace CH := Lib.hid CH
  clear hc
  go_enter Try.func11, Try.ntmps11
  go_wp2_with (fail)
  refine (CH.out _ (by (repeat (first | assumption | exact Ext.rf _ | apply Ext.drew | apply Ext.drewN | apply Ext.alloc)))).mono ?_
  rintro e w1 ⟨rfl, x1⟩
  have X1 := Lib.hid (Ext.tr (a := w) (by (repeat (first | assumption | exact Ext.rf _ | apply Ext.drew | apply Ext.drewN | apply Ext.alloc))) x1)
  clear x1
  go_wp2_with (fail)
  go_ret
  exact ⟨rfl, X1.out⟩
/-- few items -/
def smallP (i : InstP) : Bool := decide (checkP i = 0) && decide (i.n ≤ if i.kind = 1 then 9 else 6)
theorem rsmall (i : InstP) (us : List Value) (w : World) (H : RInst w us i) :
    Calls Try.prog 11 #[.agg (List.toArray us)] w fun e w' => e = .returned (.bool (smallP i)) ∧ Ext w w' := by
  by_cases hc : checkP i = 0
  · rcases check_kind hc with hk | hk | hk
    · have h := small_any i us w H hc hk
      unfold smallP
      rw [hk, if_pos rfl, decide_eq_true hc, Bool.true_and]
      exact h
    · have h := small2_any i us w H hc hk
      unfold smallP
      rw [hk, if_neg (by decide), decide_eq_true hc, Bool.true_and]
      exact h
    · have h := small3_any i us w H hc hk
      unfold smallP
      rw [hk, if_neg (by decide), decide_eq_true hc, Bool.true_and]
      exact h
  · have h := small_bad i us w H hc
    unfold smallP
    rw [decide_eq_false hc, Bool.false_and]
    exact h
end Go.Proofs.Ytpapkofildcdiaa
namespace Go.Proofs.Ytpapkofildcdiaa

section
variable {D : Nat} {kids : List Int → List Int} {bound : List Int → Int}
end
/-- what a kernel is, for a search: the beginnings, the least cost behind each -/
structure KrnOk (D : Nat) (kids : List Int → List Int) (bound : List Int → Int) (okp : List Int → Prop) (bx : List Int → Int) : Prop where
  len : ∀ p, okp p → p.length ≤ D
  kid : ∀ p, okp p → p.length < D → ∀ n ∈ kids p, okp (p ++ [n])
  leaf : ∀ p, okp p → p.length = D → bound p = bx p
  low : ∀ p, okp p → bound p ≤ bx p
  node : ∀ p, okp p → p.length < D → (∃ n ∈ kids p, bx (p ++ [n]) = bx p) ∧ ∀ n ∈ kids p, bx p ≤ bx (p ++ [n])
section
variable {D : Nat} {kids : List Int → List Int} {bound : List Int → Int} {okp : List Int → Prop} {bx : List Int → Int}
end
end Go.Proofs.Ytpapkofildcdiaa
namespace Go.Proofs.Ytpapkofildcdiaa

abbrev Wd : Type := List UInt8
/-- one kid behind the other, till an error -/
def seqC (g : Int → Wd → Int × Wd) : List Int → Wd → Int × Wd
  | [], w => (0, w)
  | n :: l, w => if (g n w).1 = 0 then seqC g l (g n w).2 else g n w
/-- the letters of a beginning and of all that is behind it: the error, and what is left of the word -/
def nodeC (D : Nat) (kids : List Int → List Int) (bound : List Int → Int) (cost : Int) : Nat → List Int → Wd → Int × Wd
  | 0, _, w => (0, w)
  | _ + 1, _, [] => (6, [])
  | f + 1, p, c :: w =>
    if c = 98 then (if p.length = D then (8, w) else seqC (fun n v => nodeC D kids bound cost f (p ++ [n]) v) (kids p) w)
    else if c = 108 then (if p.length = D then (if bound p < cost then (13, w) else (0, w)) else (8, w))
    else if c = 112 then (if bound p < cost then (13, w) else (0, w))
    else (2, w)
/-- the whole check -/
def wholeC (D : Nat) (kids : List Int → List Int) (bound : List Int → Int) (cost : Int) (w : Wd) : Int :=
  if (nodeC D kids bound cost (D + 1) [] w).1 = 0 then (if (nodeC D kids bound cost (D + 1) [] w).2 = [] then 0 else 7) else (nodeC D kids bound cost (D + 1) [] w).1
section
variable {D : Nat} {kids : List Int → List Int} {bound : List Int → Int} {cost : Int}
theorem nodeC_cons (f : Nat) (c : UInt8) (w : Wd) (p : List Int) : nodeC D kids bound cost (f + 1) p (c :: w) = if c = 98 then (if p.length = D then (8, w) else seqC (fun n v => nodeC D kids bound cost f (p ++ [n]) v) (kids p) w)
    else if c = 108 then (if p.length = D then (if bound p < cost then (13, w) else (0, w)) else (8, w))
    else if c = 112 then (if bound p < cost then (13, w) else (0, w))
    else (2, w) := by rw [nodeC]
end
section
variable {D : Nat} {kids : List Int → List Int} {bound : List Int → Int} {okp : List Int → Prop} {bx : List Int → Int} {cost : Int}
/-- what is taken: nothing behind it costs less -/
theorem node_sound (H : KrnOk D kids bound okp bx) : ∀ (f : Nat) (p : List Int) (w : Wd), okp p → f + p.length = D + 1 → (nodeC D kids bound cost f p w).1 = 0 → cost ≤ bx p
  | 0, p, w, ho, hf, _ => by have := H.len p ho; omega
  | f + 1, p, [], ho, hf, h => by simp [nodeC] at h
  | f + 1, p, c :: w, ho, hf, h => by
    have hl := H.len p ho
    have hlow := H.low p ho
    rw [nodeC_cons] at h
    by_cases h1 : c = 98
    · simp only [h1, if_true] at h
      by_cases h2 : p.length = D
      · simp [h2] at h
      · simp only [h2, if_false] at h
        have hlt : p.length < D := by omega
        have key : ∀ (l : List Int) (w : Wd), (∀ n ∈ l, okp (p ++ [n])) → (seqC (fun n v => nodeC D kids bound cost f (p ++ [n]) v) l w).1 = 0 → ∀ n ∈ l, cost ≤ bx (p ++ [n]) := by
          intro l
          induction l with
          | nil => intro w _ _ n hn; cases hn
          | cons m l ih =>
            intro w hk hs n hn
            unfold seqC at hs
            by_cases h4 : (nodeC D kids bound cost f (p ++ [m]) w).1 = 0
            · simp only [h4, if_true] at hs
              rcases List.mem_cons.1 hn with rfl | hn
              · exact node_sound H f _ w (hk _ (by simp)) (by simp; omega) h4
              · exact ih _ (fun m hm => hk m (by simp [hm])) hs n hn
            · simp only [h4, if_false] at hs
        obtain ⟨⟨n, hn, en⟩, _⟩ := H.node p ho hlt
        have := key (kids p) w (H.kid p ho hlt) h n hn
        omega
    · simp only [h1, if_false] at h
      have fin : ∀ {w : Wd}, (if bound p < cost then ((13, w) : Int × Wd) else (0, w)).1 = 0 → cost ≤ bx p := by
        intro w h
        by_cases h4 : bound p < cost
        · simp [h4] at h
        · omega
      by_cases h2 : c = 108
      · simp only [h2, if_true] at h
        by_cases h3 : p.length = D
        · simp only [h3, if_true] at h
          exact fin h
        · simp [h3] at h
      · simp only [h2, if_false] at h
        by_cases h3 : c = 112
        · simp only [h3, if_true] at h
          exact fin h
        · simp [h3] at h
theorem whole_sound (H : KrnOk D kids bound okp bx) (h0 : okp []) {w : Wd} (h : wholeC D kids bound cost w = 0) : cost ≤ bx [] := by
  unfold wholeC at h
  by_cases h1 : (nodeC D kids bound cost (D + 1) [] w).1 = 0
  · exact node_sound H (D + 1) [] w h0 (by simp) h1
  · rw [if_neg h1] at h
    exact absurd h h1
end
end Go.Proofs.Ytpapkofildcdiaa
namespace Go.Proofs.Ytpapkofildcdiaa

theorem leastF_le {f : Int → Int} : ∀ {l : List Int} {b : Int}, (∀ x ∈ l, 0 ≤ f x) → (∀ x ∈ l, leastF f b l ≤ f x) ∧ (0 ≤ b → leastF f b l ≤ b)
  | [], b, _ => ⟨(fun x hx => by cases hx), fun _ => Int.le_refl _⟩
  | y :: l, b, h => by
    have hy := h y (by simp)
    have ih := leastF_le (l := l) (b := if b < 0 then f y else if f y < b then f y else b) fun x hx => h x (by simp [hx])
    have hb : 0 ≤ (if b < 0 then f y else if f y < b then f y else b) := by split <;> (try split) <;> omega
    have h2 := ih.2 hb
    refine ⟨fun x hx => ?_, fun h0 => ?_⟩
    · rcases List.mem_cons.1 hx with rfl | hx
      · refine Int.le_trans h2 ?_
        split <;> (try split) <;> omega
      · exact ih.1 x hx
    · refine Int.le_trans h2 ?_
      split <;> (try split) <;> omega
theorem node_of {f : Int → Int} {l : List Int} {v : Int} (h : ∀ x ∈ l, 0 ≤ f x) (hne : l ≠ []) (e : leastF f (-1) l = v) : (∃ n ∈ l, f n = v) ∧ ∀ n ∈ l, v ≤ f n := by
  subst e
  refine ⟨?_, (leastF_le h).1⟩
  rcases leastF_in (b := -1) h (.inr hne) with ⟨_, h0⟩ | ⟨x, hx, h0⟩
  · omega
  · exact ⟨x, hx, h0.symm⟩
theorem node_perm {f : Int → Int} {l l' : List Int} {v : Int} (hp : ∀ x, x ∈ l ↔ x ∈ l') (h : (∃ n ∈ l, f n = v) ∧ ∀ n ∈ l, v ≤ f n) : (∃ n ∈ l', f n = v) ∧ ∀ n ∈ l', v ≤ f n :=
  ⟨by obtain ⟨n, hn, e⟩ := h.1; exact ⟨n, (hp n).1 hn, e⟩, fun n hn => h.2 n ((hp n).2 hn)⟩
/-- a knapsack's -/
theorem krn_knap {cap : Int} {ws vs : List Int} (h0 : 0 ≤ cap) (hw : ∀ x ∈ ws, 0 ≤ x) (hv : ∀ x ∈ vs, 0 ≤ x ∧ x ≤ 2147483647) (hl : ws.length = vs.length) (hf : Falls ws vs) :
    KrnOk ws.length (fun p => (kidsP cap ws vs p).1) (fun p => (boundP cap ws vs p).1) (fun p => ∃ q, stP cap 0 ws vs p = some q) (bestAt cap ws vs) where
  len := fun p ⟨q, h⟩ => by
    rcases Nat.lt_or_ge ws.length p.length with h1 | h1
    · rw [stP_long h1] at h; cases h
    · exact h1
  kid := fun p ⟨⟨r, o⟩, h⟩ hlt n hn => by
    obtain ⟨w, ws', e1⟩ : ∃ w ws', ws.drop p.length = w :: ws' := ⟨_, _, List.drop_eq_getElem_cons hlt⟩
    obtain ⟨v, vs', e2⟩ : ∃ v vs', vs.drop p.length = v :: vs' := ⟨_, _, List.drop_eq_getElem_cons (by omega)⟩
    have hr := (stP_room hw h0 h).1
    unfold kidsP at hn
    rw [h] at hn
    simp only [e1] at hn
    split at hn
    · rename_i hle
      simp at hn
      rcases hn with rfl | rfl
      · exact ⟨_, stP_snoc1 h e1 e2 hle⟩
      · exact ⟨_, stP_snoc0 h e1 e2 hr⟩
    · simp at hn
      subst hn
      exact ⟨_, stP_snoc0 h e1 e2 hr⟩
  leaf := fun p ⟨⟨r, o⟩, h⟩ hpl => by
    have := whole_at h hpl hl
    simp only [this.1, this.2]
  low := fun p ⟨⟨r, o⟩, h⟩ => by
    rcases bound_err cap ws vs p with he | ⟨_, he⟩
    · exact (bound_below h0 hw hv hl hf he).2
    · rw [h] at he; cases he
  node := fun p ⟨⟨r, o⟩, h⟩ hlt => by
    have hr := (stP_room hw h0 h).1
    have ho := (stP_out hv h).1
    have hvn : ∀ x ∈ vs, 0 ≤ x := fun x hx => (hv x hx).1
    have e := leastF_kids h hr hlt hl hvn ho
    obtain ⟨w, ws', e1⟩ : ∃ w ws', ws.drop p.length = w :: ws' := ⟨_, _, List.drop_eq_getElem_cons hlt⟩
    obtain ⟨v, vs', e2⟩ : ∃ v vs', vs.drop p.length = v :: vs' := ⟨_, _, List.drop_eq_getElem_cons (by omega)⟩
    have hvs : ∀ x ∈ v :: vs', 0 ≤ x := fun x hx => hvn x (List.mem_of_mem_drop (e2 ▸ hx))
    refine node_of (fun x hx => ?_) ?_ e
    · unfold kidsP at hx
      rw [h] at hx
      simp only [e1] at hx
      split at hx
      · rename_i hle
        simp at hx
        rcases hx with rfl | rfl
        · rw [bestAt_1 h e1 e2 hle]; exact bestP_nonneg ho fun x hx => hvs x (by simp [hx])
        · rw [bestAt_0 h e1 e2 hr]; exact bestP_nonneg (by have := hvs v (by simp); omega) fun x hx => hvs x (by simp [hx])
      · simp at hx
        subst hx
        rw [bestAt_0 h e1 e2 hr]
        exact bestP_nonneg (by have := hvs v (by simp); omega) fun x hx => hvs x (by simp [hx])
    · unfold kidsP
      rw [h]
      simp only [e1]
      split <;> simp
theorem krn_assign {rows : List (List Int)} (ok : RowsOk rows) :
    KrnOk rows.length (fun p => (kidsA rows p).1) (fun p => (boundA rows p).1) (fun p => ∃ m, freeP rows.length p = some m) (fun p => bestA rows rows.length (rows.length - p.length) p) where
  len := fun p ⟨m, h⟩ => by have := freeP_len ok.n2 h; omega
  kid := fun p ⟨m, h⟩ hlt n hn => by
    obtain ⟨l, e1, e2, _⟩ := kidsA_of h
    rw [e1] at hn
    obtain ⟨c, hc, rfl⟩ := List.mem_map.1 hn
    exact ⟨_, freeP_snoc ok.n2 h (e2.mem_iff.1 hc)⟩
  leaf := fun p ⟨m, h⟩ hpl => by
    have h1 := (bounda_below ok h).2.1
    obtain ⟨l, rfl, hl⟩ := whole_cols ok.n2 h hpl
    show (boundA rows (intsN l)).1 = _
    rw [show rows.length - (intsN l).length = 0 by omega]
    unfold boundA
    rw [h]
    simp only
    rw [if_neg (by omega), Int.add_zero]
    rfl
  low := fun p ⟨m, h⟩ => (bounda_below ok h).2.1
  node := fun p ⟨m, h⟩ hlt => by
    have hlen := freeP_len ok.n2 h
    obtain ⟨l, e1, e2, _⟩ := kidsA_of h
    obtain ⟨f, hf⟩ : ∃ f, rows.length - p.length = f + 1 := ⟨rows.length - p.length - 1, by omega⟩
    have ef : ∀ c : Int, rows.length - (p ++ [c]).length = f := fun c => by simp; omega
    have e : leastF (fun x => bestA rows rows.length f (p ++ [x])) (-1) (intsN (memsM m)) = bestA rows rows.length (rows.length - p.length) p := by
      rw [hf]
      show _ = leastF _ (-1) (match freeP rows.length p with | none => [] | some m => intsN (memsM m))
      rw [h]
    have hpos : ∀ x ∈ intsN (memsM m), 0 ≤ bestA rows rows.length f (p ++ [x]) := fun x hx => by
      obtain ⟨c, hc, rfl⟩ := List.mem_map.1 hx
      have h4 := bounda_below ok (freeP_snoc ok.n2 h hc)
      rw [ef] at h4
      omega
    have hN := node_of hpos (by intro h0; have := congrArg List.length h0; rw [intsN_len] at this; simp at this; rw [this] at hlen; simp at hlen; omega) e
    have hN2 := node_perm (l' := (kidsA rows p).1) (fun x => by
      rw [e1]
      constructor
      · intro hx
        obtain ⟨c, hc, rfl⟩ := List.mem_map.1 hx
        exact List.mem_map.2 ⟨c, e2.mem_iff.2 hc, rfl⟩
      · intro hx
        obtain ⟨c, hc, rfl⟩ := List.mem_map.1 hx
        exact List.mem_map.2 ⟨c, e2.mem_iff.1 hc, rfl⟩) hN
    refine ⟨?_, fun n hn => ?_⟩
    · obtain ⟨n, hn, e⟩ := hN2.1
      exact ⟨n, hn, by rw [ef]; exact e⟩
    · rw [ef]; exact hN2.2 n hn
theorem krn_tour {rows : List (List Int)} {mi : Bool} (ok : RowsOk rows) (num : ∀ a b, a < rows.length → b < rows.length → 0 ≤ costAt rows a b ∧ costAt rows a b ≤ 2147483647) (sym : mi = true → ∀ a b, a < rows.length → b < rows.length → costAt rows a b = costAt rows b a) :
    KrnOk (rows.length - 1) (fun p => (kidsT rows p).1) (fun p => (boundT rows mi p).1) (fun p => ∃ s, walkP rows p = some s) (fun p => bestT rows (rows.length - 1 - p.length) p) where
  len := fun p ⟨s, h⟩ => by have := walkP_len ok.n1 ok.n2 (m := s.1) (last := s.2.1) (cost := s.2.2) h; omega
  kid := fun p ⟨s, h⟩ hlt n hn => by
    obtain ⟨l, e1, e2, _⟩ := kidsT_of (m := s.1) (last := s.2.1) (cost := s.2.2) h
    rw [e1] at hn
    obtain ⟨c, hc, rfl⟩ := List.mem_map.1 hn
    exact ⟨_, walkP_snoc ok.n1 ok.n2 (m := s.1) (last := s.2.1) (cost := s.2.2) h (e2.mem_iff.1 hc)⟩
  leaf := fun p ⟨s, h⟩ hpl => by
    obtain ⟨l, WO⟩ := walk_ok ok.n1 ok.n2 (m := s.1) (last := s.2.1) (cost := s.2.2) h
    have hwl := WO.len
    have hll : l.length = rows.length - 1 := by rw [← hpl, WO.eq, intsN_len]
    have hm0 : memsM s.1 = [] := List.eq_nil_of_length_eq_zero (by omega)
    show (boundT rows mi p).1 = _
    have e1 : bestT rows (rows.length - 1 - p.length) p = pathT rows 0 l := by
      rw [show rows.length - 1 - p.length = 0 by omega]
      show pathT rows 0 (p.map Int.toNat) = _
      rw [WO.eq, toNat_ints]
    rw [e1]
    have e2 := pathT_app rows l [] 0
    rw [List.append_nil] at e2
    unfold boundT
    rw [h, e2]
    obtain ⟨m, last, cost⟩ := s
    simp only at hm0 WO ⊢
    simp only [hm0, if_true]
    rw [WO.cost, WO.last]
    rfl
  low := fun p ⟨s, h⟩ => (boundT_below (mirror := mi) ok.n1 ok.n2 num sym (m := s.1) (last := s.2.1) (cost := s.2.2) h).2.1
  node := fun p ⟨s, h⟩ hlt => by
    have hlen := walkP_len ok.n1 ok.n2 (m := s.1) (last := s.2.1) (cost := s.2.2) h
    obtain ⟨l, e1, e2, _⟩ := kidsT_of (m := s.1) (last := s.2.1) (cost := s.2.2) h
    obtain ⟨f, hf⟩ : ∃ f, rows.length - 1 - p.length = f + 1 := ⟨rows.length - 1 - p.length - 1, by omega⟩
    have ef : ∀ c : Int, rows.length - 1 - (p ++ [c]).length = f := fun c => by simp; omega
    have e : leastF (fun x => bestT rows f (p ++ [x])) (-1) (intsN (memsM s.1)) = bestT rows (rows.length - 1 - p.length) p := by
      rw [hf]
      show _ = leastF _ (-1) (match walkP rows p with | none => [] | some (m, _, _) => intsN (memsM m))
      rw [h]
    have hpos : ∀ x ∈ intsN (memsM s.1), 0 ≤ bestT rows f (p ++ [x]) := fun x hx => by
      obtain ⟨c, hc, rfl⟩ := List.mem_map.1 hx
      have h4 := boundT_below (mirror := mi) ok.n1 ok.n2 num sym (walkP_snoc ok.n1 ok.n2 (m := s.1) (last := s.2.1) (cost := s.2.2) h hc)
      rw [ef] at h4
      omega
    have hN := node_of hpos (by intro h0; have := congrArg List.length h0; rw [intsN_len] at this; simp at this; rw [this] at hlen; simp at hlen; omega) e
    have hN2 := node_perm (l' := (kidsT rows p).1) (fun x => by
      rw [e1]
      constructor
      · intro hx
        obtain ⟨c, hc, rfl⟩ := List.mem_map.1 hx
        exact List.mem_map.2 ⟨c, e2.mem_iff.2 hc, rfl⟩
      · intro hx
        obtain ⟨c, hc, rfl⟩ := List.mem_map.1 hx
        exact List.mem_map.2 ⟨c, e2.mem_iff.1 hc, rfl⟩) hN
    refine ⟨?_, fun n hn => ?_⟩
    · obtain ⟨n, hn, e⟩ := hN2.1
      exact ⟨n, hn, by rw [ef]; exact e⟩
    · rw [ef]; exact hN2.2 n hn
end Go.Proofs.Ytpapkofildcdiaa
namespace Go.Proofs.Ytpapkofildcdiaa

/-! an item is put in behind all that stand ahead of it -/
def posC (lt : Nat → Nat → Bool) (n : Nat) (l : List Nat) : Nat → Nat
  | 0 => 0
  | k + 1 => if lt n (l.getD k 0) = true then posC lt n l k else k + 1
def putC (n : Nat) (l : List Nat) (k : Nat) : List Nat := l.take k ++ n :: l.drop k
def insC (lt : Nat → Nat → Bool) (n : Nat) (l : List Nat) : List Nat := putC n l (posC lt n l l.length)
def ordC (lt : Nat → Nat → Bool) : Nat → List Nat
  | 0 => []
  | n + 1 => insC lt n (ordC lt n)
theorem posC_le (lt : Nat → Nat → Bool) (n : Nat) (l : List Nat) : ∀ k, posC lt n l k ≤ k
  | 0 => Nat.le_refl _
  | k + 1 => by
    unfold posC
    split
    · have := posC_le lt n l k; omega
    · exact Nat.le_refl _
theorem posC_back {lt : Nat → Nat → Bool} {n : Nat} {l : List Nat} : ∀ k j, posC lt n l k ≤ j → j < k → lt n (l.getD j 0) = true
  | 0, j, _, h => by omega
  | k + 1, j, h1, h2 => by
    unfold posC at h1
    split at h1
    · rename_i h
      by_cases hj : j = k
      · subst hj; exact h
      · exact posC_back k j h1 (by omega)
    · omega
theorem posC_at {lt : Nat → Nat → Bool} {n : Nat} {l : List Nat} : ∀ k, 0 < posC lt n l k → lt n (l.getD (posC lt n l k - 1) 0) = false
  | 0, h => by simp [posC] at h
  | k + 1, h => by
    unfold posC at h ⊢
    split
    · rename_i h1
      rw [if_pos h1] at h
      exact posC_at k h
    · rename_i h1
      simpa using h1
theorem putC_perm (n : Nat) (l : List Nat) (k : Nat) : (putC n l k).Perm (n :: l) := by
  unfold putC
  refine List.perm_middle.trans ?_
  rw [List.take_append_drop]
theorem insC_perm (lt : Nat → Nat → Bool) (n : Nat) (l : List Nat) : (insC lt n l).Perm (n :: l) := putC_perm _ _ _
theorem ordC_perm (lt : Nat → Nat → Bool) : ∀ n, (ordC lt n).Perm (List.range n)
  | 0 => List.Perm.refl _
  | n + 1 => by
    refine (insC_perm lt n _).trans ?_
    rw [List.range_succ]
    exact ((ordC_perm lt n).cons n).trans (List.perm_append_comm (l₁ := [n]) (l₂ := List.range n))
theorem ordC_len (lt : Nat → Nat → Bool) (n : Nat) : (ordC lt n).length = n := by rw [(ordC_perm lt n).length_eq, List.length_range]
theorem insC_sorted {lt : Nat → Nat → Bool} (h : Weak lt) {n : Nat} {l : List Nat} (hs : l.Pairwise (strictly lt)) (hn : ∀ x ∈ l, x < n) : (insC lt n l).Pairwise (strictly lt) := by
  have hk := posC_le lt n l l.length
  unfold insC putC
  have front : ∀ x ∈ l.take (posC lt n l l.length), strictly lt x n := fun x hx => by
    obtain ⟨j, hj, rfl⟩ := List.getElem_of_mem hx
    rw [List.length_take] at hj
    rw [List.getElem_take]
    have hp : 0 < posC lt n l l.length := by omega
    have hat := posC_at l.length hp
    have hq : posC lt n l l.length - 1 < l.length := by omega
    rw [List.getD, List.getElem?_eq_getElem hq] at hat
    simp only [Option.getD_some] at hat
    refine .inr ⟨?_, hn _ (List.getElem_mem _)⟩
    by_cases hj2 : j = posC lt n l l.length - 1
    · subst hj2; exact hat
    · have hst := List.pairwise_iff_getElem.1 hs j (posC lt n l l.length - 1) (by omega) hq (by omega)
      cases hc : lt n l[j] with
      | false => rfl
      | true =>
        rcases h.neg n (l[posC lt n l l.length - 1]) _ hc with h3 | h3
        · rw [hat] at h3; cases h3
        · have := strictly.le h hst
          rw [this] at h3; cases h3
  have back : ∀ x ∈ l.drop (posC lt n l l.length), strictly lt n x := fun x hx => by
    obtain ⟨j, hj, rfl⟩ := List.getElem_of_mem hx
    rw [List.length_drop] at hj
    rw [List.getElem_drop]
    have hb := posC_back (lt := lt) (n := n) (l := l) l.length (posC lt n l l.length + j) (by omega) (by omega)
    rw [List.getD, List.getElem?_eq_getElem (show posC lt n l l.length + j < l.length by omega)] at hb
    exact .inl hb
  rw [List.pairwise_append]
  refine ⟨hs.sublist (List.take_sublist _ _), List.pairwise_cons.2 ⟨back, hs.sublist (List.drop_sublist _ _)⟩, fun x hx y hy => ?_⟩
  rcases List.mem_cons.1 hy with rfl | hy
  · exact front x hx
  · exact h.trans (front x hx) (back y hy)
theorem ordC_sorted {lt : Nat → Nat → Bool} (h : Weak lt) : ∀ n, (ordC lt n).Pairwise (strictly lt)
  | 0 => List.Pairwise.nil
  | n + 1 => insC_sorted h (ordC_sorted h n) fun _ hx => List.mem_range.1 ((ordC_perm lt n).mem_iff.1 hx)
/-- it is the order of the problem -/
theorem ordC_ratio {v w : List Int} (hw : ∀ x ∈ w, 0 ≤ x) : ordC (aheadB v w) v.length = ratioP v w :=
  List.Perm.eq_of_pairwise (le := strictly (aheadB v w)) (fun _ _ _ _ h3 h4 => absurd h4 ((aheadB_weak hw).asymm h3)) (ordC_sorted (aheadB_weak hw) _) (ratioP_sorted hw) ((ordC_perm _ _).trans (ratioP_perm v w).symm)
/-! what the rest of a knapsack leaves out, at least -/
def tailC (room : Int) : List Int → List Int → Int
  | w :: ws, v :: vs => if w ≤ room then tailC (room - w) ws vs else v + sumL vs - v * room / w
  | _, _ => 0
theorem tailC_eq : ∀ (ws vs : List Int) (room : Int), ws.length = vs.length → tailC room ws vs = sumL vs - bringsP room ws vs
  | [], [], _, _ => by simp [tailC, bringsP, sumL]
  | [], _ :: _, _, h => by simp at h
  | _ :: _, [], _, h => by simp at h
  | w :: ws, v :: vs, room, h => by
    have ih := tailC_eq ws vs (room - w) (by simpa using h)
    unfold tailC bringsP
    by_cases hw : w ≤ room
    · rw [if_pos hw, if_neg (by omega), ih]
      simp only [sumL]
      omega
    · rw [if_neg hw, if_pos (by omega)]
      rfl
/-- the room that a beginning leaves, and what it leaves out -/
def roomC (cap : Int) : List Int → List Int → Int
  | w :: ws, x :: p => roomC (cap - x * w) ws p
  | _, _ => cap
def outC (out : Int) : List Int → List Int → Int
  | v :: vs, x :: p => outC (out + (1 - x) * v) vs p
  | _, _ => out
theorem st_roomC : ∀ {p ws vs : List Int} {room out r o : Int}, stP room out ws vs p = some (r, o) → roomC room ws p = r ∧ outC out vs p = o
  | [], ws, vs, room, out, r, o, h => by
    have h' : some (room, out) = some (r, o) := by cases ws <;> cases vs <;> exact h
    injection h' with h'
    injection h' with h1 h2
    subst h1 h2
    exact ⟨by cases ws <;> rfl, by cases vs <;> rfl⟩
  | x :: p, [], vs, room, out, r, o, h => by cases vs <;> simp [stP] at h
  | x :: p, w :: ws, [], room, out, r, o, h => by simp [stP] at h
  | x :: p, w :: ws, v :: vs, room, out, r, o, h => by
    unfold stP at h
    unfold roomC outC
    by_cases h1 : x = 1
    · subst h1
      rw [if_pos rfl] at h
      split at h
      · cases h
      · have := st_roomC h
        simpa using this
    · rw [if_neg h1] at h
      by_cases h0 : x = 0
      · subst h0
        rw [if_pos rfl] at h
        split at h
        · cases h
        · have := st_roomC h
          simpa using this
      · rw [if_neg h0] at h; cases h
theorem bound_knapC {cap : Int} {ws vs p : List Int} {r o : Int} (hl : ws.length = vs.length) (h : stP cap 0 ws vs p = some (r, o)) : (boundP cap ws vs p).1 = outC 0 vs p + tailC (roomC cap ws p) (ws.drop p.length) (vs.drop p.length) := by
  obtain ⟨h1, h2⟩ := st_roomC h
  unfold boundP
  rw [h, h1, h2, tailC_eq _ _ _ (by simp [hl])]
  simp only
  omega
/-! rows and columns -/
theorem leastG_L : ∀ (l : List Int) (b : Int), (∀ x ∈ l, 0 ≤ x) → leastG b l = leastL b l
  | [], b, _ => rfl
  | x :: l, b, h => by
    have hx := h x (by simp)
    unfold leastG leastL
    rw [leastG_L l _ fun y hy => h y (by simp [hy])]
    congr 1
    by_cases h1 : b < 0
    · simp [h1, hx]
    · by_cases h2 : x < b
      · simp [h1, h2, hx]
      · simp [h1, h2, hx]
theorem colG_F : ∀ (rows : List (List Int)) (off : List Int) (c : Nat) (b : Int), (∀ row ∈ rows, 0 ≤ row.getD c 0) → colG c b rows off = colF c b rows off
  | [], off, c, b, _ => by cases off <;> rfl
  | _ :: _, [], c, b, _ => rfl
  | row :: rows, o :: off, c, b, h => by
    have hx := h row (by simp)
    unfold colG colF
    rw [colG_F rows off c _ fun y hy => h y (by simp [hy])]
    congr 1
    by_cases h1 : b < 0
    · rw [if_pos ⟨hx, .inl h1⟩, if_pos h1]
    · by_cases h2 : row.getD c 0 - o < b
      · rw [if_pos ⟨hx, .inr h2⟩, if_neg h1, if_pos h2]
      · rw [if_neg (by omega), if_neg h1, if_neg h2]
theorem getD_mem {row : List Int} {c : Nat} (h : c < row.length) : row.getD c 0 ∈ row := by
  rw [List.getD, List.getElem?_eq_getElem h]
  exact List.getElem_mem h
theorem reduceG_P {ms : List (List Int)} {L : Nat} {B : Int} (h0 : 0 < L) (hm : ms ≠ []) (hl : ∀ row ∈ ms, row.length = L) (num : ∀ row ∈ ms, ∀ x ∈ row, 0 ≤ x ∧ x ≤ B) : rreduceG ms L = rreduceP ms L := by
  have hne : ∀ row ∈ ms, row ≠ [] := fun row hr e => by have := hl row hr; rw [e] at this; simp at this; omega
  have hB : 0 ≤ B := by
    obtain ⟨row, hr⟩ := List.exists_mem_of_ne_nil ms hm
    obtain ⟨x, hx⟩ := List.exists_mem_of_ne_nil row (hne row hr)
    have := num row hr x hx
    omega
  have e1 : offG ms = offs ms := by
    unfold offG offs
    refine List.map_congr_left fun row hr => ?_
    rw [leastG_L row (-1) fun x hx => (num row hr x hx).1]
    have := (leastL_bd (b := -1) (num row hr) (by omega) (.inr (hne row hr))).1
    omega
  have e2 : rcolG ms L = rcols ms L := by
    unfold rcolG rcols
    refine List.map_congr_left fun c hc => ?_
    have hcL := List.mem_range.1 hc
    rw [e1, colG_F ms _ c (-1) fun row hr => (num row hr _ (getD_mem (by rw [hl row hr]; exact hcL))).1]
    have := (colF_pos (c := c) (B := B) (rows := ms) (off := offs ms) (b := -1) (fun k x o hx ho => by
      unfold offs at ho
      rw [List.getElem?_map, hx] at ho
      have ho := Option.some.inj ho
      have hr := List.mem_of_getElem? hx
      have g1 := (leastL_le (b := -1) fun y hy => (num x hr y hy).1).1 _ (getD_mem (c := c) (by rw [hl x hr]; exact hcL))
      have g2 := leastL_bd (b := -1) (num x hr) (by omega) (.inr (hne x hr))
      have g3 := num x hr _ (getD_mem (c := c) (by rw [hl x hr]; exact hcL))
      rw [← ho]
      omega) (by simp [offs]) (by omega) (.inr hm)).1
    omega
  unfold rreduceG rreduceP
  rw [e1, e2]
theorem reduceG_sub {rows : List (List Int)} {l : List Nat} {B : Int} (hm : rows ≠ []) (hl : l ≠ []) (num : ∀ row ∈ rows, ∀ c ∈ l, 0 ≤ row.getD c 0 ∧ row.getD c 0 ≤ B) : rreduceG (rows.map fun row => l.map fun c => row.getD c 0) l.length = reduceP rows l := by
  rw [reduceG_P (B := B) (by cases l with
    | nil => exact absurd rfl hl
    | cons a l => simp) (by simpa using hm) (fun row hr => by
      obtain ⟨r, _, rfl⟩ := List.mem_map.1 hr
      simp) (fun row hr x hx => by
      obtain ⟨r, h1, rfl⟩ := List.mem_map.1 hr
      obtain ⟨c, h2, rfl⟩ := List.mem_map.1 hx
      exact num r h1 c h2), rreduce_eq]
/-! what meets at each city -/
def meetC (rows : List (List Int)) (us : List Nat) (last : Nat) (q : List Nat) (st : Int × Int × Int) : Int × Int × Int :=
  q.foldl (fun st u => (st.1 + ((pairT rows us last u).1 + (pairT rows us last u).2), min st.2.1 (costAt rows last u), min st.2.2 (costAt rows u 0))) st
theorem meet_sum (rows : List (List Int)) (us : List Nat) (last : Nat) : ∀ (q : List Nat) (a b c : Int), 0 ≤ b → 0 ≤ c → (∀ u ∈ q, 0 ≤ costAt rows last u ∧ 0 ≤ costAt rows u 0) →
    meetC rows us last q (a, b, c) = (a + sumL (q.map fun u => (pairT rows us last u).1 + (pairT rows us last u).2), leastN (fun u => costAt rows last u) b q, leastN (fun u => costAt rows u 0) c q)
  | [], a, b, c, _, _, _ => by simp [meetC, sumL, leastN]
  | u :: q, a, b, c, hb, hc, h => by
    have hu := h u (by simp)
    have ih := meet_sum rows us last q (a + ((pairT rows us last u).1 + (pairT rows us last u).2)) (min b (costAt rows last u)) (min c (costAt rows u 0)) (by omega) (by omega) fun v hv => h v (by simp [hv])
    have e : meetC rows us last (u :: q) (a, b, c) = meetC rows us last q (a + ((pairT rows us last u).1 + (pairT rows us last u).2), min b (costAt rows last u), min c (costAt rows u 0)) := rfl
    have s1 : ∀ (f : Nat → Int) (d : Int), 0 ≤ d → leastN f d (u :: q) = leastN f (min d (f u)) q := fun f d hd => by
      have e : leastN f d (u :: q) = leastN f (if d < 0 then f u else if f u < d then f u else d) q := rfl
      rw [e]
      congr 1
      rw [if_neg (by omega)]
      split <;> omega
    rw [e, ih, s1 _ _ hb, s1 _ _ hc, List.map_cons, sumL]
    congr 1
    omega
end Go.Proofs.Ytpapkofildcdiaa
namespace Go.Proofs.Ytpapkofildcdiaa
open Go.RowKit Go.ChangeShapes Go.WideShapes Go.ChangeAt Go.Deep

def orderP (i : InstP) : List Nat := ratioP i.value i.weight
def wsP (i : InstP) : List Int := inOrder (orderP i) i.weight
def vsP (i : InstP) : List Int := inOrder (orderP i) i.value
theorem orderP_len {i : InstP} (ok : KnapOk i) : ((orderP i).length : Int) = i.n := by unfold orderP; rw [ratioP_len]; exact ok.v
theorem small_inOrder {l : List Nat} {v : List Int} (h : Small31 v) : Small31 (inOrder l v) := by
  intro x hx
  obtain ⟨q, hq, rfl⟩ := List.mem_map.1 hx
  cases hv : v[q]? with
  | none => simp [List.getD, hv]
  | some y => rw [getD_some hv]; exact h.get hv
end Go.Proofs.Ytpapkofildcdiaa
namespace Go.Proofs.Ytpapkofildcdiaa

theorem KrnOk.perm {D : Nat} {kids kids' : List Int → List Int} {bound : List Int → Int} {okp : List Int → Prop} {bx : List Int → Int} (h : KrnOk D kids bound okp bx) (hk : ∀ p, okp p → p.length < D → ∀ n, n ∈ kids p ↔ n ∈ kids' p) : KrnOk D kids' bound okp bx where
  len := h.len
  kid := fun p ho hl n hn => h.kid p ho hl n ((hk p ho hl n).2 hn)
  leaf := h.leaf
  low := h.low
  node := fun p ho hl => node_perm (hk p ho hl) (h.node p ho hl)
def depthI (i : InstP) : Nat := if i.kind = 3 then i.n.toNat - 1 else i.n.toNat
def kidsK (cap : Int) (ws p : List Int) : List Int := match ws.drop p.length with
  | [] => []
  | w :: _ => if w ≤ roomC cap ws p then [0, 1] else [0]
/-- the numbers from some on that aren't in a list -/
def absL (a n : Nat) (p : List Int) : List Int := intsN ((List.range n).filter fun c => decide (a ≤ c) && !p.contains (c : Int))
def kidsI (i : InstP) (p : List Int) : List Int := if i.kind = 1 then kidsK i.cap (wsP i) p else absL (if i.kind = 2 then 0 else 1) i.cost.length p
def boundI (i : InstP) (p : List Int) : Int := if i.kind = 1 then (boundP i.cap (wsP i) (vsP i) p).1 else if i.kind = 2 then (boundA i.cost p).1 else (boundT i.cost (mirP i.cost) p).1
def okI (i : InstP) (p : List Int) : Prop := if i.kind = 1 then ∃ q, stP i.cap 0 (wsP i) (vsP i) p = some q else if i.kind = 2 then ∃ m, freeP i.cost.length p = some m else ∃ s, walkP i.cost p = some s
def bxI (i : InstP) (p : List Int) : Int := if i.kind = 1 then bestAt i.cap (wsP i) (vsP i) p else if i.kind = 2 then bestA i.cost i.cost.length (i.cost.length - p.length) p else bestT i.cost (i.cost.length - 1 - p.length) p
theorem contains_ints {l : List Nat} {c : Nat} : (intsN l).contains (c : Int) = true ↔ c ∈ l := by
  rw [List.contains_iff_mem]
  unfold intsN
  rw [List.mem_map]
  constructor
  · rintro ⟨d, hd, e⟩
    have : d = c := by omega
    exact this ▸ hd
  · exact fun h => ⟨c, h, rfl⟩
theorem absL_mems {n : Nat} {p : List Int} {l : List Nat} {m a : Nat} (hp : p = intsN l) (hm : ∀ x, x ∈ memsM m ↔ (x < n ∧ a ≤ x) ∧ x ∉ l) : absL a n p = intsN (memsM m) := by
  unfold absL
  congr 1
  refine List.Perm.eq_of_pairwise (le := (· < ·)) (fun a b _ _ h1 h2 => by omega) (List.Pairwise.filter _ List.pairwise_lt_range) (memsM_sorted m) ?_
  refine (List.perm_ext_iff_of_nodup ((List.Pairwise.filter _ List.pairwise_lt_range).imp fun h => Nat.ne_of_lt h) ((memsM_sorted m).imp fun h => Nat.ne_of_lt h)).2 fun c => ?_
  rw [hm c, List.mem_filter, List.mem_range, Bool.and_eq_true, decide_eq_true_eq, Bool.not_eq_true', hp]
  have := contains_ints (l := l) (c := c)
  constructor
  · rintro ⟨h1, h2, h3⟩
    exact ⟨⟨h1, h2⟩, fun h => by rw [this.2 h] at h3; cases h3⟩
  · rintro ⟨⟨h1, h2⟩, h3⟩
    refine ⟨h1, h2, ?_⟩
    cases h4 : (intsN l).contains (c : Int) with
    | false => rfl
    | true => exact absurd (this.1 h4) h3
theorem abs_assign {n : Nat} (h24 : n ≤ 24) {p : List Int} {m : Nat} (h : freeP n p = some m) : absL 0 n p = intsN (memsM m) := by
  obtain ⟨l, e1, _, _, e4⟩ := freeP_cols h24 h
  exact absL_mems e1 fun x => by rw [e4 x]; simp
theorem abs_tour {rows : List (List Int)} (h1 : 1 ≤ rows.length) (h24 : rows.length ≤ 24) {p : List Int} {m last : Nat} {cost : Int} (h : walkP rows p = some (m, last, cost)) : absL 1 rows.length p = intsN (memsM m) := by
  obtain ⟨l, W⟩ := walk_ok h1 h24 h
  exact absL_mems W.eq fun x => by
    rw [W.rest x]
    constructor
    · rintro ⟨⟨h1, h2⟩, h3⟩; exact ⟨⟨h1, by omega⟩, h3⟩
    · rintro ⟨⟨h1, h2⟩, h3⟩; exact ⟨⟨h1, by omega⟩, h3⟩
theorem kidsK_P {cap : Int} {ws vs p : List Int} {r o : Int} (h : stP cap 0 ws vs p = some (r, o)) (n : Int) : n ∈ (kidsP cap ws vs p).1 ↔ n ∈ kidsK cap ws p := by
  have e := (st_roomC h).1
  unfold kidsP kidsK
  rw [h, e]
  simp only
  cases ws.drop p.length with
  | nil => simp
  | cons w t =>
    simp only
    split <;> simp [or_comm]
theorem knap_facts {i : InstP} (ok : KnapOk i) : (wsP i).length = (vsP i).length ∧ ((wsP i).length : Int) = i.n ∧ (∀ x ∈ wsP i, 0 ≤ x) ∧ (∀ x ∈ vsP i, 0 ≤ x ∧ x ≤ 2147483647) ∧ Falls (wsP i) (vsP i) := by
  have sw := ok.sw
  have sv := ok.sv
  have hw : ∀ x ∈ i.weight, 0 ≤ x := fun x hx => (sw x hx).1
  have hv : ∀ x ∈ i.value, 0 ≤ x := fun x hx => (sv x hx).1
  have l1 : (wsP i).length = (orderP i).length := inOrder_len _ _
  have l2 : (vsP i).length = (orderP i).length := inOrder_len _ _
  have lo := orderP_len ok
  refine ⟨by omega, by omega, fun x hx => (small_inOrder sw x hx).1, fun x hx => small_inOrder sv x hx, ?_⟩
  exact falls_of hv hw (ratioP_sorted hw)
theorem num_of {rows : List (List Int)} (ok : RowsOk rows) (a b : Nat) (ha : a < rows.length) (hb : b < rows.length) : 0 ≤ costAt rows a b ∧ costAt rows a b ≤ 2147483647 := by
  unfold costAt
  have e : rows.getD a [] = rows[a] := by simp [List.getD, List.getElem?_eq_getElem ha]
  rw [e]
  exact ok.get (List.getElem_mem ha) hb
theorem okI_nil {i : InstP} (hc : checkP i = 0) : okI i [] := by
  unfold okI
  rcases check_kind hc with h | h | h
  · rw [if_pos h]
    exact ⟨(i.cap, 0), by cases wsP i <;> cases vsP i <;> rfl⟩
  · rw [if_neg (by omega), if_pos h]
    exact ⟨_, freeP_root⟩
  · rw [if_neg (by omega), if_neg (by omega)]
    exact ⟨_, walkP_root⟩
theorem krn_inst {i : InstP} (hc : checkP i = 0) : KrnOk (depthI i) (kidsI i) (boundI i) (okI i) (bxI i) := by
  rcases check_kind hc with h | h | h
  · have ok := knap_ok hc h
    obtain ⟨f1, f2, f3, f4, f5⟩ := knap_facts ok
    have K := (krn_knap ok.cap.1 f3 f4 f1 f5).perm (kids' := kidsK i.cap (wsP i)) fun p ⟨⟨r, o⟩, hp⟩ _ n => kidsK_P hp n
    have hd : depthI i = (wsP i).length := by unfold depthI; rw [if_neg (by omega)]; omega
    have e1 : kidsI i = kidsK i.cap (wsP i) := by funext p; unfold kidsI; rw [if_pos h]
    have e2 : boundI i = fun p => (boundP i.cap (wsP i) (vsP i) p).1 := by funext p; unfold boundI; rw [if_pos h]
    have e3 : okI i = fun p => ∃ q, stP i.cap 0 (wsP i) (vsP i) p = some q := by funext p; unfold okI; rw [if_pos h]
    have e4 : bxI i = bestAt i.cap (wsP i) (vsP i) := by funext p; unfold bxI; rw [if_pos h]
    rw [hd, e1, e2, e3, e4]
    exact K
  · have sq := square_ok hc (by omega)
    have rok := rows_ok sq
    have K := (krn_assign rok).perm (kids' := absL 0 i.cost.length) fun p ⟨m, hp⟩ _ n => by
      obtain ⟨l, e1, e2, _⟩ := kidsA_of hp
      rw [e1, abs_assign rok.n2 hp]
      unfold intsN
      rw [List.mem_map, List.mem_map]
      exact ⟨fun ⟨c, hc, e⟩ => ⟨c, e2.mem_iff.1 hc, e⟩, fun ⟨c, hc, e⟩ => ⟨c, e2.mem_iff.2 hc, e⟩⟩
    have hd : depthI i = i.cost.length := by unfold depthI; rw [if_neg (by omega)]; have := sq.len; omega
    have e1 : kidsI i = absL 0 i.cost.length := by funext p; unfold kidsI; rw [if_neg (by omega), if_pos h]
    have e2 : boundI i = fun p => (boundA i.cost p).1 := by funext p; unfold boundI; rw [if_neg (by omega), if_pos h]
    have e3 : okI i = fun p => ∃ m, freeP i.cost.length p = some m := by funext p; unfold okI; rw [if_neg (by omega), if_pos h]
    have e4 : bxI i = fun p => bestA i.cost i.cost.length (i.cost.length - p.length) p := by funext p; unfold bxI; rw [if_neg (by omega), if_pos h]
    rw [hd, e1, e2, e3, e4]
    exact K
  · have sq := square_ok hc (by omega)
    have rok := rows_ok sq
    have K := (krn_tour (mi := mirP i.cost) rok (num_of rok) (fun h => mirP_sym h)).perm (kids' := absL 1 i.cost.length) fun p ⟨⟨m, last, cost⟩, hp⟩ _ n => by
      obtain ⟨l, e1, e2, _⟩ := kidsT_of hp
      rw [e1, abs_tour rok.n1 rok.n2 hp]
      unfold intsN
      rw [List.mem_map, List.mem_map]
      exact ⟨fun ⟨c, hc, e⟩ => ⟨c, e2.mem_iff.1 hc, e⟩, fun ⟨c, hc, e⟩ => ⟨c, e2.mem_iff.2 hc, e⟩⟩
    have hd : depthI i = i.cost.length - 1 := by unfold depthI; rw [if_pos h]; have := sq.len; omega
    have e1 : kidsI i = absL 1 i.cost.length := by funext p; unfold kidsI; rw [if_neg (by omega), if_neg (by omega)]
    have e2 : boundI i = fun p => (boundT i.cost (mirP i.cost) p).1 := by funext p; unfold boundI; rw [if_neg (by omega), if_neg (by omega)]
    have e3 : okI i = fun p => ∃ s, walkP i.cost p = some s := by funext p; unfold okI; rw [if_neg (by omega), if_neg (by omega)]
    have e4 : bxI i = fun p => bestT i.cost (i.cost.length - 1 - p.length) p := by funext p; unfold bxI; rw [if_neg (by omega), if_neg (by omega)]
    rw [hd, e1, e2, e3, e4]
    exact K
end Go.Proofs.Ytpapkofildcdiaa
namespace Go.Proofs.Ytpapkofildcdiaa

section
variable (D : Nat) (kids : List Int → List Int) (bound : List Int → Int) (cost : Int)
end
section
variable {D : Nat} {kids : List Int → List Int} {bound : List Int → Int} {cost : Int} {okp : List Int → Prop}
end
/-- how many kids there are -/
theorem kidsI_len {i : InstP} (hc : checkP i = 0) (p : List Int) (ho : okI i p) (hl : p.length < depthI i) : (kidsI i p).length ≤ if i.kind = 1 then 2 else depthI i - p.length := by
  unfold okI at ho
  rcases check_kind hc with h | h | h
  · rw [if_pos h]
    unfold kidsI kidsK
    rw [if_pos h]
    split
    · simp
    · split <;> simp
  · have sq := square_ok hc (by omega)
    have rok := rows_ok sq
    rw [if_neg (by omega), if_pos h] at ho
    obtain ⟨m, hm⟩ := ho
    have h1 := freeP_len rok.n2 hm
    have hd : depthI i = i.cost.length := by unfold depthI; rw [if_neg (by omega)]; have := sq.len; omega
    have e : kidsI i p = intsN (memsM m) := by unfold kidsI; rw [if_neg (by omega), if_pos h, abs_assign rok.n2 hm]
    rw [if_neg (show ¬ i.kind = 1 by omega), e, intsN_len]
    omega
  · have sq := square_ok hc (by omega)
    have rok := rows_ok sq
    rw [if_neg (by omega), if_neg (by omega)] at ho
    obtain ⟨⟨m, last, cost⟩, hm⟩ := ho
    have h1 := walkP_len rok.n1 rok.n2 hm
    have hd : depthI i = i.cost.length - 1 := by unfold depthI; rw [if_pos h]; have := sq.len; omega
    have e : kidsI i p = intsN (memsM m) := by unfold kidsI; rw [if_neg (by omega), if_neg (by omega), abs_tour rok.n1 rok.n2 hm]
    rw [if_neg (show ¬ i.kind = 1 by omega), e, intsN_len]
    omega
end Go.Proofs.Ytpapkofildcdiaa
namespace Go.Proofs.Ytpapkofildcdiaa
open Go.RowKit Go.ChangeShapes Go.WideShapes Go.ChangeAt Go.Deep

/-- each of 0 to n - 1, once? -/
def permB (x : List Int) (n : Nat) : Bool := decide (x.length = n ∧ ∀ k, k < n → x.count (k : Int) = 1)
set_option maxRecDepth 100000 in
set_option maxHeartbeats 2000000 in
theorem perm_gen (P : Option Addr) (c n : Nat) (x : List Int) (w : World) (hP : RdI w P x) (hn : n ≤ 1000) :
    Calls Try.prog 26 #[.slice P x.length c, .int .i64 n] w fun e w' => e = .returned (.bool (permB x n)) ∧ Ext w w' := by
  by_cases hl : x.length = n
  · have PB : Hid (∀ b : Bool, (b = true ↔ ∀ k, k < n → x.count (k : Int) = 1) → permB x n = b) := fun b h => by
      unfold permB
      rw [Bool.eq_iff_iff, decide_eq_true_iff, h]
      exact ⟨fun h => h.2, fun h => ⟨hl, h⟩⟩
    have ne0 : ((n : Int) != (n : Int)) = false := by simp
    generalize permB x n = pb at *
    have hlen : Hid (x.length = n) := by
      have h : x.length = n := hl
      exact h
    rw [hl]
    clear hl
    replace hP := Lib.hid hP
    go_enter Try.func26, Try.ntmps26
    go_wp2_with (fail)
    go_loopw [5] (fun v wr => ∃ k : Nat, v = .int .i64 k ∧ k ≤ n ∧ Hid (∀ k', k' < k → x.count (k' : Int) = 1) ∧ Hid (Ext w wr)) (fun v _ => n - (intOf v).toNat)
    case atStart => exact ⟨0, rfl, by omega, fun k' h => by omega, Ext.rf _⟩
    case round =>
      obtain ⟨wo, rfl⟩ : ∃ wo : World, wo = wr := ⟨_, rfl⟩
      obtain ⟨k, rfl, hk, HK, Y⟩ := hrel
      by_cases hkn : k < n
      · have q1 : (k : Int) < (n : Int) := by omega
        go_wp2_with (fail)
        go_loopw [7, 6] (fun v fv wr => ∃ j : Nat, v = .int .i64 j ∧ fv = .int .i64 ((x.take j).count (k : Int) : Nat) ∧ j ≤ n ∧ Hid (Ext w wr)) (fun v _ _ => n - (intOf v).toNat)
        case atStart => exact ⟨0, rfl, by rw [List.take_zero, List.count_nil]; rfl, by omega, Y⟩
        case round =>
          obtain ⟨wi, rfl⟩ : ∃ wi : World, wi = wr := ⟨_, rfl⟩
          obtain ⟨j, rfl, rfl, hj, YI⟩ := hrel
          have hcl := List.count_le_length (a := (k : Int)) (l := x.take j)
          rw [List.length_take] at hcl
          by_cases hjn : j < n
          · have q2 : (j : Int) < (n : Int) := by omega
            obtain ⟨pb', po, y, rfl, _, cx, ey, _⟩ := (hP.out.ext YI.out).at (k := j) (by rw [hlen.out]; exact hjn)
            have HC : Hid ((x.take (j + 1)).count (k : Int) = (x.take j).count (k : Int) + if y = (k : Int) then 1 else 0) := by
              have h : (x.take (j + 1)).count (k : Int) = (x.take j).count (k : Int) + if y = (k : Int) then 1 else 0 := by
                rw [List.take_add_one, ey.out, List.count_append]
                simp [List.count_cons]
              exact h
            clear ey
            generalize (x.take j).count (k : Int) = cn at *
            by_cases hyk : y = (k : Int)
            · subst hyk
              rw [if_pos rfl] at HC
              go_wp2_with (fail)
              go_roundw
              case rel => exact ⟨j + 1, by go_num, by rw [HC.out]; go_num, by omega, YI⟩
              case measure => simp [intOf]; omega
            · have HC2 : Hid ((x.take (j + 1)).count (k : Int) = cn) := by
                have h := HC.out
                rw [if_neg hyk] at h
                exact h
              clear HC
              have t2 : (y == (k : Int)) = false := by rw [beq_eq_false_iff_ne]; exact hyk
              go_wp2_with (fail)
              go_roundw
              case rel => exact ⟨j + 1, by go_num, by rw [HC2.out], by omega, YI⟩
              case measure => simp [intOf]; omega
          · have q2 : ¬ (j : Int) < (n : Int) := by omega
            have e1 : x.take j = x := List.take_of_length_le (by rw [hlen.out]; omega)
            rw [e1]
            clear e1 hcl
            by_cases hc1 : x.count (k : Int) = 1
            · have HK2 : Hid (∀ k', k' < k + 1 → x.count (k' : Int) = 1) := fun k' h => by
                by_cases e : k' = k
                · subst e; exact hc1
                · exact HK.out k' (by omega)
              rw [hc1]
              clear hc1
              go_wp2_with (fail)
              go_roundw
              case rel => exact ⟨k + 1, by go_num, by omega, HK2, YI⟩
              case measure => simp [intOf]; omega
            · have R := PB.out false (by
                constructor
                · intro h; cases h
                · intro h; exact absurd (h k hkn) hc1)
              have t3 : (((x.count (k : Int) : Nat) : Int) != 1) = true := by
                rw [bne_iff_ne]
                omega
              replace hc1 := Lib.hid hc1
              generalize x.count (k : Int) = cn at *
              go_wp2_with (fail)
              go_ret
              exact ⟨by first | rfl | (rw [R]; rfl), YI.out⟩
      · have q1 : ¬ (k : Int) < (n : Int) := by omega
        have R := PB.out true ⟨fun _ k' h => HK.out k' (by omega), fun _ => rfl⟩
        go_wp2_with (fail)
        go_ret
        exact ⟨by first | rfl | (rw [R]; rfl), Y.out⟩
  · have PB : permB x n = false := by
      unfold permB
      exact decide_eq_false fun h => hl h.1
    have ne0 : ((x.length : Int) != (n : Int)) = true := by rw [bne_iff_ne]; omega
    rw [PB]
    replace hl := Lib.hid hl
    go_enter Try.func26, Try.ntmps26
    go_wp2_with (fail)
    go_ret
    exact ⟨rfl, by (repeat (first | assumption | exact Ext.rf _ | apply Ext.drew | apply Ext.drewN | apply Ext.alloc))⟩
theorem perm_of_sub : ∀ {r x : List Int}, r.Nodup → (∀ y ∈ r, y ∈ x) → r.length = x.length → r.Perm x
  | [], x, _, _, hl => by rw [List.eq_nil_of_length_eq_zero hl.symm]
  | a :: r, x, hd, hs, hl => by
    obtain ⟨h1, h2⟩ := List.nodup_cons.1 hd
    have ha : a ∈ x := hs a (by simp)
    have hp := List.perm_cons_erase ha
    have ih := perm_of_sub (r := r) (x := x.erase a) h2 (fun y hy => by
      have hne : y ≠ a := fun e => h1 (e ▸ hy)
      exact (List.mem_erase_of_ne hne).2 (hs y (by simp [hy]))) (by
      have := hp.length_eq
      simp only [List.length_cons] at this hl
      omega)
    exact (ih.cons a).trans hp.symm
theorem count_one_i {k : Int} : ∀ {l : List Int}, l.Nodup → k ∈ l → l.count k = 1
  | [], _, h => by cases h
  | x :: l, hd, h => by
    have hd' := List.nodup_cons.1 hd
    by_cases e : x = k
    · subst e
      rw [List.count_cons_self, List.count_eq_zero.2 hd'.1]
    · rw [List.count_cons_of_ne e]
      rcases List.mem_cons.1 h with h | h
      · exact absurd h.symm e
      · exact count_one_i hd'.2 h
theorem permB_iff {x : List Int} {n : Nat} : permB x n = true ↔ ∃ l : List Nat, x = intsN l ∧ l.Perm (List.range n) := by
  unfold permB
  rw [decide_eq_true_iff]
  constructor
  · rintro ⟨h1, h2⟩
    have hsub : intsN (List.range n) ⊆ x := fun y hy => by
      obtain ⟨k, hk, rfl⟩ := List.mem_map.1 hy
      have := h2 k (List.mem_range.1 hk)
      exact List.count_pos_iff.1 (by omega)
    have hnd : (intsN (List.range n)).Nodup := by
      unfold intsN
      refine List.pairwise_map.2 (List.nodup_range.imp ?_)
      intro a b hab e
      exact hab (by omega)
    have hp : (intsN (List.range n)).Perm x := perm_of_sub hnd (fun y hy => hsub hy) (by rw [intsN_len, List.length_range]; omega)
    refine ⟨x.map Int.toNat, ?_, ?_⟩
    · unfold intsN
      rw [List.map_map]
      refine (List.map_id x).symm.trans (List.map_congr_left fun y hy => ?_)
      obtain ⟨k, _, rfl⟩ := List.mem_map.1 (hp.mem_iff.2 hy)
      simp
    · have := hp.symm.map Int.toNat
      refine this.trans ?_
      unfold intsN
      rw [List.map_map]
      have e : (List.range n).map (Int.toNat ∘ fun n : Nat => (n : Int)) = List.range n := by
        refine (List.map_congr_left fun k _ => ?_).trans (List.map_id _)
        simp
      rw [e]
  · rintro ⟨l, rfl, hl⟩
    refine ⟨by rw [intsN_len, hl.length_eq, List.length_range], fun k hk => ?_⟩
    have h1 : (intsN l).Perm (intsN (List.range n)) := hl.map _
    rw [h1.count_eq]
    have hm : (k : Int) ∈ intsN (List.range n) := List.mem_map.2 ⟨k, List.mem_range.2 hk, rfl⟩
    have hnd : (intsN (List.range n)).Nodup := by
      unfold intsN
      refine List.pairwise_map.2 (List.nodup_range.imp ?_)
      intro a b hab e
      exact hab (by omega)
    exact count_one_i hnd hm
end Go.Proofs.Ytpapkofildcdiaa
