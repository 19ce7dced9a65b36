/-
  TourBelow: no answer that begins so costs less than Bound; of a whole beginning it is its cost.
-/
import Derived.Test.YtpngflmngnjjoaaDoorTourLaw
import Derived.Test.YtpngflmngnjjoaaDoorTourBW
import Derived.Test.YtpngflmngnjjoaaDoorRows
import Derived.Test.YtpngflmngnjjoaaDoorCards
import Derived.Test.YtpngflmngnjjoaaDoorTie
import Derived.Test.YtpngflmngnjjoaaDoorChecked
namespace Go.Proofs.YtpngflmngnjjoaaDoor.tourBelow
open Go.RowKit Go.ChangeShapes Go.WideShapes Go.ChangeAt Go.Deep

set_option maxRecDepth 100000 in
set_option maxHeartbeats 4000000 in
theorem walk_yes (i j : InstP) (hj : j = copyP i) (vs : List Value) (P : Option Addr) (pc : Nat) (xs ps : List Int) (hps : ps = xs.take 70) (w : World) (hT : Tab w) (H : RInst w vs i) (hP : RdI w P xs) (ix : Ints xs) (lx : xs.length ≤ pc) (lc : pc ≤ maxLen) (hc : checkP j = 0) (hk : j.kind = 3) :
    Calls Tryd.prog 11 #[.agg (List.toArray vs), .slice P xs.length pc] w fun e w' => e = .returned (.bool true) ∧ Ext w w' := by
  have CP := fun (W : World) (x : Ext w W) => copy_to hj vs W (H.ext x)
  have CU := fun (W : World) (x : Ext w W) => cut_toT hps P pc W (hP.ext x) ix lx lc
  have lps : ps.length ≤ 70 := by rw [hps]; exact List.length_take_le _ _
  have hI : InstInts j := hj ▸ H.ints.copy
  have hn := fun (us : List Value) (W : World) (h : RInst W us j) => newt_yes j us W h hc hk
  have sq := square_ok hc (by omega)
  have rok := rows_ok sq
  have h24 := rok.n2
  have h1 := rok.n1
  have VAL : (boundT j.cost (mirP j.cost) ps).2 = 0 → ∃ m last cost, walkP j.cost ps = some (m, last, cost) := fun h => by
    unfold boundT at h
    cases hf : walkP j.cost ps with
    | none => rw [hf] at h; simp at h
    | some s => exact ⟨s.1, s.2.1, s.2.2, rfl⟩
  have BO := fun (g base : Nat) (A : Option Addr) (c : Nat) (W : World) (hW : Tab W) (h : KernT W base g j.cost (mirP j.cost)) (hp : RdI W A ps) => boundt_any A c ps W hW h rok hp (by omega)
  have SM := fun (us : List Value) (W : World) (h : RInst W us j) => small3_any j us W h hc hk
  have BE : (boundT j.cost (mirP j.cost) ps).2 = 0 → ∀ (us : List Value) (A : Option Addr) (c : Nat) (W : World), RInst W us j → RdI W A ps → Calls Tryd.prog 44 #[.agg (List.toArray us), .slice A ps.length c] W fun e w' => e = .returned (.int .i64 (bestT j.cost (j.cost.length - 1 - ps.length) ps)) ∧ Ext W w' := fun hb us A c W h hp => by
    obtain ⟨m, last, cost, hm⟩ := VAL hb
    exact rbest13_any j us hc hk A c ps m last cost W hm h hp (by omega)
  have AN := fun (g base : Nat) (A : Option Addr) (c : Nat) (W : World) (h : KernT W base g j.cost (mirP j.cost)) (hp : RdI W A ps) => (answert_any A c ps W h rok hp (by omega)).mono fun _ _ h => own_kids h
  have DE := fun (g base : Nat) (W : World) (h : KernT W base g j.cost (mirP j.cost)) => deptht_any W h rok.n1 rok.n2
  have WH : (boundT j.cost (mirP j.cost) ps).2 = 0 → ps.length = j.cost.length - 1 → answerT j.cost ps = (0 :: ps, 0) ∧ (boundT j.cost (mirP j.cost) ps).1 = bestT j.cost (j.cost.length - 1 - ps.length) ps ∧ ∀ (us : List Value) (A : Option Addr) (c : Nat) (W : World), RInst W us j → RdI W A (0 :: ps) → Calls Tryd.prog 30 #[.agg (List.toArray us), .slice A (0 :: ps).length c] W fun e w' => e = .returned (.tuple #[.int .i64 (bestT j.cost (j.cost.length - 1 - ps.length) ps), .int .i64 0]) ∧ Ext W w' := by
    intro hb hl
    obtain ⟨m, last, cost, hm⟩ := VAL hb
    obtain ⟨l, WO⟩ := walk_ok h1 h24 hm
    have hwl := WO.len
    have hll : l.length = j.cost.length - 1 := by rw [← hl, WO.eq, intsN_len]
    have hm0 : memsM m = [] := List.eq_nil_of_length_eq_zero (by omega)
    have e1 : bestT j.cost (j.cost.length - 1 - ps.length) ps = pathT j.cost 0 l := by
      rw [show j.cost.length - 1 - ps.length = 0 by omega]
      show pathT j.cost 0 (ps.map Int.toNat) = _
      rw [WO.eq, toNat_ints]
    refine ⟨?_, ?_, ?_⟩
    · unfold answerT
      rw [hm]
      simp only [hl, if_true]
    · rw [e1]
      have e2 := pathT_app j.cost l [] 0
      rw [List.append_nil] at e2
      unfold boundT
      rw [hm, e2]
      simp only [hm0, if_true]
      rw [WO.cost, WO.last]
      rfl
    · intro us A c W h hx
      have e2 : intsN (0 :: l) = 0 :: ps := by rw [WO.eq]; rfl
      rw [e1, show (0 :: ps).length = j.cost.length by simp; omega]
      exact cost3_any j us A c l W h hc hk (by rw [e2]; exact hx) (whole_perm h1 WO hll)
  have BB : (boundT j.cost (mirP j.cost) ps).2 = 0 → 0 ≤ (boundT j.cost (mirP j.cost) ps).1 ∧ (boundT j.cost (mirP j.cost) ps).1 ≤ bestT j.cost (j.cost.length - 1 - ps.length) ps := fun h => by
    obtain ⟨m, last, cost, hm⟩ := VAL h
    have := boundT_below (mirror := mirP j.cost) h1 h24 (ends_num rok) (fun h => mirP_sym h) hm
    exact ⟨this.1, this.2.1⟩
  have BERR2 : (boundT j.cost (mirP j.cost) ps).2 = 0 ∨ (boundT j.cost (mirP j.cost) ps).2 = 1 := by
    unfold boundT
    cases walkP j.cost ps with
    | none => exact .inr rfl
    | some m => exact .inl rfl
  change ∀ (us : List Value) (W : World), RInst W us j → Calls Tryd.prog _ _ W (fun e w' => ∃ g, e = .returned (.tuple #[.pointer (some ⟨g, 0, none⟩), .int .i64 0]) ∧ KernT w' W.heap.size g j.cost (mirP j.cost) ∧ Ext W w') at hn
  generalize bestT j.cost (j.cost.length - 1 - ps.length) ps = bb at *
  generalize answerT j.cost ps = an at *
  generalize boundT j.cost (mirP j.cost) ps = bd at *
  generalize mirP j.cost = mi at *
  generalize j.cost = rows at *
  clear VAL
  clear hj hps sq rok hc hk h24
  obtain ⟨A, a, B, b, C, c, rfl, -, -, -⟩ := H
  have B1 : Hid (Blk (w.alloc (.cells #[.int .i64 i.kind, .int .i64 i.n, .int .i64 i.cap, .slice A i.weight.length a, .slice B i.value.length b, .slice C i.cost.length c] 25)) w.heap.size 25 #[.int .i64 i.kind, .int .i64 i.n, .int .i64 i.cap, .slice A i.weight.length a, .slice B i.value.length b, .slice C i.cost.length c]) := .new rfl
  replace CP := Lib.hid CP
  replace hT := Lib.hid hT
  replace CU := Lib.hid CU
  replace hn := Lib.hid hn
  replace BO := Lib.hid BO
  replace SM := Lib.hid SM
  replace BE := Lib.hid BE
  replace AN := Lib.hid AN
  replace DE := Lib.hid DE
  replace WH := Lib.hid WH
  replace BB := Lib.hid BB
  replace BERR2 := Lib.hid BERR2
  replace hP := Lib.hid hP
  replace ix := Lib.hid ix
  replace lc := Lib.hid lc
  go_enter Tryd.func11, Tryd.ntmps11
  go_wp2_with (fail)
  refine (CP.out _ (by (repeat (first | assumption | exact Ext.rf _ | apply Ext.drew | apply Ext.drewN | apply Ext.alloc)))).mono ?_
  rintro e w1 ⟨us, rfl, O1, x1⟩
  obtain ⟨A3, l3, d3, A4, l4, d4, A5, l5, d5, rfl⟩ := O1.six
  have X1 := Lib.hid (Ext.tr (a := w) (by (repeat (first | assumption | exact Ext.rf _ | apply Ext.drew | apply Ext.drewN | apply Ext.alloc))) x1)
  have B1' := Lib.hid (B1.out.ext x1)
  replace O1 := Lib.hid O1
  clear x1
  go_wp2_with (fail)
  refine (CU.out _ X1.out).mono ?_
  rintro e w2 ⟨Q, qc, rfl, oQ, x2⟩
  have X2 := Ext.tr X1.out x2
  have B2 := B1'.out.ext x2
  have O2 := O1.out.ext x2
  obtain ⟨X3, B3, O3⟩ := put_copy B2 X2 O2
  have t0 : w2.cell? ⟨w.heap.size, 0, none⟩ = some (.int .i64 i.kind) := B2.cell 0
  have t1 : w2.cell? ⟨w.heap.size, 1, none⟩ = some (.int .i64 i.n) := B2.cell 1
  have t2 : w2.cell? ⟨w.heap.size, 2, none⟩ = some (.int .i64 i.cap) := B2.cell 2
  have t3 : w2.cell? ⟨w.heap.size, 3, none⟩ = some (.slice A i.weight.length a) := B2.cell 3
  have t4 : w2.cell? ⟨w.heap.size, 4, none⟩ = some (.slice B i.value.length b) := B2.cell 4
  have t5 : w2.cell? ⟨w.heap.size, 5, none⟩ = some (.slice C i.cost.length c) := B2.cell 5
  have f0 := B2.free 0
  have f1 := B2.free 1
  have f2 := B2.free 2
  have f3 := B2.free 3
  have f4 := B2.free 4
  have f5 := B2.free 5
  have M3 := (set6 B2 (base := w.heap.size) (Nat.le_refl _) (.int .i64 j.kind) (.int .i64 j.n) (.int .i64 j.cap) (.slice A3 l3 d3) (.slice A4 l4 d4) (.slice A5 l5 d5)).2
  have Q3 := Lib.hid (oQ.modT M3 (by decide))
  have FIN := Lib.hid (And.intro X3 (And.intro B3 (And.intro O3 Q3)))
  replace X2 := Lib.hid X2
  replace B2 := Lib.hid B2
  clear O2 x2 M3 oQ O1 B1' B1 X3 B3 O3 Q3
  go_upto_region 2 with (fail)
  generalize ((((((w2.setCell ⟨w.heap.size, 0, none⟩ (.int .i64 j.kind)).setCell ⟨w.heap.size, 1, none⟩ (.int .i64 j.n)).setCell ⟨w.heap.size, 2, none⟩ (.int .i64 j.cap)).setCell ⟨w.heap.size, 3, none⟩ (.slice A3 l3 d3)).setCell ⟨w.heap.size, 4, none⟩ (.slice A4 l4 d4)).setCell ⟨w.heap.size, 5, none⟩ (.slice A5 l5 d5)) = w3 at FIN ⊢
  obtain ⟨X3, B3, O3, Q3⟩ := FIN.out
  clear FIN t0 t1 t2 t3 t4 t5 f0 f1 f2 f3 f4 f5
  have c0 : w3.cell? ⟨w.heap.size, 0, none⟩ = some (.int .i64 j.kind) := B3.cell 0
  have c1 : w3.cell? ⟨w.heap.size, 1, none⟩ = some (.int .i64 j.n) := B3.cell 1
  have c2 : w3.cell? ⟨w.heap.size, 2, none⟩ = some (.int .i64 j.cap) := B3.cell 2
  have c3 : w3.cell? ⟨w.heap.size, 3, none⟩ = some (.slice A3 l3 d3) := B3.cell 3
  have c4 : w3.cell? ⟨w.heap.size, 4, none⟩ = some (.slice A4 l4 d4) := B3.cell 4
  have c5 : w3.cell? ⟨w.heap.size, 5, none⟩ = some (.slice A5 l5 d5) := B3.cell 5
  have X4 := Lib.hid X3
  have B4 := Lib.hid B3
  have O4 := Lib.hid O3
  have Q4 := Lib.hid Q3.out.read
  clear X3 B3 O3 Q3
  go_wp2_with (fail)
  refine (hn.out _ _ (O4.out.rinst hI)).mono ?_
  rintro e w5 ⟨g, rfl, K5, x5⟩
  clear c0 c1 c2 c3 c4 c5
  go_wp2_with (fail)
  refine (tours_any _ (hT.out.ext (X4.out.tr x5))).mono ?_
  rintro e w6 ⟨rfl, x6⟩
  have y46 := Ext.tr x5 x6
  have K6 := Lib.hid (K5.ext x6)
  have X6 := Lib.hid (X4.out.tr y46)
  have O6 := Lib.hid (O4.out.ext y46)
  have B6 := Lib.hid (B4.out.ext y46)
  have Q6 := Lib.hid (Q4.out.ext y46)
  clear K5 x5 x6 y46 X4 O4 B4 Q4
  have c0 : w6.cell? ⟨w.heap.size, 0, none⟩ = some (.int .i64 j.kind) := B6.out.cell 0
  have c1 : w6.cell? ⟨w.heap.size, 1, none⟩ = some (.int .i64 j.n) := B6.out.cell 1
  have c2 : w6.cell? ⟨w.heap.size, 2, none⟩ = some (.int .i64 j.cap) := B6.out.cell 2
  have c3 : w6.cell? ⟨w.heap.size, 3, none⟩ = some (.slice A3 l3 d3) := B6.out.cell 3
  have c4 : w6.cell? ⟨w.heap.size, 4, none⟩ = some (.slice A4 l4 d4) := B6.out.cell 4
  have c5 : w6.cell? ⟨w.heap.size, 5, none⟩ = some (.slice A5 l5 d5) := B6.out.cell 5
  go_wp2_with (fail)
  refine (SM.out _ _ (O6.out.rinst hI)).mono ?_
  rintro e w7 ⟨rfl, x7⟩
  have K7 := Lib.hid (K6.out.ext x7)
  have X7 := Lib.hid (X6.out.tr x7)
  have O7 := Lib.hid (O6.out.ext x7)
  have B7 := Lib.hid (B6.out.ext x7)
  have Q7 := Lib.hid (Q6.out.ext x7)
  clear K6 X6 O6 B6 Q6 x7 c0 c1 c2 c3 c4 c5
  by_cases h9 : j.n ≤ 6
  · rw [decide_eq_true h9]
    clear h9
    go_wp2_with (fail)
    refine (BO.out g _ Q qc _ (hT.out.ext X7.out) K7.out Q7.out).mono ?_
    rintro e w8 ⟨rfl, x8⟩
    have K8 := Lib.hid (K7.out.ext x8)
    have X8 := Lib.hid (X7.out.tr x8)
    have O8 := Lib.hid (O7.out.ext x8)
    have B8 := Lib.hid (B7.out.ext x8)
    have Q8 := Lib.hid (Q7.out.ext x8)
    clear K7 X7 O7 B7 Q7 x8
    obtain ⟨b1, b2⟩ := bd
    simp only at WH BB BE BERR2 ⊢
    rcases BERR2.out with rfl | rfl
    · obtain ⟨bb0, bb1⟩ := BB.out rfl
      have WH0 := Lib.hid (WH.out rfl)
      replace BE := Lib.hid (BE.out rfl)
      clear WH BB
      have c0 : w8.cell? ⟨w.heap.size, 0, none⟩ = some (.int .i64 j.kind) := B8.out.cell 0
      have c1 : w8.cell? ⟨w.heap.size, 1, none⟩ = some (.int .i64 j.n) := B8.out.cell 1
      have c2 : w8.cell? ⟨w.heap.size, 2, none⟩ = some (.int .i64 j.cap) := B8.out.cell 2
      have c3 : w8.cell? ⟨w.heap.size, 3, none⟩ = some (.slice A3 l3 d3) := B8.out.cell 3
      have c4 : w8.cell? ⟨w.heap.size, 4, none⟩ = some (.slice A4 l4 d4) := B8.out.cell 4
      have c5 : w8.cell? ⟨w.heap.size, 5, none⟩ = some (.slice A5 l5 d5) := B8.out.cell 5
      go_wp2_with (fail)
      refine (BE.out _ Q qc _ (O8.out.rinst hI) Q8.out).mono ?_
      rintro e w9 ⟨rfl, x9⟩
      have K9 := Lib.hid (K8.out.ext x9)
      have X9 := Lib.hid (X8.out.tr x9)
      have O9 := Lib.hid (O8.out.ext x9)
      have B9 := Lib.hid (B8.out.ext x9)
      have Q9 := Lib.hid (Q8.out.ext x9)
      clear K8 X8 O8 B8 Q8 x9 c0 c1 c2 c3 c4 c5
      go_wp2_with (fail)
      refine (DE.out g _ _ K9.out).mono ?_
      rintro e wa ⟨rfl, xa⟩
      have Ka := Lib.hid (K9.out.ext xa)
      have Xa := Lib.hid (X9.out.tr xa)
      have Oa := Lib.hid (O9.out.ext xa)
      have Ba := Lib.hid (B9.out.ext xa)
      have Qa := Lib.hid (Q9.out.ext xa)
      clear K9 X9 O9 B9 Q9 xa
      by_cases hl : ps.length = rows.length - 1
      · obtain ⟨e1, e3, CO2⟩ := WH0.out hl
        have hlb : ((ps.length : Int) == (rows.length : Int) - 1) = true := by rw [beq_iff_eq]; omega
        replace AN := AN.out
        rw [e1] at AN
        replace AN := Lib.hid AN
        replace CO2 := Lib.hid CO2
        replace e3 : Hid (b1 = bb) := e3
        clear e1 hl WH0
        go_wp2_with (fail)
        refine (AN.out g _ Q qc _ Ka.out Qa.out).mono ?_
        rintro e wb ⟨S3, s3, rfl, r9, m9, n9, xb⟩
        have Xb := Lib.hid (Xa.out.tr xb)
        have Ob := Lib.hid (Oa.out.ext xb)
        have Bb := Lib.hid (Ba.out.ext xb)
        replace r9 := Lib.hid r9
        clear xb m9 n9 Ka Xa Oa Ba Qa
        have c0 : wb.cell? ⟨w.heap.size, 0, none⟩ = some (.int .i64 j.kind) := Bb.out.cell 0
        have c1 : wb.cell? ⟨w.heap.size, 1, none⟩ = some (.int .i64 j.n) := Bb.out.cell 1
        have c2 : wb.cell? ⟨w.heap.size, 2, none⟩ = some (.int .i64 j.cap) := Bb.out.cell 2
        have c3 : wb.cell? ⟨w.heap.size, 3, none⟩ = some (.slice A3 l3 d3) := Bb.out.cell 3
        have c4 : wb.cell? ⟨w.heap.size, 4, none⟩ = some (.slice A4 l4 d4) := Bb.out.cell 4
        have c5 : wb.cell? ⟨w.heap.size, 5, none⟩ = some (.slice A5 l5 d5) := Bb.out.cell 5
        go_wp2_with (fail)
        refine (CO2.out _ S3 s3 _ (Ob.out.rinst hI) r9.out).mono ?_
        rintro e wc ⟨rfl, xc⟩
        have Xc := Lib.hid (Xb.out.tr xc)
        clear xc c0 c1 c2 c3 c4 c5
        rw [e3.out]
        go_wp2_with (fail)
        go_ret
        exact ⟨by simp, Xc.out⟩
      · have hlb : ((ps.length : Int) == (rows.length : Int) - 1) = false := by rw [beq_eq_false_iff_ne]; omega
        have g1 : decide (0 ≤ b1) = true := decide_eq_true bb0
        have g2 : decide (b1 ≤ bb) = true := decide_eq_true bb1
        clear hl
        go_wp2_with (fail)
        go_ret
        exact ⟨by simp [bb0, bb1], Xa.out⟩
    · go_wp2_with (fail)
      go_ret
      exact ⟨rfl, X8.out⟩
  · rw [decide_eq_false h9]
    clear h9
    go_wp2_with (fail)
    refine (tours_any _ (hT.out.ext X7.out)).mono ?_
    rintro e w8 ⟨rfl, x8⟩
    have X8 := Lib.hid (X7.out.tr x8)
    clear x8
    go_wp2_with (fail)
    go_ret
    exact ⟨rfl, X8.out⟩
set_option maxRecDepth 100000 in
set_option maxHeartbeats 4000000 in
theorem walk_no (i j : InstP) (hj : j = copyP i) (vs : List Value) (P : Option Addr) (pc : Nat) (xs ps : List Int) (hps : ps = xs.take 70) (w : World) (hT : Tab w) (H : RInst w vs i) (hP : RdI w P xs) (ix : Ints xs) (lx : xs.length ≤ pc) (lc : pc ≤ maxLen) (err : Int) (he : err ≠ 0) (hn : ∀ (us : List Value) (W : World), RInst W us j → Calls Tryd.prog 33 #[.agg (List.toArray us)] W fun e w' => e = .returned (.tuple #[.pointer none, .int .i64 err]) ∧ Ext W w') :
    Calls Tryd.prog 11 #[.agg (List.toArray vs), .slice P xs.length pc] w fun e w' => e = .returned (.bool true) ∧ Ext w w' := by
  have CP := fun (W : World) (x : Ext w W) => copy_to hj vs W (H.ext x)
  have CU := fun (W : World) (x : Ext w W) => cut_toT hps P pc W (hP.ext x) ix lx lc
  have lps : ps.length ≤ 70 := by rw [hps]; exact List.length_take_le _ _
  have hI : InstInts j := hj ▸ H.ints.copy
  have eb : (err != 0) = true := by simpa using he
  clear hj hps he
  obtain ⟨A, a, B, b, C, c, rfl, -, -, -⟩ := H
  have B1 : Hid (Blk (w.alloc (.cells #[.int .i64 i.kind, .int .i64 i.n, .int .i64 i.cap, .slice A i.weight.length a, .slice B i.value.length b, .slice C i.cost.length c] 25)) w.heap.size 25 #[.int .i64 i.kind, .int .i64 i.n, .int .i64 i.cap, .slice A i.weight.length a, .slice B i.value.length b, .slice C i.cost.length c]) := .new rfl
  replace CP := Lib.hid CP
  replace hT := Lib.hid hT
  replace CU := Lib.hid CU
  replace hn := Lib.hid hn
  replace hP := Lib.hid hP
  replace ix := Lib.hid ix
  replace lc := Lib.hid lc
  go_enter Tryd.func11, Tryd.ntmps11
  go_wp2_with (fail)
  refine (CP.out _ (by (repeat (first | assumption | exact Ext.rf _ | apply Ext.drew | apply Ext.drewN | apply Ext.alloc)))).mono ?_
  rintro e w1 ⟨us, rfl, O1, x1⟩
  obtain ⟨A3, l3, d3, A4, l4, d4, A5, l5, d5, rfl⟩ := O1.six
  have X1 := Lib.hid (Ext.tr (a := w) (by (repeat (first | assumption | exact Ext.rf _ | apply Ext.drew | apply Ext.drewN | apply Ext.alloc))) x1)
  have B1' := Lib.hid (B1.out.ext x1)
  replace O1 := Lib.hid O1
  clear x1
  go_wp2_with (fail)
  refine (CU.out _ X1.out).mono ?_
  rintro e w2 ⟨Q, qc, rfl, oQ, x2⟩
  have X2 := Ext.tr X1.out x2
  have B2 := B1'.out.ext x2
  have O2 := O1.out.ext x2
  obtain ⟨X3, B3, O3⟩ := put_copy B2 X2 O2
  have t0 : w2.cell? ⟨w.heap.size, 0, none⟩ = some (.int .i64 i.kind) := B2.cell 0
  have t1 : w2.cell? ⟨w.heap.size, 1, none⟩ = some (.int .i64 i.n) := B2.cell 1
  have t2 : w2.cell? ⟨w.heap.size, 2, none⟩ = some (.int .i64 i.cap) := B2.cell 2
  have t3 : w2.cell? ⟨w.heap.size, 3, none⟩ = some (.slice A i.weight.length a) := B2.cell 3
  have t4 : w2.cell? ⟨w.heap.size, 4, none⟩ = some (.slice B i.value.length b) := B2.cell 4
  have t5 : w2.cell? ⟨w.heap.size, 5, none⟩ = some (.slice C i.cost.length c) := B2.cell 5
  have f0 := B2.free 0
  have f1 := B2.free 1
  have f2 := B2.free 2
  have f3 := B2.free 3
  have f4 := B2.free 4
  have f5 := B2.free 5
  have M3 := (set6 B2 (base := w.heap.size) (Nat.le_refl _) (.int .i64 j.kind) (.int .i64 j.n) (.int .i64 j.cap) (.slice A3 l3 d3) (.slice A4 l4 d4) (.slice A5 l5 d5)).2
  have Q3 := Lib.hid (oQ.modT M3 (by decide))
  have FIN := Lib.hid (And.intro X3 (And.intro B3 (And.intro O3 Q3)))
  replace X2 := Lib.hid X2
  replace B2 := Lib.hid B2
  clear O2 x2 M3 oQ O1 B1' B1 X3 B3 O3 Q3
  go_upto_region 2 with (fail)
  generalize ((((((w2.setCell ⟨w.heap.size, 0, none⟩ (.int .i64 j.kind)).setCell ⟨w.heap.size, 1, none⟩ (.int .i64 j.n)).setCell ⟨w.heap.size, 2, none⟩ (.int .i64 j.cap)).setCell ⟨w.heap.size, 3, none⟩ (.slice A3 l3 d3)).setCell ⟨w.heap.size, 4, none⟩ (.slice A4 l4 d4)).setCell ⟨w.heap.size, 5, none⟩ (.slice A5 l5 d5)) = w3 at FIN ⊢
  obtain ⟨X3, B3, O3, Q3⟩ := FIN.out
  clear FIN t0 t1 t2 t3 t4 t5 f0 f1 f2 f3 f4 f5
  have c0 : w3.cell? ⟨w.heap.size, 0, none⟩ = some (.int .i64 j.kind) := B3.cell 0
  have c1 : w3.cell? ⟨w.heap.size, 1, none⟩ = some (.int .i64 j.n) := B3.cell 1
  have c2 : w3.cell? ⟨w.heap.size, 2, none⟩ = some (.int .i64 j.cap) := B3.cell 2
  have c3 : w3.cell? ⟨w.heap.size, 3, none⟩ = some (.slice A3 l3 d3) := B3.cell 3
  have c4 : w3.cell? ⟨w.heap.size, 4, none⟩ = some (.slice A4 l4 d4) := B3.cell 4
  have c5 : w3.cell? ⟨w.heap.size, 5, none⟩ = some (.slice A5 l5 d5) := B3.cell 5
  have X4 := Lib.hid X3
  have B4 := Lib.hid B3
  have O4 := Lib.hid O3
  have Q4 := Lib.hid Q3.out.read
  clear X3 B3 O3 Q3
  go_wp2_with (fail)
  refine (hn.out _ _ (O4.out.rinst hI)).mono ?_
  rintro e w5 ⟨rfl, x5⟩
  clear c0 c1 c2 c3 c4 c5
  go_wp2_with (fail)
  refine (tours_any _ (hT.out.ext (X4.out.tr x5))).mono ?_
  rintro e w6 ⟨rfl, x6⟩
  go_wp2_with (fail)
  refine (tours_any _ (hT.out.ext ((X4.out.tr x5).tr x6))).mono ?_
  rintro e w7 ⟨rfl, x7⟩
  have Xd := Lib.hid (X4.out.tr (Ext.tr (Ext.tr x5 x6) x7))
  clear x5 x6 x7
  go_wp2_with (fail)
  go_ret
  exact ⟨rfl, Xd.out⟩
theorem walk (vs : List Value) (i : InstP) (P : Option Addr) (pc : Nat) (xs : List Int) (w : World) (hT : Tab w) (H : RInst w vs i) (_ : InstOk i) (hP : RdI w P xs) (ix : Ints xs) (lx : xs.length ≤ pc) (lc : pc ≤ maxLen) :
    Calls Tryd.prog 11 #[.agg (List.toArray vs), .slice P xs.length pc] w fun e w' => e = .returned (.bool true) ∧ Ext w w' := by
  obtain ⟨l1, l2, _⟩ := copyP_lens i
  by_cases hc : checkP (copyP i) = 0
  · by_cases hk : (copyP i).kind = 3
    · exact walk_yes i (copyP i) rfl vs P pc xs _ rfl w hT H hP ix lx lc hc hk
    · exact walk_no i (copyP i) rfl vs P pc xs _ rfl w hT H hP ix lx lc 14 (by omega) (fun us W h => newt_kind (copyP i) us W h (by omega) (by omega) hc hk)
  · exact walk_no i (copyP i) rfl vs P pc xs _ rfl w hT H hP ix lx lc (checkP (copyP i)) hc (fun us W h => newt_bad (copyP i) us W h (by omega) (by omega) hc)

set_option maxRecDepth 100000 in
theorem lifted (os : Os) (started : os.Started) (H : Type) (enc : TypeId × Value → H) :
    ReturnsInHanded {} Tryd.checked os 11 .any (fun w args => (Rows.tourBelowSpec.pre enc Tryd.prog Tryd.f11 Rows.tourBelowRow.domain false w args ∧ laidMetH Tryd.prog tabL w) ∧ sizedMet enc Tryd.prog Tryd.f11 (OpenSpec.ofChange Rows.tourBelowSpec) false w args) (Rows.tourBelowSpec.post enc Tryd.prog Tryd.f11 false true false false) := by
  refine returnsInHanded_of_change_and (C := Tryd.checked) (X := fun w _ => laidMetH Tryd.prog tabL w) (fun _ _ _ hh h => h.of_heap hh) own started (by kernel_rfl) Tryd.func11
    (ChangeSpec.witness_shaped (enc := enc) (C := Tryd.checked) (os := os) (X := fun w _ => laidMetH Tryd.prog tabL w) false (World.laidAll Tryd.prog os tabL) #[.agg #[.int .i64 0, .int .i64 0, .int .i64 0, .slice none 0 0, .slice none 0 0, .slice none 0 0], .slice none 0 0] 8 (World.laidAll_os _ _ _)
      (World.shaped_of_ZipB (by kernel_rfl) (by kernel_rfl)) (by kernel_rfl) (by kernel_rfl) (by kernel_rfl)
      (by rw [MakeChecks.laidMetH_plain _ _ _ (by kernel_rfl)]; exact laidMet_laidAll _ (by kernel_rfl) (by kernel_rfl))) ?_
  intro W base args ds gs before hval0 hW _ _ hL _
  have hval : ∀ (j : Nat) t v, Tryd.f11.params[j]? = some t → args[j]? = some v → Value.okWide Tryd.prog W .any base t v := hval0
  have hW' := hW
  obtain ⟨p, q, hA0, hV, rfl, hfz, hnd⟩ := hW
  have hA : DataW.TrodAll enc Tryd.prog W 0 (fun _ => true) true Tryd.f11.params.toList args.toList ds p := hA0
  rw [Tryd.params11] at hA hval
  obtain ⟨v0, vs0, d0, ds0, p0, q0, hargs, rfl, rfl, h0, r0⟩ := trodAll_cons hA
  obtain ⟨v1, vs1, d1, ds1, p1, q1, rfl, rfl, rfl, h1, r1⟩ := trodAll_cons r0
  obtain ⟨rfl, rfl, rfl⟩ := trodAll_nil r1
  obtain rfl : args = #[v0, v1] := by cases args; simp_all
  obtain ⟨rfl, rfl⟩ := trodVars_none hV
  obtain ⟨y0, x0, rfl, hx0, ix0⟩ := open_Inst h0 (hval 0 _ v0 rfl rfl)
  obtain ⟨A1, x1, c1, rfl, hx1, ix1, lx1, lc1⟩ := open_RdI h1 (hval 1 _ v1 rfl rfl)
  refine (walk y0 x0 A1 c1 x1 W (tab_of_laid hL) hx0 ix0 hx1 ix1 lx1 lc1).mono fun e W' ⟨he, hg⟩ => ?_
  subst he
  exact ⟨_, rfl, post_law hW' rfl rfl rfl rfl rfl (readable_of (by kernel_rfl)) hg⟩

theorem row : Rows.TourBelowSaid :=
  OpenClaim.holds_of_wide 11 Tryd.f11 rfl rfl rfl rfl rfl rfl rfl ⟨rfl, rfl, rfl, rfl, rfl⟩ rfl rfl rfl rfl rfl (by kernel_rfl) Tryd.func11 (by kernel_rfl)
    (of_decide_eq_true (by kernel_rfl)) (by unfold Func.isWrapper; first | (rw [if_pos (by decide +kernel)]; kernel_rfl) | (rw [if_neg (by decide +kernel)]; exact ⟨rfl, rfl⟩))
    (fun os started H enc _ => lifted os started H enc)
theorem proved : Rows.TourBelowCardSaid :=
  Claim7.holds_tied_plain_at .later [] [.data] true Rows.tourBelowCard.stood.harness false row (fun _ h => by cases h) (by kernel_rfl) (fun _ h => by cases h) tourBelow_row_tie rfl ⟨rfl, rfl⟩ (by kernel_rfl) rfl
    (fun f fn hf hfn => by
      obtain rfl : f = 11 := Option.some.inj ((show Tryd.prog.funcNamed "kurgan/kurganlaw13.TourBelow" = some 11 by kernel_rfl).symm.trans hf) |>.symm
      obtain rfl : fn = Tryd.f11 := (Option.some.inj (Tryd.func11.symm.trans hfn)).symm
      exact ⟨by kernel_rfl, fun j t ht => by
        rw [Tryd.params11] at ht
        have hm : t ∈ [25, 22] := by simpa using Array.mem_of_getElem? ht
        have hall : ([25, 22].all fun u => !Tryd.prog.wantsStandIn u) = true := by kernel_rfl
        exact (show Tryd.prog.wantsStandIn t = false by simpa using List.all_eq_true.1 hall t hm)⟩)
    (by kernel_rfl)
end Go.Proofs.YtpngflmngnjjoaaDoor.tourBelow
