/-
  CheckWords: the shortest word of a best answer's search is taken; of an answer that isn't the best no word is, that a search would give.
-/
import Derived.Test.YtcpadkaljnnieaaCheckWordsP8
import Derived.Test.YtcpadkaljnnieaaRows
import Derived.Test.YtcpadkaljnnieaaChecked
namespace Go.Proofs.Ytcpadkaljnnieaa.checkWords
open Go.RowKit Go.ChangeShapes Go.WideShapes Go.ChangeAt Go.Deep

def fewB (i : InstP) : Bool := decide (checkP i = 0) && decide (i.kind = 1 ∧ i.n ≤ 7 ∨ i.kind ≠ 1 ∧ i.n ≤ 4)
theorem few_yes {i : InstP} (h : fewB i = true) : checkP i = 0 ∧ (i.kind = 1 ∧ i.n ≤ 7 ∨ i.kind ≠ 1 ∧ i.n ≤ 4) := by
  unfold fewB at h
  simpa using h
set_option maxRecDepth 100000 in
set_option maxHeartbeats 1000000 in
theorem fewc_any (i : InstP) (us : List Value) (w : World) (H : RInst w us i) :
    Calls Try.prog 29 #[.agg (List.toArray us)] w fun e w' => e = .returned (.bool (fewB i)) ∧ Ext w w' := by
  have CH := fun (W : World) (x : Ext w W) => rcheck_any i us W (H.ext x)
  obtain ⟨R, hR⟩ : ∃ R, Hid (fewB i = R) := ⟨_, rfl⟩
  rw [hR.out]
  unfold fewB at hR
  obtain ⟨kind, nn, cap, xw, xv, co⟩ := i
  obtain ⟨A, a, B, b, D, d, rfl, -, -, -⟩ := H
  generalize checkP _ = ck at *
  simp only at *
  have B1 : Hid (Blk (w.alloc (.cells #[.int .i64 kind, .int .i64 nn, .int .i64 cap, .slice A xw.length a, .slice B xv.length b, .slice D co.length d] 61)) w.heap.size 61 #[.int .i64 kind, .int .i64 nn, .int .i64 cap, .slice A xw.length a, .slice B xv.length b, .slice D co.length d]) := .new rfl
  replace CH := Lib.hid CH
  by_cases hc : ck = 0
  · subst hc
    by_cases hk : kind = 1
    · subst hk
      have E : Hid (decide (nn ≤ 7) = R) := by
        have h := hR.out
        have h2 : decide (nn ≤ 7) = R := by simpa using h
        exact h2
      clear hR
      go_enter Try.func29, Try.ntmps29
      go_wp2_with (fail)
      refine (CH.out _ (by (repeat (first | assumption | exact Ext.rf _ | apply Ext.drew | apply Ext.drewN | apply Ext.alloc)))).mono ?_
      rintro e w1 ⟨rfl, x1⟩
      have X1 := Lib.hid (Ext.tr (a := w) (by (repeat (first | assumption | exact Ext.rf _ | apply Ext.drew | apply Ext.drewN | apply Ext.alloc))) x1)
      have BB := B1.out.ext x1
      have d0 : w1.cell? ⟨w.heap.size, 0, none⟩ = some (.int .i64 1) := BB.cell 0
      have d1 : w1.cell? ⟨w.heap.size, 1, none⟩ = some (.int .i64 nn) := BB.cell 1
      clear x1 BB
      by_cases hn : nn ≤ 7
      · have g1 : decide (nn ≤ 7) = true := decide_eq_true hn
        rw [g1] at E
        go_wp2_with (fail)
        go_ret
        exact ⟨ret_b E.out, X1.out.tr (by (repeat (first | assumption | exact Ext.rf _ | apply Ext.drew | apply Ext.drewN | apply Ext.alloc)))⟩
      · have g1 : decide (nn ≤ 7) = false := decide_eq_false hn
        rw [g1] at E
        go_wp2_with (fail)
        go_ret
        exact ⟨ret_b E.out, X1.out.tr (by (repeat (first | assumption | exact Ext.rf _ | apply Ext.drew | apply Ext.drewN | apply Ext.alloc)))⟩
    · have hk1 : (kind == 1) = false := by simpa using hk
      have hk2 : (kind != 1) = true := by simpa using hk
      have E : Hid (decide (nn ≤ 4) = R) := by
        have h := hR.out
        have h2 : decide (nn ≤ 4) = R := by simpa [hk] using h
        exact h2
      clear hR
      go_enter Try.func29, Try.ntmps29
      go_wp2_with (fail)
      refine (CH.out _ (by (repeat (first | assumption | exact Ext.rf _ | apply Ext.drew | apply Ext.drewN | apply Ext.alloc)))).mono ?_
      rintro e w1 ⟨rfl, x1⟩
      have X1 := Lib.hid (Ext.tr (a := w) (by (repeat (first | assumption | exact Ext.rf _ | apply Ext.drew | apply Ext.drewN | apply Ext.alloc))) x1)
      have BB := B1.out.ext x1
      have d0 : w1.cell? ⟨w.heap.size, 0, none⟩ = some (.int .i64 kind) := BB.cell 0
      have d1 : w1.cell? ⟨w.heap.size, 1, none⟩ = some (.int .i64 nn) := BB.cell 1
      clear x1 BB
      by_cases hn : nn ≤ 4
      · have g1 : decide (nn ≤ 4) = true := decide_eq_true hn
        rw [g1] at E
        go_wp2_with (fail)
        go_ret
        exact ⟨ret_b E.out, X1.out.tr (by (repeat (first | assumption | exact Ext.rf _ | apply Ext.drew | apply Ext.drewN | apply Ext.alloc)))⟩
      · have g1 : decide (nn ≤ 4) = false := decide_eq_false hn
        rw [g1] at E
        go_wp2_with (fail)
        go_ret
        exact ⟨ret_b E.out, X1.out.tr (by (repeat (first | assumption | exact Ext.rf _ | apply Ext.drew | apply Ext.drewN | apply Ext.alloc)))⟩
  · have hc1 : (ck == 0) = false := by simpa using hc
    have E : Hid (false = R) := by
      have h := hR.out
      have h2 : false = R := by simpa [hc] using h
      exact h2
    clear hR
    go_enter Try.func29, Try.ntmps29
    go_wp2_with (fail)
    refine (CH.out _ (by (repeat (first | assumption | exact Ext.rf _ | apply Ext.drew | apply Ext.drewN | apply Ext.alloc)))).mono ?_
    rintro e w1 ⟨rfl, x1⟩
    have X1 := Lib.hid (Ext.tr (a := w) (by (repeat (first | assumption | exact Ext.rf _ | apply Ext.drew | apply Ext.drewN | apply Ext.alloc))) x1)
    clear x1
    go_wp2_with (fail)
    go_ret
    exact ⟨ret_b E.out, X1.out.tr (by (repeat (first | assumption | exact Ext.rf _ | apply Ext.drew | apply Ext.drewN | apply Ext.alloc)))⟩
/-- the search's word is taken just of a best answer -/
theorem word_taken {i : InstP} {x : List Int} (hc : checkP i = 0) (he : (costG i x).2 = 0) : checkR i x (ofG i (costG i x).1) (wordC (depthI i) (kidsI i) (boundI i) (costG i x).1 (depthI i + 1) []) = 0 ↔ (costG i x).1 = bestI i := by
  have K := krn_inst hc
  have h1 := whole_word (cost := (costG i x).1) K (okI_nil hc)
  rw [bx_best hc] at h1
  have h2 := best_low hc he
  unfold checkR
  rw [if_neg (fun e => e hc)]
  unfold answR
  rw [if_pos he]
  simp only [ne_eq, not_true, if_false]
  rw [h1]
  omega
/-- what stays: the problem and the answer in their places -/
structure StW (w : World) (vs : List Value) (j : InstP) (A : Option Addr) (ps : List Int) (wr : World) : Prop where
  x : Ext w wr
  b : Blk wr w.heap.size 61 (List.toArray vs)
  r : RInst wr vs j
  l : RdI wr A ps
theorem StW.ext {w : World} {vs : List Value} {j : InstP} {A : Option Addr} {ps : List Int} {wr wr' : World} (h : StW w vs j A ps wr) (x : Ext wr wr') : StW w vs j A ps wr' := ⟨h.x.tr x, h.b.ext x, h.r.ext x, h.l.ext x⟩
set_option maxRecDepth 100000 in
set_option maxHeartbeats 4000000 in
theorem walk_all (i j : InstP) (hj : j = copyP i) (vs : List Value) (P : Option Addr) (pc : Nat) (xs : List Int) (w : World) (H : RInst w vs i) (hP : RdI w P xs) (ix : Ints xs) (lx : xs.length ≤ pc) (lc : pc ≤ maxLen) :
    Calls Try.prog 4 #[.agg (List.toArray vs), .slice P xs.length pc] w fun e w' => e = .returned (.bool true) ∧ Ext w w' := by
  have CP := fun (W : World) (x : Ext w W) => copy_to hj vs W (H.ext x)
  have hI : InstInts j := hj ▸ H.ints.copy
  have LW : j.weight.length ≤ 70 := by have := (copyP_lens i).1; rw [← hj] at this; omega
  have LV : j.value.length ≤ 70 := by have := (copyP_lens i).2.1; rw [← hj] at this; omega
  obtain ⟨ps, hp, ip, lp, lp', kp, ep⟩ := cut_min 70 hP ix
  simp only [Int.cast_ofNat_Int] at ep
  unfold maxLen at lc
  have lpd : ps.length ≤ pc := by omega
  have ep2 : min (xs.length : Int) 70 = (ps.length : Int) := by split at ep <;> omega
  have CK : Hid (∀ (v : Int) (tr : Wd) (_ : tr.length ≤ 1000) (us : List Value) (A : Option Addr) (a : Nat) (W : World), RInst W us j → RdI W A ps → ps.length ≤ a → a ≤ maxLen → Calls Try.prog 33 #[.agg (List.toArray us), .agg #[.int .i64 v, .slice A ps.length a, .string ⟨tr.toArray⟩]] W fun e w' => e = .returned (.int .i64 (checkR j ps v tr)) ∧ Ext W w') := fun v tr ht us A a W h1 h2 h3 h4 => checkc_any j us v A a ps tr W h1 (by omega) (by omega) h2 h3 h4 ht
  have CO : Hid (∀ (us : List Value) (A : Option Addr) (a : Nat) (W : World), RInst W us j → RdI W A ps → Calls Try.prog 30 #[.agg (List.toArray us), .slice A ps.length a] W fun e w' => e = .returned (.tuple #[.int .i64 (costG j ps).1, .int .i64 (costG j ps).2]) ∧ Ext W w') := fun us A a W h1 h2 => rcost_gen j us A a ps W h1 h2
  have OF : Hid (∀ (_ : (costG j ps).2 = 0) (us : List Value) (W : World), RInst W us j → Calls Try.prog 34 #[.agg (List.toArray us), .int .i64 (costG j ps).1] W fun e w' => e = .returned (.int .i64 (ofG j (costG j ps).1)) ∧ Ext W w') := fun h us W h1 => rof_any j us W (costG j ps).1 h1 (cost_chk h) (fun hk => cost_bd1 h hk)
  have BE : Hid (∀ (_ : checkP j = 0) (us : List Value) (W : World), RInst W us j → Calls Try.prog 32 #[.agg (List.toArray us), .slice none 0 0] W fun e w' => e = .returned (.int .i64 (bestI j)) ∧ Ext W w') := fun h us W h1 => rbestI_any j us W h1 h
  have WO : Hid (∀ (_ : checkP j = 0) (_ : j.kind = 1 ∧ j.n ≤ 7 ∨ j.kind ≠ 1 ∧ j.n ≤ 4) (us : List Value) (W : World), RInst W us j → Calls Try.prog 31 #[.agg (List.toArray us), .int .i64 (costG j ps).1] W fun e w' => e = .returned (.string ⟨(wordC (depthI j) (kidsI j) (boundI j) (costG j ps).1 (depthI j + 1) []).toArray⟩) ∧ Ext W w') := fun h h2 us W h1 => rword_any j us (costG j ps).1 W h1 h h2
  have WL : Hid (∀ (_ : checkP j = 0) (_ : j.kind = 1 ∧ j.n ≤ 7 ∨ j.kind ≠ 1 ∧ j.n ≤ 4), (wordC (depthI j) (kidsI j) (boundI j) (costG j ps).1 (depthI j + 1) []).length ≤ 1000) := fun h h2 => by
    have := (word_few h h2 (costG j ps).1).1
    omega
  have WT : Hid (∀ (_ : checkP j = 0) (_ : (costG j ps).2 = 0), (checkR j ps (ofG j (costG j ps).1) (wordC (depthI j) (kidsI j) (boundI j) (costG j ps).1 (depthI j + 1) []) = 0 ↔ (costG j ps).1 = bestI j)) := fun h h2 => word_taken h h2
  have FE : Hid (∀ (us : List Value) (W : World), RInst W us j → Calls Try.prog 29 #[.agg (List.toArray us)] W fun e w' => e = .returned (.bool (fewB j)) ∧ Ext W w') := fun us W h1 => fewc_any j us W h1
  have FY : Hid (fewB j = true → checkP j = 0 ∧ (j.kind = 1 ∧ j.n ≤ 7 ∨ j.kind ≠ 1 ∧ j.n ≤ 4)) := fun h => few_yes h
  obtain ⟨fb, hfb⟩ : ∃ fb, Hid (fewB j = fb) := ⟨_, rfl⟩
  rw [hfb.out] at FE FY
  clear hj LW LV hfb
  replace hp := Lib.hid hp
  obtain ⟨A, a, B, b, C, c, rfl, -, -, -⟩ := H
  have B1 : Hid (Blk (w.alloc (.cells #[.int .i64 i.kind, .int .i64 i.n, .int .i64 i.cap, .slice A i.weight.length a, .slice B i.value.length b, .slice C i.cost.length c] 61)) w.heap.size 61 #[.int .i64 i.kind, .int .i64 i.n, .int .i64 i.cap, .slice A i.weight.length a, .slice B i.value.length b, .slice C i.cost.length c]) := .new rfl
  replace CP := Lib.hid CP
  replace kp := Lib.hid kp
  clear hP ix
  go_enter Try.func4, Try.ntmps4
  go_wp2_with (fail)
  refine (CP.out _ (by (repeat (first | assumption | exact Ext.rf _ | apply Ext.drew | apply Ext.drewN | apply Ext.alloc)))).mono ?_
  rintro e w2 ⟨us, rfl, O2, x2⟩
  obtain ⟨A3, l3, d3, A4, l4, d4, A5, l5, d5, rfl⟩ := O2.six
  have X2 := Ext.tr (a := w) (by (repeat (first | assumption | exact Ext.rf _ | apply Ext.drew | apply Ext.drewN | apply Ext.alloc))) x2
  have B2 := B1.out.ext x2
  obtain ⟨X3, B3, O3⟩ := put_copy B2 X2 O2
  have R3 := Lib.hid (O3.rinst hI)
  have t0 : w2.cell? ⟨w.heap.size, 0, none⟩ = some (.int .i64 i.kind) := B2.cell 0
  have t1 : w2.cell? ⟨w.heap.size, 1, none⟩ = some (.int .i64 i.n) := B2.cell 1
  have t2 : w2.cell? ⟨w.heap.size, 2, none⟩ = some (.int .i64 i.cap) := B2.cell 2
  have t3 : w2.cell? ⟨w.heap.size, 3, none⟩ = some (.slice A i.weight.length a) := B2.cell 3
  have t4 : w2.cell? ⟨w.heap.size, 4, none⟩ = some (.slice B i.value.length b) := B2.cell 4
  have t5 : w2.cell? ⟨w.heap.size, 5, none⟩ = some (.slice C i.cost.length c) := B2.cell 5
  have f0 := B2.free 0
  have f1 := B2.free 1
  have f2 := B2.free 2
  have f3 := B2.free 3
  have f4 := B2.free 4
  have f5 := B2.free 5
  replace X3 := Lib.hid X3
  replace B3 := Lib.hid B3
  clear O2 x2 X2 B2 O3
  go_upto_region 2 with (fail)
  generalize ((((((w2.setCell ⟨w.heap.size, 0, none⟩ (.int .i64 j.kind)).setCell ⟨w.heap.size, 1, none⟩ (.int .i64 j.n)).setCell ⟨w.heap.size, 2, none⟩ (.int .i64 j.cap)).setCell ⟨w.heap.size, 3, none⟩ (.slice A3 l3 d3)).setCell ⟨w.heap.size, 4, none⟩ (.slice A4 l4 d4)).setCell ⟨w.heap.size, 5, none⟩ (.slice A5 l5 d5)) = w3 at *
  clear t0 t1 t2 t3 t4 t5 f0 f1 f2 f3 f4 f5
  have zw := X3.out.size
  go_upto_region 3 with (at_builtin; refine wpl_copy_i _ rfl _ _ rfl w3.heap.size _ ps P pc rfl rfl ?_ ?_ ?_ ?_ ?_; (first | exact .new (by simp) | exact .drew (.new (by simp)) | exact .alloc (.new (by simp)) _ | exact .drew (.alloc (.new (by simp)) _) | exact .alloc (.alloc (.new (by simp)) _) _ | exact .drew (.alloc (.alloc (.new (by simp)) _) _) | (repeat (first | assumption | (refine Blk.new ?_; (focus (simp; done))) | apply Blk.drew | apply Blk.drewN | apply Blk.alloc))); (first | exact Nat.le_refl _ | omega | (focus (simp; try omega))); (refine (hp.out.ext X3.out).ext ?_; (repeat (first | assumption | exact Ext.rf _ | apply Ext.drew | apply Ext.drewN | apply Ext.alloc))); omega; rintro A7 c7 w7 o7 x7)
  have y7 := Ext.tr (a := w3) (by (repeat (first | assumption | exact Ext.rf _ | apply Ext.drew | apply Ext.drewN | apply Ext.alloc))) x7
  have S7 : Hid (StW w [.int .i64 j.kind, .int .i64 j.n, .int .i64 j.cap, .slice A3 l3 d3, .slice A4 l4 d4, .slice A5 l5 d5] j A7 ps w7) := ⟨X3.out.tr y7, B3.out.ext y7, R3.out.ext y7, o7.read⟩
  have l7 := o7.le
  clear o7 x7 y7 B3 R3 X3
  go_wp2_with (fail)
  refine (checks_any _).mono ?_
  rintro e w8 ⟨rfl, x8⟩
  have S8 := Lib.hid (S7.out.ext (Ext.tr (by (repeat (first | assumption | exact Ext.rf _ | apply Ext.drew | apply Ext.drewN | apply Ext.alloc))) x8))
  clear x8 S7
  have t0 : w8.cell? ⟨w.heap.size, 0, none⟩ = some (.int .i64 j.kind) := S8.out.b.cell 0
  have t1 : w8.cell? ⟨w.heap.size, 1, none⟩ = some (.int .i64 j.n) := S8.out.b.cell 1
  have t2 : w8.cell? ⟨w.heap.size, 2, none⟩ = some (.int .i64 j.cap) := S8.out.b.cell 2
  have t3 : w8.cell? ⟨w.heap.size, 3, none⟩ = some (.slice A3 l3 d3) := S8.out.b.cell 3
  have t4 : w8.cell? ⟨w.heap.size, 4, none⟩ = some (.slice A4 l4 d4) := S8.out.b.cell 4
  have t5 : w8.cell? ⟨w.heap.size, 5, none⟩ = some (.slice A5 l5 d5) := S8.out.b.cell 5
  go_wp2_with (fail)
  refine (FE.out _ _ (S8.out.r.ext (by (repeat (first | assumption | exact Ext.rf _ | apply Ext.drew | apply Ext.drewN | apply Ext.alloc))))).mono ?_
  rintro e w9 ⟨rfl, x9⟩
  have S9 := Lib.hid (S8.out.ext (Ext.tr (by (repeat (first | assumption | exact Ext.rf _ | apply Ext.drew | apply Ext.drewN | apply Ext.alloc))) x9))
  clear x9 S8 FE t0 t1 t2 t3 t4 t5
  cases fb with
  | false =>
    go_wp2_with (fail)
    refine (checks_any _).mono ?_
    rintro e wz ⟨rfl, xz⟩
    have Xz := Lib.hid (S9.out.x.tr (Ext.tr (by (repeat (first | assumption | exact Ext.rf _ | apply Ext.drew | apply Ext.drewN | apply Ext.alloc))) xz))
    clear xz
    go_wp2_with (fail)
    go_ret
    exact ⟨rfl, Xz.out.tr (by (repeat (first | assumption | exact Ext.rf _ | apply Ext.drew | apply Ext.drewN | apply Ext.alloc)))⟩
  | true =>
    obtain ⟨hc, hf⟩ := FY.out rfl
    replace BE := Lib.hid (BE.out hc)
    replace WO := Lib.hid (WO.out hc hf)
    have WL1 := WL.out hc hf
    replace WT := Lib.hid (WT.out hc)
    clear FY WL hc hf
    have t0 : w9.cell? ⟨w.heap.size, 0, none⟩ = some (.int .i64 j.kind) := S9.out.b.cell 0
    have t1 : w9.cell? ⟨w.heap.size, 1, none⟩ = some (.int .i64 j.n) := S9.out.b.cell 1
    have t2 : w9.cell? ⟨w.heap.size, 2, none⟩ = some (.int .i64 j.cap) := S9.out.b.cell 2
    have t3 : w9.cell? ⟨w.heap.size, 3, none⟩ = some (.slice A3 l3 d3) := S9.out.b.cell 3
    have t4 : w9.cell? ⟨w.heap.size, 4, none⟩ = some (.slice A4 l4 d4) := S9.out.b.cell 4
    have t5 : w9.cell? ⟨w.heap.size, 5, none⟩ = some (.slice A5 l5 d5) := S9.out.b.cell 5
    go_wp2_with (fail)
    refine (CO.out _ A7 c7 _ (S9.out.r.ext (by (repeat (first | assumption | exact Ext.rf _ | apply Ext.drew | apply Ext.drewN | apply Ext.alloc)))) (S9.out.l.ext (by (repeat (first | assumption | exact Ext.rf _ | apply Ext.drew | apply Ext.drewN | apply Ext.alloc))))).mono ?_
    rintro e wa ⟨rfl, xa⟩
    have Sa := Lib.hid (S9.out.ext (Ext.tr (by (repeat (first | assumption | exact Ext.rf _ | apply Ext.drew | apply Ext.drewN | apply Ext.alloc))) xa))
    clear xa S9 CO t0 t1 t2 t3 t4 t5
    by_cases he : (costG j ps).2 = 0
    · replace OF := Lib.hid (OF.out he)
      have WT1 := Lib.hid (WT.out he)
      rw [he]
      obtain ⟨cc, hcc⟩ : ∃ cc, Hid ((costG j ps).1 = cc) := ⟨_, rfl⟩
      rw [hcc.out] at OF WT1 WO WL1 ⊢
      obtain ⟨vf, hvf⟩ : ∃ vf, Hid (ofG j cc = vf) := ⟨_, rfl⟩
      rw [hvf.out] at OF WT1
      obtain ⟨tr, htr⟩ : ∃ tr, Hid (wordC (depthI j) (kidsI j) (boundI j) cc (depthI j + 1) [] = tr) := ⟨_, rfl⟩
      rw [htr.out] at WT1 WO WL1
      obtain ⟨bc, hbc⟩ : ∃ bc, Hid (bestI j = bc) := ⟨_, rfl⟩
      rw [hbc.out] at WT1 BE
      have CK1 := Lib.hid (CK.out vf tr WL1)
      obtain ⟨R, hR⟩ : ∃ R, Hid (checkR j ps vf tr = R) := ⟨_, rfl⟩
      rw [hR.out] at CK1 WT1
      have q1 : (R == 0) = decide (cc = bc) := by
        rw [Bool.eq_iff_iff]
        simp only [beq_iff_eq, decide_eq_true_eq]
        exact WT1.out
      have q2 : (cc == bc) = decide (cc = bc) := by
        rw [Bool.eq_iff_iff]
        simp
      obtain ⟨tb, htb⟩ : ∃ tb, Hid (decide (cc = bc) = tb) := ⟨_, rfl⟩
      rw [htb.out] at q1 q2
      clear he hcc hvf htr hbc hR WT1 WT CK htb
      have t0 : wa.cell? ⟨w.heap.size, 0, none⟩ = some (.int .i64 j.kind) := Sa.out.b.cell 0
      have t1 : wa.cell? ⟨w.heap.size, 1, none⟩ = some (.int .i64 j.n) := Sa.out.b.cell 1
      have t2 : wa.cell? ⟨w.heap.size, 2, none⟩ = some (.int .i64 j.cap) := Sa.out.b.cell 2
      have t3 : wa.cell? ⟨w.heap.size, 3, none⟩ = some (.slice A3 l3 d3) := Sa.out.b.cell 3
      have t4 : wa.cell? ⟨w.heap.size, 4, none⟩ = some (.slice A4 l4 d4) := Sa.out.b.cell 4
      have t5 : wa.cell? ⟨w.heap.size, 5, none⟩ = some (.slice A5 l5 d5) := Sa.out.b.cell 5
      go_wp2_with (fail)
      refine (WO.out _ _ (Sa.out.r.ext (by (repeat (first | assumption | exact Ext.rf _ | apply Ext.drew | apply Ext.drewN | apply Ext.alloc))))).mono ?_
      rintro e wd ⟨rfl, xd⟩
      have Sd := Lib.hid (Sa.out.ext (Ext.tr (by (repeat (first | assumption | exact Ext.rf _ | apply Ext.drew | apply Ext.drewN | apply Ext.alloc))) xd))
      clear xd Sa WO t0 t1 t2 t3 t4 t5
      have t0 : wd.cell? ⟨w.heap.size, 0, none⟩ = some (.int .i64 j.kind) := Sd.out.b.cell 0
      have t1 : wd.cell? ⟨w.heap.size, 1, none⟩ = some (.int .i64 j.n) := Sd.out.b.cell 1
      have t2 : wd.cell? ⟨w.heap.size, 2, none⟩ = some (.int .i64 j.cap) := Sd.out.b.cell 2
      have t3 : wd.cell? ⟨w.heap.size, 3, none⟩ = some (.slice A3 l3 d3) := Sd.out.b.cell 3
      have t4 : wd.cell? ⟨w.heap.size, 4, none⟩ = some (.slice A4 l4 d4) := Sd.out.b.cell 4
      have t5 : wd.cell? ⟨w.heap.size, 5, none⟩ = some (.slice A5 l5 d5) := Sd.out.b.cell 5
      go_wp2_with (fail)
      refine (BE.out _ _ (Sd.out.r.ext (by (repeat (first | assumption | exact Ext.rf _ | apply Ext.drew | apply Ext.drewN | apply Ext.alloc))))).mono ?_
      rintro e we ⟨rfl, xe⟩
      have Se := Lib.hid (Sd.out.ext (Ext.tr (by (repeat (first | assumption | exact Ext.rf _ | apply Ext.drew | apply Ext.drewN | apply Ext.alloc))) xe))
      clear xe Sd BE t0 t1 t2 t3 t4 t5
      have t0 : we.cell? ⟨w.heap.size, 0, none⟩ = some (.int .i64 j.kind) := Se.out.b.cell 0
      have t1 : we.cell? ⟨w.heap.size, 1, none⟩ = some (.int .i64 j.n) := Se.out.b.cell 1
      have t2 : we.cell? ⟨w.heap.size, 2, none⟩ = some (.int .i64 j.cap) := Se.out.b.cell 2
      have t3 : we.cell? ⟨w.heap.size, 3, none⟩ = some (.slice A3 l3 d3) := Se.out.b.cell 3
      have t4 : we.cell? ⟨w.heap.size, 4, none⟩ = some (.slice A4 l4 d4) := Se.out.b.cell 4
      have t5 : we.cell? ⟨w.heap.size, 5, none⟩ = some (.slice A5 l5 d5) := Se.out.b.cell 5
      have zb := Se.out.b.lt
      go_wp2_with (fail)
      go_region_held3 (fun w' => w'.cell? ⟨w.heap.size, 0, none⟩ = some (.int .i64 j.kind) ∧ w'.cell? ⟨w.heap.size, 1, none⟩ = some (.int .i64 j.n) ∧ w'.cell? ⟨w.heap.size, 2, none⟩ = some (.int .i64 j.cap) ∧ w'.cell? ⟨w.heap.size, 3, none⟩ = some (.slice A3 l3 d3) ∧ w'.cell? ⟨w.heap.size, 4, none⟩ = some (.slice A4 l4 d4) ∧ w'.cell? ⟨w.heap.size, 5, none⟩ = some (.slice A5 l5 d5)) (go_keep)
        (first
          | (go_at_call 34; refine (OF.out _ _ (Se.out.r.ext (by (repeat (first | assumption | exact Ext.rf _ | apply Ext.drew | apply Ext.drewN | apply Ext.alloc))))).mono ?_; rintro e wx ⟨rfl, xx⟩; have Yx := Ext.tr (a := we) (by (repeat (first | assumption | exact Ext.rf _ | apply Ext.drew | apply Ext.drewN | apply Ext.alloc))) xx; have s0 := keepEL Yx zb t0; have s1 := keepEL Yx zb t1; have s2 := keepEL Yx zb t2; have s3 := keepEL Yx zb t3; have s4 := keepEL Yx zb t4; have s5 := keepEL Yx zb t5)
          | (go_at_call 33; refine (CK1.out _ A7 c7 _ (Se.out.r.ext (Ext.tr Yx (by (repeat (first | assumption | exact Ext.rf _ | apply Ext.drew | apply Ext.drewN | apply Ext.alloc))))) (Se.out.l.ext (Ext.tr Yx (by (repeat (first | assumption | exact Ext.rf _ | apply Ext.drew | apply Ext.drewN | apply Ext.alloc))))) l7.1 l7.2).mono ?_; rintro e wy ⟨rfl, xy⟩; have Yy := Ext.tr (a := we) (Ext.tr Yx (by (repeat (first | assumption | exact Ext.rf _ | apply Ext.drew | apply Ext.drewN | apply Ext.alloc)))) xy; have s0 := keepEL Yy zb t0; have s1 := keepEL Yy zb t1; have s2 := keepEL Yy zb t2; have s3 := keepEL Yy zb t3; have s4 := keepEL Yy zb t4; have s5 := keepEL Yy zb t5))
      all_goals
        have X8 := Lib.hid (Se.out.x.tr Yy)
        go_wp2_with (fail)
        go_ret
        exact ⟨by simp, X8.out.tr (by (repeat (first | assumption | exact Ext.rf _ | apply Ext.drew | apply Ext.drewN | apply Ext.alloc)))⟩
    · have he1 : ((costG j ps).2 == 0) = false := by simpa using he
      generalize (costG j ps).2 = ee at *
      go_wp2_with (fail)
      go_ret
      exact ⟨rfl, Sa.out.x.tr (by (repeat (first | assumption | exact Ext.rf _ | apply Ext.drew | apply Ext.drewN | apply Ext.alloc)))⟩
theorem walk (vs : List Value) (i : InstP) (P : Option Addr) (pc : Nat) (xs : List Int) (w : World) (H : RInst w vs i) (_ : InstOk i) (hP : RdI w P xs) (ix : Ints xs) (lx : xs.length ≤ pc) (lc : pc ≤ maxLen) :
    Calls Try.prog 4 #[.agg (List.toArray vs), .slice P xs.length pc] w fun e w' => e = .returned (.bool true) ∧ Ext w w' := walk_all i (copyP i) rfl vs P pc xs w H hP ix lx lc
set_option maxRecDepth 100000 in
theorem lifted (os : Os) (started : os.Started) (H : Type) (enc : TypeId × Value → H) :
    ReturnsInHanded {} Try.checked os 4 .any (Rows.checkWordsSpec.pre6 enc Try.prog Try.f4 Rows.checkWordsRow.domain false) (Rows.checkWordsSpec.post enc Try.prog Try.f4 false true false false) := by
  refine returnsInHanded_of_change (C := Try.checked) own started (by kernel_rfl) Try.func4
    (ChangeSpec.witness6 (enc := enc) (C := Try.checked) false ⟨#[], #[.agg #[.int .i64 0, .int .i64 0, .int .i64 0, .slice none 0 0, .slice none 0 0, .slice none 0 0], .slice none 0 0], []⟩ 8 (by kernel_rfl) (by kernel_rfl) (by kernel_rfl) (by kernel_rfl)) ?_
  intro W base args ds gs before hval0 hW _ _
  have hval : ∀ (j : Nat) t v, Try.f4.params[j]? = some t → args[j]? = some v → Value.okWide Try.prog W .any base t v := hval0
  have hW' := hW
  obtain ⟨p, q, hA0, hV, rfl, hfz, hnd⟩ := hW
  have hA : DataW.TrodAll enc Try.prog W 0 (fun _ => true) true Try.f4.params.toList args.toList ds p := hA0
  rw [Try.params4] at hA hval
  obtain ⟨v0, vs0, d0, ds0, p0, q0, hargs, rfl, rfl, h0, r0⟩ := trodAll_cons hA
  obtain ⟨v1, vs1, d1, ds1, p1, q1, rfl, rfl, rfl, h1, r1⟩ := trodAll_cons r0
  obtain ⟨rfl, rfl, rfl⟩ := trodAll_nil r1
  obtain rfl : args = #[v0, v1] := by cases args; simp_all
  obtain ⟨rfl, rfl⟩ := trodVars_none hV
  obtain ⟨y0, x0, rfl, hx0, ix0⟩ := open_Inst h0 (hval 0 _ v0 rfl rfl)
  obtain ⟨A1, x1, c1, rfl, hx1, ix1, lx1, lc1⟩ := open_RdI h1 (hval 1 _ v1 rfl rfl)
  refine (walk y0 x0 A1 c1 x1 W hx0 ix0 hx1 ix1 lx1 lc1).mono fun e W' ⟨he, hg⟩ => ?_
  subst he
  exact ⟨_, rfl, post_law hW' rfl rfl rfl rfl rfl (readable_of (by kernel_rfl)) hg⟩
theorem proved : Rows.CheckWordsSaid :=
  OpenClaim.holds_of_wide 4 Try.f4 rfl rfl rfl rfl rfl rfl rfl ⟨rfl, rfl, rfl, rfl, rfl⟩ rfl rfl rfl rfl rfl (by kernel_rfl) Try.func4 (by kernel_rfl)
    (of_decide_eq_true (by kernel_rfl)) (by unfold Func.isWrapper; first | (rw [if_pos (by decide +kernel)]; kernel_rfl) | (rw [if_neg (by decide +kernel)]; exact ⟨rfl, rfl⟩))
    (fun os started H enc _ => lifted os started H enc)
end Go.Proofs.Ytcpadkaljnnieaa.checkWords
