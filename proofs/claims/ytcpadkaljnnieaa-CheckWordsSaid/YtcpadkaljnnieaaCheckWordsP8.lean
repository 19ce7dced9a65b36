/-
  The document's kernel by a problem's kind (kurganref14): Depth, Kids, Bound; kids in order (kurganref31).
  Lists that wait, in memory: how much there is to do still; the last one; all but the last one.
  The document's check of a word: by a list of beginnings that wait (kurganref31.Check).
  The document's Read of a tree's word (kurganref29), at a word of a whole search.
  The document's word of a search (kurganref31.Word), of problems of few items.
-/
import Derived.Test.YtcpadkaljnnieaaCheckWordsP7
namespace Go.Proofs.Ytcpadkaljnnieaa
open Go.RowKit Go.ChangeShapes Go.WideShapes Go.ChangeAt Go.Deep

/-- numbers that may follow are told -/
def Kids14 (l : List Int) (w : World) (e : Ending) (w' : World) : Prop := ∃ (A : Option Addr) (c : Nat) (er : Int), e = .returned (.tuple #[.slice A l.length c, .int .i64 er]) ∧ RdI w' A l ∧ Ext w w'
def Bound14 (b : Int) (w : World) (e : Ending) (w' : World) : Prop := ∃ er : Int, e = .returned (.tuple #[.int .i64 b, .int .i64 er]) ∧ Ext w w'
set_option maxRecDepth 100000 in
theorem rdepth14_any (i : InstP) (us : List Value) (w : World) (H : RInst w us i) (hc : checkP i = 0) :
    Calls Try.prog 59 #[.agg (List.toArray us)] w fun e w' => e = .returned (.int .i64 (depthI i)) ∧ Ext w w' := by
  have hn : 1 ≤ i.n ∧ i.n ≤ 64 := by
    rcases check_kind hc with h | h | h
    · have ok := knap_ok hc h; exact ⟨ok.n1, ok.n2⟩
    · have sq := square_ok hc (by omega); exact ⟨sq.n1, by have := sq.n2; omega⟩
    · have sq := square_ok hc (by omega); exact ⟨sq.n1, by have := sq.n2; omega⟩
  have hd : Hid ((depthI i : Int) = if i.kind = 3 then i.n - 1 else i.n) := by
    have h : (depthI i : Int) = if i.kind = 3 then i.n - 1 else i.n := by
      unfold depthI
      split <;> omega
    exact h
  obtain ⟨D, hD⟩ : ∃ D : Int, Hid ((depthI i : Int) = D) := ⟨_, rfl⟩
  rw [hD.out] at hd ⊢
  clear hc hD
  obtain ⟨kind, nn, cap, xw, xv, co⟩ := i
  obtain ⟨A, a, B, b, Dd, d, rfl, -, -, -⟩ := H
  simp only at *
  by_cases hk : kind = 3
  · subst hk
    have E : Hid (nn - 1 = D) := by
      have h := hd.out
      rw [if_pos rfl] at h
      exact h.symm
    clear hd
    go_enter Try.func59, Try.ntmps59
    go_wp2_with (fail)
    go_ret
    exact ⟨ret_i E.out, by (repeat (first | assumption | exact Ext.rf _ | apply Ext.drew | apply Ext.drewN | apply Ext.alloc))⟩
  · have hk1 : (kind == 3) = false := by simpa using hk
    have E : Hid (nn = D) := by
      have h := hd.out
      rw [if_neg hk] at h
      exact h.symm
    clear hd
    go_enter Try.func59, Try.ntmps59
    go_wp2_with (fail)
    go_ret
    exact ⟨ret_i E.out, by (repeat (first | assumption | exact Ext.rf _ | apply Ext.drew | apply Ext.drewN | apply Ext.alloc))⟩
set_option maxRecDepth 100000 in
theorem rkids14_1 (i : InstP) (us : List Value) (P : Option Addr) (c : Nat) (p : List Int) (w : World) (H : RInst w us i) (hc : checkP i = 0) (hk : i.kind = 1) (hP : RdI w P p) (lp : p.length ≤ 1000000000) :
    Calls Try.prog 94 #[.agg (List.toArray us), .slice P p.length c] w (Kids14 (kidsR i p) w) := by
  have e : kidsR i p = (kidsP i.cap (wsP i) (vsP i) p).1 := by unfold kidsR; rw [if_pos hk]
  have KI : Hid (∀ W, Ext w W → Calls Try.prog 124 #[.agg (List.toArray us), .slice P p.length c] W (Kids14 (kidsR i p) W)) := fun W x => by
    refine (rkids_any i us P c p W (H.ext x) (knap_ok hc hk) (hP.ext x) lp).mono ?_
    intro e1 w1 h
    unfold KidsPost at h
    obtain ⟨A1, c1, rfl, r1, -, -, x1⟩ := h
    exact ⟨A1, c1, _, by rw [e], by rw [e]; exact r1, x1⟩
  unfold Kids14 at KI ⊢
  clear e hc
  generalize kidsR i p = l at *
  obtain ⟨kind, nn, cap, xw, xv, co⟩ := i
  obtain ⟨A, a, B, b, D, d, rfl, -, -, -⟩ := H
  simp only at *
  subst hk
  go_enter Try.func94, Try.ntmps94
  go_wp2_with (fail)
  refine (KI.out _ (by (repeat (first | assumption | exact Ext.rf _ | apply Ext.drew | apply Ext.drewN | apply Ext.alloc)))).mono ?_
  rintro e w1 ⟨A1, c1, er, rfl, r1, x1⟩
  have X1 := Lib.hid (Ext.tr (a := w) (by (repeat (first | assumption | exact Ext.rf _ | apply Ext.drew | apply Ext.drewN | apply Ext.alloc))) x1)
  replace r1 := Lib.hid r1
  clear x1 KI
  go_wp2_with (fail)
  go_ret2
  exact ⟨A1, c1, er, rfl, r1.out.ext (by (repeat (first | assumption | exact Ext.rf _ | apply Ext.drew | apply Ext.drewN | apply Ext.alloc))), X1.out.tr (by (repeat (first | assumption | exact Ext.rf _ | apply Ext.drew | apply Ext.drewN | apply Ext.alloc)))⟩
set_option maxRecDepth 100000 in
theorem rkids14_2 (i : InstP) (us : List Value) (P : Option Addr) (c : Nat) (p : List Int) (w : World) (H : RInst w us i) (hc : checkP i = 0) (hk : i.kind = 2) (hP : RdI w P p) (lp : p.length ≤ 1000000000) :
    Calls Try.prog 94 #[.agg (List.toArray us), .slice P p.length c] w (Kids14 (kidsR i p) w) := by
  have e : kidsR i p = (kidsA i.cost p).1 := by unfold kidsR; rw [if_neg (by omega), if_pos hk]
  have KI : Hid (∀ W, Ext w W → Calls Try.prog 125 #[.agg (List.toArray us), .slice P p.length c] W (Kids14 (kidsR i p) W)) := fun W x => by
    refine (rkids12_any i us P c p W (H.ext x) (square_ok hc (by omega)) (hP.ext x) lp).mono ?_
    intro e1 w1 h
    unfold OwnPost at h
    obtain ⟨A1, c1, rfl, r1, x1⟩ := h; replace r1 := r1.read
    exact ⟨A1, c1, _, by rw [e], by rw [e]; exact r1, x1⟩
  unfold Kids14 at KI ⊢
  clear e hc
  generalize kidsR i p = l at *
  obtain ⟨kind, nn, cap, xw, xv, co⟩ := i
  obtain ⟨A, a, B, b, D, d, rfl, -, -, -⟩ := H
  simp only at *
  subst hk
  go_enter Try.func94, Try.ntmps94
  go_wp2_with (fail)
  refine (KI.out _ (by (repeat (first | assumption | exact Ext.rf _ | apply Ext.drew | apply Ext.drewN | apply Ext.alloc)))).mono ?_
  rintro e w1 ⟨A1, c1, er, rfl, r1, x1⟩
  have X1 := Lib.hid (Ext.tr (a := w) (by (repeat (first | assumption | exact Ext.rf _ | apply Ext.drew | apply Ext.drewN | apply Ext.alloc))) x1)
  replace r1 := Lib.hid r1
  clear x1 KI
  go_wp2_with (fail)
  go_ret2
  exact ⟨A1, c1, er, rfl, r1.out.ext (by (repeat (first | assumption | exact Ext.rf _ | apply Ext.drew | apply Ext.drewN | apply Ext.alloc))), X1.out.tr (by (repeat (first | assumption | exact Ext.rf _ | apply Ext.drew | apply Ext.drewN | apply Ext.alloc)))⟩
set_option maxRecDepth 100000 in
theorem rkids14_3 (i : InstP) (us : List Value) (P : Option Addr) (c : Nat) (p : List Int) (w : World) (H : RInst w us i) (hc : checkP i = 0) (hk : i.kind = 3) (hP : RdI w P p) (lp : p.length ≤ 1000000000) :
    Calls Try.prog 94 #[.agg (List.toArray us), .slice P p.length c] w (Kids14 (kidsR i p) w) := by
  have e : kidsR i p = (kidsT i.cost p).1 := by unfold kidsR; rw [if_neg (by omega), if_neg (by omega)]
  have KI : Hid (∀ W, Ext w W → Calls Try.prog 126 #[.agg (List.toArray us), .slice P p.length c] W (Kids14 (kidsR i p) W)) := fun W x => by
    refine (rkids13_any i us P c p W (H.ext x) (square_ok hc (by omega)) (hP.ext x) lp).mono ?_
    intro e1 w1 h
    unfold OwnPost at h
    obtain ⟨A1, c1, rfl, r1, x1⟩ := h; replace r1 := r1.read
    exact ⟨A1, c1, _, by rw [e], by rw [e]; exact r1, x1⟩
  unfold Kids14 at KI ⊢
  clear e hc
  generalize kidsR i p = l at *
  obtain ⟨kind, nn, cap, xw, xv, co⟩ := i
  obtain ⟨A, a, B, b, D, d, rfl, -, -, -⟩ := H
  simp only at *
  subst hk
  go_enter Try.func94, Try.ntmps94
  go_wp2_with (fail)
  refine (KI.out _ (by (repeat (first | assumption | exact Ext.rf _ | apply Ext.drew | apply Ext.drewN | apply Ext.alloc)))).mono ?_
  rintro e w1 ⟨A1, c1, er, rfl, r1, x1⟩
  have X1 := Lib.hid (Ext.tr (a := w) (by (repeat (first | assumption | exact Ext.rf _ | apply Ext.drew | apply Ext.drewN | apply Ext.alloc))) x1)
  replace r1 := Lib.hid r1
  clear x1 KI
  go_wp2_with (fail)
  go_ret2
  exact ⟨A1, c1, er, rfl, r1.out.ext (by (repeat (first | assumption | exact Ext.rf _ | apply Ext.drew | apply Ext.drewN | apply Ext.alloc))), X1.out.tr (by (repeat (first | assumption | exact Ext.rf _ | apply Ext.drew | apply Ext.drewN | apply Ext.alloc)))⟩
set_option maxRecDepth 100000 in
theorem rbound14_1 (i : InstP) (us : List Value) (P : Option Addr) (c : Nat) (p : List Int) (w : World) (H : RInst w us i) (hc : checkP i = 0) (hk : i.kind = 1) (hP : RdI w P p) (lp : p.length ≤ 1000000000) :
    Calls Try.prog 58 #[.agg (List.toArray us), .slice P p.length c] w (Bound14 (boundI i p) w) := by
  have e : boundI i p = (boundP i.cap (wsP i) (vsP i) p).1 := by unfold boundI; rw [if_pos hk]
  have KI : Hid (∀ W, Ext w W → Calls Try.prog 91 #[.agg (List.toArray us), .slice P p.length c] W (Bound14 (boundI i p) W)) := fun W x => by
    refine (rbound_any i us P c p W (H.ext x) (knap_ok hc hk) (hP.ext x) lp).mono ?_
    rintro e1 w1 ⟨rfl, x1⟩
    exact ⟨_, by rw [e]; rfl, x1⟩
  unfold Bound14 at KI ⊢
  clear e hc
  generalize boundI i p = l at *
  obtain ⟨kind, nn, cap, xw, xv, co⟩ := i
  obtain ⟨A, a, B, b, D, d, rfl, -, -, -⟩ := H
  simp only at *
  subst hk
  go_enter Try.func58, Try.ntmps58
  go_wp2_with (fail)
  refine (KI.out _ (by (repeat (first | assumption | exact Ext.rf _ | apply Ext.drew | apply Ext.drewN | apply Ext.alloc)))).mono ?_
  rintro e w1 ⟨er, rfl, x1⟩
  have X1 := Lib.hid (Ext.tr (a := w) (by (repeat (first | assumption | exact Ext.rf _ | apply Ext.drew | apply Ext.drewN | apply Ext.alloc))) x1)
  clear x1 KI
  go_wp2_with (fail)
  go_ret2
  exact ⟨er, rfl, X1.out.tr (by (repeat (first | assumption | exact Ext.rf _ | apply Ext.drew | apply Ext.drewN | apply Ext.alloc)))⟩
set_option maxRecDepth 100000 in
theorem rbound14_2 (i : InstP) (us : List Value) (P : Option Addr) (c : Nat) (p : List Int) (w : World) (H : RInst w us i) (hc : checkP i = 0) (hk : i.kind = 2) (hP : RdI w P p) (lp : p.length ≤ 1000000000) :
    Calls Try.prog 58 #[.agg (List.toArray us), .slice P p.length c] w (Bound14 (boundI i p) w) := by
  have e : boundI i p = (boundA i.cost p).1 := by unfold boundI; rw [if_neg (by omega), if_pos hk]
  have KI : Hid (∀ W, Ext w W → Calls Try.prog 92 #[.agg (List.toArray us), .slice P p.length c] W (Bound14 (boundI i p) W)) := fun W x => by
    refine (rbound12_any i us P c p W (H.ext x) (square_ok hc (by omega)) (hP.ext x) lp).mono ?_
    rintro e1 w1 ⟨rfl, x1⟩
    exact ⟨_, by rw [e], x1⟩
  unfold Bound14 at KI ⊢
  clear e hc
  generalize boundI i p = l at *
  obtain ⟨kind, nn, cap, xw, xv, co⟩ := i
  obtain ⟨A, a, B, b, D, d, rfl, -, -, -⟩ := H
  simp only at *
  subst hk
  go_enter Try.func58, Try.ntmps58
  go_wp2_with (fail)
  refine (KI.out _ (by (repeat (first | assumption | exact Ext.rf _ | apply Ext.drew | apply Ext.drewN | apply Ext.alloc)))).mono ?_
  rintro e w1 ⟨er, rfl, x1⟩
  have X1 := Lib.hid (Ext.tr (a := w) (by (repeat (first | assumption | exact Ext.rf _ | apply Ext.drew | apply Ext.drewN | apply Ext.alloc))) x1)
  clear x1 KI
  go_wp2_with (fail)
  go_ret2
  exact ⟨er, rfl, X1.out.tr (by (repeat (first | assumption | exact Ext.rf _ | apply Ext.drew | apply Ext.drewN | apply Ext.alloc)))⟩
set_option maxRecDepth 100000 in
theorem rbound14_3 (i : InstP) (us : List Value) (P : Option Addr) (c : Nat) (p : List Int) (w : World) (H : RInst w us i) (hc : checkP i = 0) (hk : i.kind = 3) (hP : RdI w P p) (lp : p.length ≤ 1000000000) :
    Calls Try.prog 58 #[.agg (List.toArray us), .slice P p.length c] w (Bound14 (boundI i p) w) := by
  have e : boundI i p = (boundT i.cost (mirP i.cost) p).1 := by unfold boundI; rw [if_neg (by omega), if_neg (by omega)]
  have KI : Hid (∀ W, Ext w W → Calls Try.prog 93 #[.agg (List.toArray us), .slice P p.length c] W (Bound14 (boundI i p) W)) := fun W x => by
    refine (rbound13_any i us P c p W (H.ext x) (square_ok hc (by omega)) (hP.ext x) lp).mono ?_
    rintro e1 w1 ⟨rfl, x1⟩
    exact ⟨_, by rw [e], x1⟩
  unfold Bound14 at KI ⊢
  clear e hc
  generalize boundI i p = l at *
  obtain ⟨kind, nn, cap, xw, xv, co⟩ := i
  obtain ⟨A, a, B, b, D, d, rfl, -, -, -⟩ := H
  simp only at *
  subst hk
  go_enter Try.func58, Try.ntmps58
  go_wp2_with (fail)
  refine (KI.out _ (by (repeat (first | assumption | exact Ext.rf _ | apply Ext.drew | apply Ext.drewN | apply Ext.alloc)))).mono ?_
  rintro e w1 ⟨er, rfl, x1⟩
  have X1 := Lib.hid (Ext.tr (a := w) (by (repeat (first | assumption | exact Ext.rf _ | apply Ext.drew | apply Ext.drewN | apply Ext.alloc))) x1)
  clear x1 KI
  go_wp2_with (fail)
  go_ret2
  exact ⟨er, rfl, X1.out.tr (by (repeat (first | assumption | exact Ext.rf _ | apply Ext.drew | apply Ext.drewN | apply Ext.alloc)))⟩
theorem rkids14_any (i : InstP) (us : List Value) (P : Option Addr) (c : Nat) (p : List Int) (w : World) (H : RInst w us i) (hc : checkP i = 0) (hP : RdI w P p) (lp : p.length ≤ 1000000000) :
    Calls Try.prog 94 #[.agg (List.toArray us), .slice P p.length c] w (Kids14 (kidsR i p) w) := by
  rcases check_kind hc with h | h | h
  · exact rkids14_1 i us P c p w H hc h hP lp
  · exact rkids14_2 i us P c p w H hc h hP lp
  · exact rkids14_3 i us P c p w H hc h hP lp
theorem rbound14_any (i : InstP) (us : List Value) (P : Option Addr) (c : Nat) (p : List Int) (w : World) (H : RInst w us i) (hc : checkP i = 0) (hP : RdI w P p) (lp : p.length ≤ 1000000000) :
    Calls Try.prog 58 #[.agg (List.toArray us), .slice P p.length c] w (Bound14 (boundI i p) w) := by
  rcases check_kind hc with h | h | h
  · exact rbound14_1 i us P c p w H hc h hP lp
  · exact rbound14_2 i us P c p w H hc h hP lp
  · exact rbound14_3 i us P c p w H hc h hP lp
set_option maxRecDepth 100000 in
set_option maxHeartbeats 2000000 in
theorem rkids31_any (i : InstP) (us : List Value) (Q : Option Addr) (qc : Nat) (q : List Int) (w0 : World) (H : RInst w0 us i) (hc : checkP i = 0) (hQ : RdI w0 Q q) (lq : q.length ≤ 1000000000) (hl0 : (kidsR i q).length ≤ 1000) :
    Calls Try.prog 60 #[.agg (List.toArray us), .slice Q q.length qc] w0 (OwnL (rising (kidsR i q)) w0) := by
  have KI := Lib.hid (fun (W : World) (x : Ext w0 W) => rkids14_any i us Q qc q W (H.ext x) hc (hQ.ext x) lq)
  obtain ⟨l, hl⟩ : ∃ l, Hid (kidsR i q = l) := ⟨_, rfl⟩
  rw [hl.out] at KI hl0 ⊢
  clear hl hc hQ
  have BK := fun (P : Option Addr) (pc : Nat) (W : World) (x : RdI W P l) => byKey_any P pc l W x hl0
  unfold OwnL at BK ⊢
  unfold Kids14 at KI
  simp only [intsN_len, byKey_len] at BK
  have bl1 := byKey_len l
  have BL : Hid (∀ k a, (byKey l)[k]? = some a → a < l.length) := fun k a h => byKey_lt h
  have RL := rising_len l
  have RE : rising l = (byKey l).map fun a => l.getD a 0 := rfl
  obtain ⟨R, hR⟩ : ∃ R, Hid (rising l = R) := ⟨_, rfl⟩
  rw [hR.out] at RE RL ⊢
  replace RE := Lib.hid RE
  rw [RL]
  replace BK := Lib.hid BK
  generalize byKey l = o at *
  replace RL := Lib.hid RL
  replace bl1 := Lib.hid bl1
  clear hR
  obtain ⟨A, a, B, b, D, d, rfl, -, -, -⟩ := H
  obtain ⟨kind, hkd⟩ : ∃ q, Hid (q = i.kind) := ⟨_, rfl⟩
  obtain ⟨nn, hnn⟩ : ∃ q, Hid (q = i.n) := ⟨_, rfl⟩
  obtain ⟨cap, hcap⟩ : ∃ q, Hid (q = i.cap) := ⟨_, rfl⟩
  obtain ⟨lxw, hxw⟩ : ∃ q, Hid (q = i.weight.length) := ⟨_, rfl⟩
  obtain ⟨lxv, hxv⟩ : ∃ q, Hid (q = i.value.length) := ⟨_, rfl⟩
  obtain ⟨lco, hco⟩ : ∃ q, Hid (q = i.cost.length) := ⟨_, rfl⟩
  rw [← hkd.out, ← hnn.out, ← hcap.out, ← hxw.out, ← hxv.out, ← hco.out] at KI ⊢
  clear hkd hnn hcap hxw hxv hco
  go_enter Try.func60, Try.ntmps60
  go_wp2_with (fail)
  refine (KI.out _ (by (repeat (first | assumption | exact Ext.rf _ | apply Ext.drew | apply Ext.drewN | apply Ext.alloc)))).mono ?_
  rintro e w ⟨P, pc, er, rfl, hP, xw⟩
  have XW := Lib.hid (Ext.tr (a := w0) (by (repeat (first | assumption | exact Ext.rf _ | apply Ext.drew | apply Ext.drewN | apply Ext.alloc))) xw)
  replace hP := Lib.hid hP
  clear xw KI
  go_wp2_with (fail)
  refine (BK.out P pc _ (hP.out.ext (by (repeat (first | assumption | exact Ext.rf _ | apply Ext.drew | apply Ext.drewN | apply Ext.alloc))))).mono ?_
  rintro e w1 ⟨A1, c1, rfl, o1, x1⟩
  have X1 := Lib.hid (Ext.tr (a := w) (by (repeat (first | assumption | exact Ext.rf _ | apply Ext.drew | apply Ext.drewN | apply Ext.alloc))) x1)
  have r1 := Lib.hid o1.read
  have z1 := (XW.out.tr X1.out).size
  clear x1 o1 BK
  have S0 : Hid (OwI (w1.alloc (.cells #[] 3)) w1.heap.size (some ⟨w1.heap.size, 0, none⟩) 0 []) := OwI.empty (.new rfl) (Nat.le_refl _)
  go_wp2_with (fail)
  go_loopw [8, 9] (fun v4 v wr => ∃ (k : Nat) (B : Option Addr) (bc : Nat) (xs : List Int), v = .int .i64 k ∧ v4 = .slice B xs.length bc ∧ k ≤ l.length ∧ Hid (xs = (o.take k).map fun a => l.getD a 0) ∧ Hid (OwI wr w1.heap.size B bc xs) ∧ Hid (Ext w1 wr)) (fun _ v _ => l.length - (intOf v).toNat)
  case atStart => exact ⟨0, _, 0, [], rfl, rfl, by omega, rfl, S0.out.ext (by (repeat (first | assumption | exact Ext.rf _ | apply Ext.drew | apply Ext.drewN | apply Ext.alloc))), by (repeat (first | assumption | exact Ext.rf _ | apply Ext.drew | apply Ext.drewN | apply Ext.alloc))⟩
  case round =>
    obtain ⟨wo, rfl⟩ : ∃ wo : World, wo = wr := ⟨_, rfl⟩
    clear S0
    obtain ⟨k, B, bc, xs, rfl, rfl, hk, hx, oB, Y⟩ := hrel
    have lk : xs.length ≤ l.length := by rw [hx.out, List.length_map, List.length_take, bl1.out]; omega
    by_cases hlt : k < l.length
    · obtain ⟨a, ha⟩ : ∃ a, Hid (o[k]? = some a) := ⟨o[k]'(by rw [bl1.out]; exact hlt), List.getElem?_eq_getElem _⟩
      have hal := BL.out k a ha.out
      obtain ⟨ob, oo, av, rfl, zo, co, eo, _⟩ := (r1.out.ext Y.out).at (k := k) (by rw [intsN_len, bl1.out]; exact hlt)
      obtain rfl : av = (a : Int) := by
        have h := eo.out
        rw [intsN_get ha.out] at h
        exact (Option.some.inj h).symm
      obtain ⟨lb, lo, x, rfl, zl, cl, el, _⟩ := ((hP.out.ext X1.out).ext Y.out).at (k := a) hal
      have q1 : (k : Int) < (l.length : Int) := by omega
      have q2 : (a : Int) < (l.length : Int) := by omega
      have NX : Hid (xs ++ [x] = (o.take (k + 1)).map fun a => l.getD a 0) := by
        have h : xs ++ [x] = (o.take (k + 1)).map fun a => l.getD a 0 := by
          rw [List.take_add_one, ha.out, List.map_append, hx.out]
          simp [List.getD, el.out]
        exact h
      clear eo el hx
      go_wp2_with (at_builtin; (refine wpl_app_i _ rfl _ _ rfl w1.heap.size B xs.length bc xs [x] (some ⟨wo.heap.size, 0, none⟩) 1 rfl rfl rfl ?_ ?_ ?_ ?_ ?_; (exact oB.out.ext ((Ext.rf _).alloc _)); (exact .blk (.new (by simp)) rfl); (simp; omega); (have := Y.out.size; simp; omega); rintro A7 c7 w7 o7 g7 _; have Y7 : Ext w1 w7 := Ext.grow (a := w1) (Y.out.alloc _) g7 (fun kk hkk => (oB.out.lt kk hkk).1)))
      have O7 : Hid (OwI w7 w1.heap.size A7 c7 (xs ++ [x])) := o7
      replace Y7 := Lib.hid Y7
      clear o7 g7
      go_wp2_with (fail)
      go_roundw
      case rel => exact ⟨k + 1, A7, c7, xs ++ [x], by go_num, by first | rfl | simp, by omega, NX, OwI.ext O7.out (by (repeat (first | assumption | exact Ext.rf _ | apply Ext.drew | apply Ext.drewN | apply Ext.alloc))), Ext.tr Y7.out (by (repeat (first | assumption | exact Ext.rf _ | apply Ext.drew | apply Ext.drewN | apply Ext.alloc)))⟩
      case measure => simp [intOf]; omega
    · obtain rfl : k = l.length := by omega
      have E : Hid (xs = R) := by
        have h := hx.out
        rw [← bl1.out, List.take_length, ← RE.out] at h
        exact h
      have E2 : Hid (OwI wo w0.heap.size B bc R) := by
        have h := oB.out
        rw [E.out] at h
        exact h.more z1
      have E3 : Hid (Value.slice B xs.length bc = .slice B l.length bc) := by
        have h : Value.slice B xs.length bc = .slice B l.length bc := by rw [E.out, RL.out]
        exact h
      rw [E3.out]
      go_wp2_with (fail)
      go_ret
      exact ⟨B, bc, rfl, E2.out.ext (by (repeat (first | assumption | exact Ext.rf _ | apply Ext.drew | apply Ext.drewN | apply Ext.alloc))), XW.out.tr ((X1.out.tr Y.out).tr (by (repeat (first | assumption | exact Ext.rf _ | apply Ext.drew | apply Ext.drewN | apply Ext.alloc))))⟩
end Go.Proofs.Ytcpadkaljnnieaa
namespace Go.Proofs.Ytcpadkaljnnieaa
open Go.RowKit Go.ChangeShapes Go.WideShapes Go.ChangeAt Go.Deep

section
variable {w w' : World} {B : Nat} {us : List Value} {W q : List (List Int)} {p : List Int} {A : Option Addr}
theorem RowsO.len (h : RowsO w B us W) : us.length = W.length := h.1
theorem RowsO.last (h : RowsO w B us (q ++ [p])) : ∃ A c, us[q.length]? = some (.slice A p.length c) ∧ OwI w B A c p := h.2 q.length p (by simp)
theorem RowsO.init (h : RowsO w B us (q ++ [p])) : RowsO w B (us.take q.length) q := by
  refine ⟨by have := h.1; simp at this; simp; omega, fun i r hi => ?_⟩
  have hlt := (List.getElem?_eq_some_iff.1 hi).1
  obtain ⟨A', c', h1, h2⟩ := h.2 i r (by rw [List.getElem?_append_left hlt]; exact hi)
  exact ⟨A', c', by rw [List.getElem?_take, if_pos hlt]; exact h1, h2⟩
end
end Go.Proofs.Ytcpadkaljnnieaa
namespace Go.Proofs.Ytcpadkaljnnieaa
open Go.RowKit Go.ChangeShapes Go.WideShapes Go.ChangeAt Go.Deep

set_option maxRecDepth 100000 in
theorem bsw0_run (u : World) : (Instr.buildSlice 22 0 #[]).run Try.prog u = .ok (.slice (some ⟨u.heap.size, 0, none⟩) 0 0) (u.alloc (.cells #[] 3)) := by go_simp
set_option maxRecDepth 100000 in
theorem bsw1_run (u : World) (x : Int) : (Instr.buildSlice 22 1 #[(0, .int .i64 x)]).run Try.prog u = .ok (.slice (some ⟨u.heap.size, 0, none⟩) 1 1) (u.alloc (.cells #[.int .i64 x] 3)) := by go_simp
set_option maxRecDepth 100000 in
theorem bswv_run (u : World) (A : Option Addr) (n c : Nat) : (Instr.buildSlice 59 1 #[(0, .slice A n c)]).run Try.prog u = .ok (.slice (some ⟨u.heap.size, 0, none⟩) 1 1) (u.alloc (.cells #[.slice A n c] 22)) := by go_simp
theorem lists_info : (Try.prog.info? 22).map (fun i => (i.zero, i.size, i.bytes)) = some (some (.slice none 0 0), 1, 24) := by kernel_rfl
/-- the beginnings that wait, in memory: the one that is next lies last -/
def WaitS (base : Nat) (w : World) (A : Option Addr) (n c : Nat) (S : List (List Int)) : Prop := ∃ us, OwV w base 22 1 A n c us ∧ RowsO w base us S.reverse
theorem WaitS.ext {base n c : Nat} {w w' : World} {A : Option Addr} {S : List (List Int)} (h : WaitS base w A n c S) (x : Ext w w') : WaitS base w' A n c S := by
  obtain ⟨us, h1, h2⟩ := h
  exact ⟨us, h1.ext x, h2.ext x⟩
theorem WaitS.len {base n c : Nat} {w : World} {A : Option Addr} {S : List (List Int)} (h : WaitS base w A n c S) : n = S.length ∧ n ≤ c := by
  obtain ⟨us, h1, h2⟩ := h
  have e := h1.len
  have e2 := h2.1
  rw [List.length_reverse] at e2
  exact ⟨by omega, h1.le.1⟩
theorem WaitS.first {base : Nat} {w : World} {g b : Nat} (hg : Blk w g 22 #[.slice (some ⟨b, 0, none⟩) 0 0]) (hb : Blk w b 3 #[]) (h1 : base ≤ g) (h2 : base ≤ b) : WaitS base w (some ⟨g, 0, none⟩) 1 1 [[]] :=
  ⟨_, OwV.full hg h1 rfl (by simp [maxLen]), (RowsO.nil w base).snoc (OwI.empty hb h2)⟩
/-- the one that is next, and the others -/
theorem WaitS.top {base n c : Nat} {w : World} {A : Option Addr} {S : List (List Int)} {p : List Int} (h : WaitS base w A n c (p :: S)) : ∃ (g : Nat) (PA : Option Addr) (pc : Nat) (us : List Value), n = S.length + 1 ∧ A = some ⟨g, 0, none⟩ ∧ w.cell? ⟨g, S.length, none⟩ = some (.slice PA p.length pc) ∧ OwI w base PA pc p ∧ RdC w A (us.take S.length) ∧ (us.take S.length).length = S.length ∧ RowsO w base (us.take S.length) S.reverse ∧ ∀ u ∈ us.take S.length, Value.oneCell' u = true := by
  obtain ⟨us, h1, h2⟩ := h
  have e := h1.len
  have e2 := h2.1
  rw [List.length_reverse] at e2
  simp only [List.length_cons] at e2
  rw [List.reverse_cons] at h2
  obtain ⟨PA, pc, k1, k2⟩ := h2.last
  have k3 := h2.init
  rw [List.length_reverse] at k1 k3
  rcases h1.cases with ⟨_, _, h0, _⟩ | ⟨g, cur, rfl, _⟩
  · omega
  · obtain ⟨b, off, v, hq, _, hc, hv⟩ := h1.read.at (j := S.length) (by omega)
    obtain ⟨rfl, rfl⟩ : g = b ∧ 0 = off := by simpa using hq
    have e4 := hv.out
    rw [k1] at e4
    obtain rfl := Option.some.inj e4
    refine ⟨g, PA, pc, us, by omega, rfl, by simpa using hc, k2, (h1.read.take S.length).rdC, by rw [List.length_take]; omega, k3, fun u hu => ?_⟩
    obtain ⟨z, hz⟩ := List.getElem?_of_mem hu
    have hz2 := (List.getElem?_eq_some_iff.1 hz).1
    rw [k3.1] at hz2
    obtain ⟨A9, c9, e9, _⟩ := k3.2 z _ (List.getElem?_eq_getElem hz2)
    rw [hz] at e9
    obtain rfl := Option.some.inj e9
    rfl
theorem cost_chk {i : InstP} {x : List Int} (h : (costG i x).2 = 0) : checkP i = 0 := by
  unfold costG at h
  by_cases hc : checkP i = 0
  · exact hc
  · rw [if_pos hc] at h
    exact absurd h hc
theorem cost_bd1 {i : InstP} {x : List Int} (h : (costG i x).2 = 0) (hk : i.kind = 1) : 0 ≤ (costG i x).1 ∧ (costG i x).1 ≤ (i.value.length : Int) * 2147483647 := by
  have hc := cost_chk h
  have ok := knap_ok hc hk
  have hl := leftL_in x i.value ok.sv
  unfold costG at h ⊢
  rw [if_neg (fun e => e hc), if_pos hk] at h ⊢
  split at h
  · rename_i h1
    rw [if_pos h1]
    unfold costP at h ⊢
    split at h
    · simp at h
    · rename_i h2
      rw [if_neg h2]
      exact hl
  · simp at h
/-- kids in order, of a beginning that has some -/
theorem rkidsI_any (i : InstP) (us : List Value) (P : Option Addr) (c : Nat) (p : List Int) (w : World) (H : RInst w us i) (hc : checkP i = 0) (hP : RdI w P p) (ho : okI i p) (hl : p.length < depthI i) (h64 : depthI i ≤ 64) :
    Calls Try.prog 60 #[.agg (List.toArray us), .slice P p.length c] w (OwnL (kidsI i p) w) := by
  have e := kids_rise hc ho hl
  have KL : (kidsI i p).length ≤ 64 := by
    have := kidsI_len hc p ho hl
    split at this <;> omega
  have h := rkids31_any i us P c p w H hc hP (by omega) (by rw [← rising_len, e]; omega)
  rw [e] at h
  exact h
theorem depth64 {i : InstP} (hc : checkP i = 0) : depthI i ≤ 64 := by
  unfold depthI
  rcases check_kind hc with h | h | h
  · have ok := knap_ok hc h
    have := ok.n2
    split <;> omega
  · have sq := square_ok hc (by omega)
    have := sq.n2
    split <;> omega
  · have sq := square_ok hc (by omega)
    have := sq.n2
    split <;> omega
end Go.Proofs.Ytcpadkaljnnieaa
namespace Go.Proofs.Ytcpadkaljnnieaa
open Go.RowKit Go.ChangeShapes Go.WideShapes Go.ChangeAt Go.Deep

theorem recs_info : (Try.prog.info? 129).map (fun i => (i.zero, i.size, i.bytes)) = some (some (.agg #[.int .i64 0, .slice none 0 0]), 2, 32) := by kernel_rfl
def ReadPost (w : World) (e : Ending) (w' : World) : Prop := ∃ (A : Option Addr) (n c : Nat), e = .returned (.tuple #[.slice A n c, .int .i64 0, .int .i64 0]) ∧ Ext w w'
set_option maxRecDepth 100000 in
set_option maxHeartbeats 8000000 in
theorem rread_any (i : InstP) (us : List Value) (tr : Wd) (w : World) (H : RInst w us i) (hc : checkP i = 0) (lt : tr.length ≤ 1000) (hr : readC (depthI i) (kidsI i) tr [[]] = 0) :
    Calls Try.prog 61 #[.agg (List.toArray us), .string ⟨tr.toArray⟩] w (ReadPost w) := by
  have DE := Lib.hid (fun (W : World) (y : Ext w W) => rdepth14_any i us W (H.ext y) hc)
  have KI := Lib.hid (fun (W : World) (y : Ext w W) (Q : Option Addr) (qc : Nat) (q : List Int) (hq : RdI W Q q) (lq : q.length ≤ 1000000000) => rkids14_any i us Q qc q W (H.ext y) hc hq lq)
  have KR := Lib.hid (krn_inst hc)
  have okn := Lib.hid (okI_nil hc)
  have n64 := depth64 hc
  have RS : Hid (∀ q, okI i q → q.length < depthI i → rising (kidsR i q) = kidsI i q) := fun q ho hl => kids_rise hc ho hl
  have KN : Hid (∀ (q : List Int), okI i q → q.length < depthI i → (kidsI i q).length ≤ 64) := fun q ho hl => by
    have := kidsI_len hc q ho hl
    have h2 := depth64 hc
    split at this <;> omega
  have C0 : Hid (readC (depthI i) (kidsI i) (tr.drop 0) [[]] = 0) := hr
  have O0 : Hid (∀ q ∈ ([[]] : List (List Int)), okI i q) := fun q hq => by rw [List.mem_singleton.1 hq]; exact okn.out
  unfold Kids14 at KI
  unfold ReadPost
  clear hc hr
  generalize depthI i = D at *
  generalize kidsI i = kd at *
  obtain ⟨A, a, B, b, Dd, d, rfl, -, -, -⟩ := H
  obtain ⟨kind, hkd⟩ : ∃ q, Hid (q = i.kind) := ⟨_, rfl⟩
  obtain ⟨nn, hnn⟩ : ∃ q, Hid (q = i.n) := ⟨_, rfl⟩
  obtain ⟨cap, hcap⟩ : ∃ q, Hid (q = i.cap) := ⟨_, rfl⟩
  obtain ⟨lxw, hxw⟩ : ∃ q, Hid (q = i.weight.length) := ⟨_, rfl⟩
  obtain ⟨lxv, hxv⟩ : ∃ q, Hid (q = i.value.length) := ⟨_, rfl⟩
  obtain ⟨lco, hco⟩ : ∃ q, Hid (q = i.cost.length) := ⟨_, rfl⟩
  rw [← hkd.out, ← hnn.out, ← hcap.out, ← hxw.out, ← hxv.out, ← hco.out] at DE KI ⊢
  clear hkd hnn hcap hxw hxv hco
  obtain ⟨i0, hi, hz0, hz1, hz2⟩ := info_parts lists_info
  replace hi := Lib.hid hi
  replace hz0 := Lib.hid hz0
  replace hz1 := Lib.hid hz1
  replace hz2 := Lib.hid hz2
  obtain ⟨r0, ri, rz0, rz1, rz2⟩ := info_parts recs_info
  replace ri := Lib.hid ri
  replace rz0 := Lib.hid rz0
  replace rz1 := Lib.hid rz1
  replace rz2 := Lib.hid rz2
  obtain ⟨wb, hwb⟩ : ∃ wb, Hid (wb = w.alloc (.cells #[.int .i64 kind, .int .i64 nn, .int .i64 cap, .slice A lxw a, .slice B lxv b, .slice Dd lco d] 61)) := ⟨_, rfl⟩
  have XB : Hid (Ext w wb) := by
    have h : Ext w wb := by rw [hwb.out]; exact (Ext.rf w).alloc _
    exact h
  have B1 : Hid (Blk wb w.heap.size 61 #[.int .i64 kind, .int .i64 nn, .int .i64 cap, .slice A lxw a, .slice B lxv b, .slice Dd lco d]) := by
    have h : Blk wb w.heap.size 61 #[.int .i64 kind, .int .i64 nn, .int .i64 cap, .slice A lxw a, .slice B lxv b, .slice Dd lco d] := by rw [hwb.out]; exact .new rfl
    exact h
  have TL : ∀ a, a < tr.length → tr.drop a = (tr[a]?).getD 0 :: tr.drop (a + 1) := fun a h => by rw [List.drop_eq_getElem_cons h, List.getElem?_eq_getElem h]; rfl
  replace TL := Lib.hid TL
  have slen : (⟨tr.toArray⟩ : ByteArray).size = tr.length := by simp [ByteArray.size]
  have W0 : Hid (WaitS wb.heap.size ((wb.alloc (.cells #[] 3)).alloc (.cells #[.slice (some ⟨wb.heap.size, 0, none⟩) 0 0] 22)) (some ⟨wb.heap.size + 1, 0, none⟩) 1 1 [[]]) := WaitS.first (.new (by simp)) (.alloc (.new rfl) _) (by omega) (Nat.le_refl _)
  have V0 : Hid (OwV wb wb.heap.size 129 2 none 0 0 []) := OwV.nil _ _ _ _
  go_enter Try.func61, Try.ntmps61
  go_upto_region 1 with (fail)
  rw [← hwb.out]
  go_wp2_with (fail)
  go_loopw [4, 5, 6, 7, 8, 9] (fun v4 v5 v6 v7 v8 v9 wr => ∃ (a : Nat) (WA : Option Addr) (n wc : Nat) (S : List (List Int)) (RA : Option Addr) (rn rc : Nat) (us : List Value), v9 = .int .i64 a ∧ v7 = .slice WA n wc ∧ v8 = .slice RA rn rc ∧ v4 = .slice none 0 0 ∧ v5 = .int .i64 0 ∧ v6 = .int .i64 0 ∧ a ≤ tr.length ∧ n ≤ 100 * a + 1 ∧ rn ≤ a ∧ Hid (WaitS wb.heap.size wr WA n wc S) ∧ Hid (OwV wr wb.heap.size 129 2 RA rn rc us) ∧ Hid (∀ q ∈ S, okI i q) ∧ Hid (readC D kd (tr.drop a) S = 0) ∧ Hid (Ext wb wr)) (fun _ _ _ _ _ v9 _ => tr.length - (intOf v9).toNat)
  case atStart => exact ⟨0, _, 1, 1, [[]], none, 0, 0, [], rfl, rfl, rfl, rfl, rfl, rfl, by omega, by omega, by omega, W0.out.ext (by (repeat (first | assumption | exact Ext.rf _ | apply Ext.drew | apply Ext.drewN | apply Ext.alloc))), V0.out.ext (by (repeat (first | assumption | exact Ext.rf _ | apply Ext.drew | apply Ext.drewN | apply Ext.alloc))), O0, C0, by (repeat (first | assumption | exact Ext.rf _ | apply Ext.drew | apply Ext.drewN | apply Ext.alloc))⟩
  case round =>
    obtain ⟨wo, rfl⟩ : ∃ wo : World, wo = wr := ⟨_, rfl⟩
    clear W0 O0 C0 V0
    obtain ⟨at_, WA, n, wc, S, RA, rn, rc, rs, rfl, rfl, rfl, rfl, rfl, rfl, hat, hn9, hrn, WS, OV, OS, CS, YB⟩ := hrel
    cases S with
    | nil =>
      obtain rfl : n = 0 := (WS.out.len).1
      have ha2 : at_ = tr.length := by
        by_cases h : at_ < tr.length
        · have h1 := CS.out
          rw [TL.out at_ h] at h1
          exact absurd h1 (by simp [readC])
        · omega
      subst ha2
      go_wp2_with (fail)
      go_ret3
      exact ⟨RA, rn, rc, rfl, XB.out.tr (YB.out.tr (by (repeat (first | assumption | exact Ext.rf _ | apply Ext.drew | apply Ext.drewN | apply Ext.alloc))))⟩
    | cons p S' =>
      obtain ⟨gW, PA, pc, us, hnS, rfl, cW, oP, rU, lU, oU, kU⟩ := WS.out.top
      have WL := WS.out.len
      have zW := World.block_lt_of_cell? _ _ cW
      obtain ⟨k0, hk0⟩ : ∃ k0 : Nat, Hid (S'.length = k0) := ⟨_, rfl⟩
      rw [hk0.out] at cW rU lU oU kU hnS
      obtain rfl : n = k0 + 1 := hnS
      have hkc : k0 ≤ wc := by omega
      replace oP := Lib.hid oP
      replace rU := Lib.hid rU
      replace lU := Lib.hid lU
      replace oU := Lib.hid oU
      replace kU := Lib.hid kU
      have zo := YB.out.size
      have q1 : (0 : Int) < ((k0 + 1 : Nat) : Int) := by omega
      have q2 : ((k0 + 1 : Nat) : Int) - 1 = (k0 : Int) := by omega
      have q3 : (k0 : Int) < ((k0 + 1 : Nat) : Int) := by omega
      have q4 : (0 : Int) ≤ (k0 : Int) := by omega
      have q5 : (k0 : Int) ≤ (wc : Int) := by omega
      have k9 : (k0 : Int) ≤ 100000 := by omega
      clear WL
      have okp := OS.out p (by simp)
      have lpD := KR.out.len p okp
      have hal2 : at_ < tr.length := by
        by_cases h : at_ < tr.length
        · exact h
        · have h1 := CS.out
          rw [List.drop_of_length_le (by omega)] at h1
          exact absurd h1 (by simp [readC])
      have e1 : ((at_ : Int) == (tr.length : Int)) = false := by simp; omega
      have CT := CS.out
      rw [TL.out at_ hal2] at CT
      obtain ⟨ch, hch⟩ : ∃ ch, Hid ((tr[at_]?).getD 0 = ch) := ⟨_, rfl⟩
      rw [hch.out, readC_cons] at CT
      replace CT := Lib.hid CT
      replace okp := Lib.hid okp
      clear CS
      go_upto_region 13 with (at_builtin; refine wpl_app_v _ (e := 22) Try.underlying59 hi.out hz0.out hz1.out hz2.out (by simp [Value.cells]) (by omega) rfl _ _ rfl wb.heap.size (some ⟨wo.heap.size, 0, none⟩) 0 0 [] (some ⟨gW, 0, none⟩) k0 wc (us.take k0) rfl rfl (OwV.full (.new rfl) zo rfl (by simp [maxLen])) (rU.out.ext ((Ext.rf _).alloc _)) (by rw [lU.out]; simp) kU.out (by simp only [maxLen]; omega) (by omega) (by simp; omega) ?_; rintro WA2 wc2 w2 oW2 gW2 _)
      rw [Nat.zero_add] at oW2
      have Y2 : Ext wb w2 := Ext.grow (a := wb) (YB.out.alloc _) gW2 (fun z hz => by simp [bl] at hz; omega)
      have M2 : ModT wb.heap.size [22] (wo.alloc (.cells #[] 22)) w2 := (OwV.full (w := wo.alloc (.cells #[] 22)) (base := wb.heap.size) (n := 0) (size := 1) (e := 22) (g := wo.heap.size) (cs := #[]) (.new rfl) zo rfl (by simp [maxLen])).grownT gW2
      have WS2 : Hid (WaitS wb.heap.size w2 WA2 k0 wc2 S') := ⟨_, by simpa using oW2, ((oU.out.ext ((Ext.rf _).alloc _)).modT M2 (by decide))⟩
      have oP2 : Hid (OwI w2 wb.heap.size PA pc p) := (oP.out.ext ((Ext.rf _).alloc _)).modT M2 (by decide)
      replace Y2 := Lib.hid Y2
      have MV := Lib.hid M2
      clear oW2 gW2 M2 oU rU kU lU cW oP WS zW
      have OV2 : Hid (OwV w2 wb.heap.size 129 2 RA rn rc rs) := (OV.out.ext ((Ext.rf _).alloc _)).modT MV (by decide)
      have BB2 := Lib.hid (B1.out.ext Y2.out)
      clear MV OV
      have d0 : w2.cell? ⟨w.heap.size, 0, none⟩ = some (.int .i64 kind) := BB2.out.cell 0
      have d1 : w2.cell? ⟨w.heap.size, 1, none⟩ = some (.int .i64 nn) := BB2.out.cell 1
      have d2 : w2.cell? ⟨w.heap.size, 2, none⟩ = some (.int .i64 cap) := BB2.out.cell 2
      have d3 : w2.cell? ⟨w.heap.size, 3, none⟩ = some (.slice A lxw a) := BB2.out.cell 3
      have d4 : w2.cell? ⟨w.heap.size, 4, none⟩ = some (.slice B lxv b) := BB2.out.cell 4
      have d5 : w2.cell? ⟨w.heap.size, 5, none⟩ = some (.slice Dd lco d) := BB2.out.cell 5
      go_wp2_with (fail)
      refine (DE.out _ (XB.out.tr (Y2.out.tr (by (repeat (first | assumption | exact Ext.rf _ | apply Ext.drew | apply Ext.drewN | apply Ext.alloc)))))).mono ?_
      rintro e w4 ⟨rfl, x4⟩
      have X4 := Lib.hid (Ext.tr (a := w2) (by (repeat (first | assumption | exact Ext.rf _ | apply Ext.drew | apply Ext.drewN | apply Ext.alloc))) x4)
      have Y4 := Lib.hid (Y2.out.tr X4.out)
      have WS4 := Lib.hid (WS2.out.ext X4.out)
      have oP4 := Lib.hid (oP2.out.ext X4.out)
      have OV4 := Lib.hid (OV2.out.ext X4.out)
      have BB4 := Lib.hid (B1.out.ext Y4.out)
      clear x4 X4 WS2 oP2 BB2 Y2 OV2 d0 d1 d2 d3 d4 d5
      have hsz : at_ < (⟨tr.toArray⟩ : ByteArray).size := by rw [slen]; exact hal2
      have E0 : (⟨tr.toArray⟩ : ByteArray)[at_]'hsz = ch := by
        have h := hch.out
        rw [List.getElem?_eq_getElem hal2] at h
        exact h
      have i1 : (at_ : Int) < (tr.length : Int) := by omega
      have z4 := Y4.out.size
      have rn9 : rn ≤ 1000 := by omega
      by_cases h112 : ch = 112
      · subst h112
        have OS2 : Hid (∀ q ∈ S', okI i q) := fun q hq => OS.out q (by simp [hq])
        have CT2 : Hid (readC D kd (tr.drop (at_ + 1)) S' = 0) := by
          have h := CT.out
          rw [if_pos rfl] at h
          exact h
        try replace hw := Lib.hid hw
        clear CT
        go_wp2_with (at_builtin; refine wpl_app_v _ (e := 129) Try.underlying109 ri.out rz0.out rz1.out rz2.out (by simp [Value.cells]) (by omega) rfl _ _ rfl wb.heap.size RA rn rc rs (some ⟨w4.heap.size, 0, none⟩) 1 1 [.int .i64 1, .slice PA p.length pc] rfl rfl (OV4.out.ext ((Ext.rf _).alloc _)) (RdV.blk (.new (by simp))).rdC (by simp) (by simp [Value.oneCell']) (by simp only [maxLen]; omega) (by omega) (by simp; omega) ?_; rintro RB rc2 w6 oR gR _)
        have Y6 : Ext wb w6 := Ext.grow (a := wb) (Y4.out.alloc _) gR (fun z hz => (OV4.out.lt z hz).1)
        have M6 : ModT wb.heap.size [129] (w4.alloc (.cells #[.int .i64 1, .slice PA p.length pc] 129)) w6 := (OV4.out.ext ((Ext.rf w4).alloc (.cells #[.int .i64 1, .slice PA p.length pc] 129))).grownT gR
        have OV6 : Hid (OwV w6 wb.heap.size 129 2 RB (rn + 1) rc2 (rs ++ [.int .i64 1, .slice PA p.length pc])) := oR
        have WS6 : Hid (WaitS wb.heap.size w6 WA2 k0 wc2 S') := by
          obtain ⟨us6, q1, q2⟩ := WS4.out
          exact ⟨us6, (q1.ext ((Ext.rf _).alloc _)).modT M6 (by decide), (q2.ext ((Ext.rf _).alloc _)).modT M6 (by decide)⟩
        have oP6 : Hid (OwI w6 wb.heap.size PA pc p) := (oP4.out.ext ((Ext.rf _).alloc _)).modT M6 (by decide)
        have BB6 := Lib.hid (B1.out.ext Y6)
        replace Y6 := Lib.hid Y6
        clear oR gR M6
        have LN := (WS6.out.len).1
        have LN2 : k0 ≤ 100 * (at_ + 1) + 1 := by omega
        replace LN := Lib.hid LN
        go_wp2_with (fail)
        go_roundw
        case rel => exact ⟨at_ + 1, WA2, k0, wc2, S', RB, rn + 1, rc2, _, by go_num, rfl, rfl, rfl, rfl, rfl, by omega, LN2, by omega, WS6.out.ext (by (repeat (first | assumption | exact Ext.rf _ | apply Ext.drew | apply Ext.drewN | apply Ext.alloc))), OV6.out.ext (by (repeat (first | assumption | exact Ext.rf _ | apply Ext.drew | apply Ext.drewN | apply Ext.alloc))), OS2, CT2, Y6.out.tr (by (repeat (first | assumption | exact Ext.rf _ | apply Ext.drew | apply Ext.drewN | apply Ext.alloc)))⟩
        case measure => simp [intOf]; omega
      · have n112 : ((ch.toNat : Int) == 112) = false := by
          have : ch.toNat ≠ 112 := fun h => h112 (UInt8.toNat_inj.1 h)
          simp; omega
        by_cases h98 : ch = 98
        · subst h98
          by_cases hw : p.length = D
          · have h := CT.out
            rw [if_neg h112, if_pos rfl, if_pos hw] at h
            cases h
          · have e2 : ((p.length : Int) == (D : Int)) = false := by simp; omega
            have CT2 : Hid (readC D kd (tr.drop (at_ + 1)) ((kd p).map (fun n => p ++ [n]) ++ S') = 0) := by
              have h := CT.out
              rw [if_neg (by decide), if_pos rfl, if_neg hw] at h
              exact h
            have hplt : p.length < D := by omega
            have KN1 := KN.out p okp.out hplt
            have RS1 := RS.out p okp.out hplt
            have KD : Hid (∀ n ∈ kd p, okI i (p ++ [n])) := fun n hn => KR.out.kid p okp.out hplt n hn
            have KI1 := Lib.hid (fun (W : World) (y : Ext w W) (Q : Option Addr) (qc : Nat) (hq : RdI W Q p) => KI.out W y Q qc p hq (by omega))
            obtain ⟨lr0, hlr⟩ : ∃ l, Hid (kidsR i p = l) := ⟨_, rfl⟩
            rw [hlr.out] at RS1 KI1
            have RI9 := fun (P : Option Addr) (pc : Nat) (W : World) (x : RdI W P lr0) => rising_any P pc lr0 W x (by rw [← rising_len, RS1]; omega)
            rw [RS1] at RI9
            unfold OwnL at RI9
            replace RI9 := Lib.hid RI9
            obtain ⟨l, hl⟩ : ∃ l, Hid (kd p = l) := ⟨_, rfl⟩
            rw [hl.out] at CT2 KN1 KD RI9
            replace hplt := Lib.hid hplt
            replace hw := Lib.hid hw
            clear CT hl hlr RS1
            go_upto_region 22 with (at_builtin; refine wpl_app_v _ (e := 129) Try.underlying109 ri.out rz0.out rz1.out rz2.out (by simp [Value.cells]) (by omega) rfl _ _ rfl wb.heap.size RA rn rc rs (some ⟨w4.heap.size, 0, none⟩) 1 1 [.int .i64 2, .slice PA p.length pc] rfl rfl (OV4.out.ext ((Ext.rf _).alloc _)) (RdV.blk (.new (by simp))).rdC (by simp) (by simp [Value.oneCell']) (by simp only [maxLen]; omega) (by omega) (by simp; omega) ?_; rintro RB rc2 w6 oR gR _)
            have Y6 : Ext wb w6 := Ext.grow (a := wb) (Y4.out.alloc _) gR (fun z hz => (OV4.out.lt z hz).1)
            have M6 : ModT wb.heap.size [129] (w4.alloc (.cells #[.int .i64 2, .slice PA p.length pc] 129)) w6 := (OV4.out.ext ((Ext.rf w4).alloc (.cells #[.int .i64 2, .slice PA p.length pc] 129))).grownT gR
            have OV6 : Hid (OwV w6 wb.heap.size 129 2 RB (rn + 1) rc2 (rs ++ [.int .i64 2, .slice PA p.length pc])) := oR
            have WS6 : Hid (WaitS wb.heap.size w6 WA2 k0 wc2 S') := by
              obtain ⟨us6, q1, q2⟩ := WS4.out
              exact ⟨us6, (q1.ext ((Ext.rf _).alloc _)).modT M6 (by decide), (q2.ext ((Ext.rf _).alloc _)).modT M6 (by decide)⟩
            have oP6 : Hid (OwI w6 wb.heap.size PA pc p) := (oP4.out.ext ((Ext.rf _).alloc _)).modT M6 (by decide)
            have BB6 := Lib.hid (B1.out.ext Y6)
            replace Y6 := Lib.hid Y6
            clear oR gR M6

            clear OV4 WS4 oP4 Y4 z4 BB4
            have d0 : w6.cell? ⟨w.heap.size, 0, none⟩ = some (.int .i64 kind) := BB6.out.cell 0
            have d1 : w6.cell? ⟨w.heap.size, 1, none⟩ = some (.int .i64 nn) := BB6.out.cell 1
            have d2 : w6.cell? ⟨w.heap.size, 2, none⟩ = some (.int .i64 cap) := BB6.out.cell 2
            have d3 : w6.cell? ⟨w.heap.size, 3, none⟩ = some (.slice A lxw a) := BB6.out.cell 3
            have d4 : w6.cell? ⟨w.heap.size, 4, none⟩ = some (.slice B lxv b) := BB6.out.cell 4
            have d5 : w6.cell? ⟨w.heap.size, 5, none⟩ = some (.slice Dd lco d) := BB6.out.cell 5
            go_wp2_with (fail)
            refine (KI1.out _ (XB.out.tr (Y6.out.tr (by (repeat (first | assumption | exact Ext.rf _ | apply Ext.drew | apply Ext.drewN | apply Ext.alloc))))) PA pc (oP6.out.read.ext (by (repeat (first | assumption | exact Ext.rf _ | apply Ext.drew | apply Ext.drewN | apply Ext.alloc))))).mono ?_
            rintro e w7 ⟨KA, kc, ker, rfl, rK, x7⟩
            have X7 := Lib.hid (Ext.tr (a := w6) (by (repeat (first | assumption | exact Ext.rf _ | apply Ext.drew | apply Ext.drewN | apply Ext.alloc))) x7)
            replace rK := Lib.hid rK
            clear x7 d0 d1 d2 d3 d4 d5
            go_wp2_with (fail)
            refine (RI9.out KA kc _ (rK.out.ext (by (repeat (first | assumption | exact Ext.rf _ | apply Ext.drew | apply Ext.drewN | apply Ext.alloc))))).mono ?_
            rintro e w5 ⟨LA, lc, rfl, oL, x5⟩
            have X5 := Lib.hid (X7.out.tr (Ext.tr (by (repeat (first | assumption | exact Ext.rf _ | apply Ext.drew | apply Ext.drewN | apply Ext.alloc))) x5))
            have z7 := (Y6.out.tr X7.out).size
            have Y5 := Lib.hid (Y6.out.tr X5.out)
            have WS5 : Hid (WaitS wb.heap.size w5 WA2 k0 wc2 ((l.drop l.length).map (fun x => p ++ [x]) ++ S')) := by
              have h : WaitS wb.heap.size w5 WA2 k0 wc2 ((l.drop l.length).map (fun x => p ++ [x]) ++ S') := by
                rw [List.drop_length]
                exact WS6.out.ext X5.out
              exact h
            have oP5 := Lib.hid (oP6.out.ext X5.out)
            have OV5 := Lib.hid (OV6.out.ext X5.out)
            have oL5 : Hid (OwI w5 wb.heap.size LA lc l) := oL.more (by first | exact z7 | (simp; exact z7))
            have J0 : Hid (((l.length : Int) - 1) = (l.length : Int) - 1) := rfl
            clear x5 X5 X7 rK oL WS6 oP6 OV6 BB6 Y6 z7
            have ll64 : (l.length : Int) ≤ 64 := by omega
            obtain ⟨rs2, hrs2⟩ : ∃ rs2 : List Value, Hid (rs ++ [Value.int .i64 2, Value.slice PA p.length pc] = rs2) := ⟨_, rfl⟩
            rw [hrs2.out] at OV5
            clear hrs2
            go_wp2_with (fail)
            go_loopw [7, 14] (fun v11 v18 wr => ∃ (j : Int) (t : Nat) (WA' : Option Addr) (n' wc' : Nat), v18 = .int .i64 j ∧ v11 = .slice WA' n' wc' ∧ Hid (j = (t : Int) - 1) ∧ t ≤ l.length ∧ Hid (WaitS wb.heap.size wr WA' n' wc' ((l.drop t).map (fun x => p ++ [x]) ++ S')) ∧ Hid (OwI wr wb.heap.size PA pc p) ∧ Hid (OwI wr wb.heap.size LA lc l) ∧ Hid (OwV wr wb.heap.size 129 2 RB (rn + 1) rc2 rs2) ∧ Hid (Ext wb wr)) (fun _ v18 _ => (intOf v18 + 1).toNat)
            case atStart => exact ⟨(l.length : Int) - 1, l.length, WA2, k0, wc2, by go_num, rfl, rfl, by omega, WS5.out.ext (by (repeat (first | assumption | exact Ext.rf _ | apply Ext.drew | apply Ext.drewN | apply Ext.alloc))), oP5.out.ext (by (repeat (first | assumption | exact Ext.rf _ | apply Ext.drew | apply Ext.drewN | apply Ext.alloc))), oL5.out.ext (by (repeat (first | assumption | exact Ext.rf _ | apply Ext.drew | apply Ext.drewN | apply Ext.alloc))), OV5.out.ext (by (repeat (first | assumption | exact Ext.rf _ | apply Ext.drew | apply Ext.drewN | apply Ext.alloc))), Y5.out.tr (by (repeat (first | assumption | exact Ext.rf _ | apply Ext.drew | apply Ext.drewN | apply Ext.alloc)))⟩
            case round =>
              obtain ⟨wi, rfl⟩ : ∃ wi : World, wi = wr := ⟨_, rfl⟩
              clear WS5 oP5 oL5 J0 Y5 OV5
              obtain ⟨j, t, WA', n', wc', rfl, rfl, hj, ht, WI, oP, oL, OVi, YB2⟩ := hrel
              have LNI := (WI.out.len).1
              rw [List.length_append, List.length_map, List.length_drop, hk0.out] at LNI
              have hn9' : n' ≤ 100 * at_ + 65 := by omega
              by_cases ht0 : t = 0
              · subst ht0
                obtain rfl : j = -1 := by have h := hj.out; simpa using h
                have WI2 : Hid (WaitS wb.heap.size wi WA' n' wc' (l.map (fun x => p ++ [x]) ++ S')) := WI
                have OS3 : Hid (∀ q ∈ l.map (fun n => p ++ [n]) ++ S', okI i q) := fun q hq => by
                  rcases List.mem_append.1 hq with h | h
                  · obtain ⟨n, hn, rfl⟩ := List.mem_map.1 h
                    exact KD.out n hn
                  · exact OS.out q (by simp [h])
                have CT3 := CT2
                obtain ⟨SS, hSS⟩ : ∃ SS, Hid (l.map (fun n => p ++ [n]) ++ S' = SS) := ⟨_, rfl⟩
                rw [hSS.out] at WI2 OS3 CT3
                clear WI CT2 hSS LNI
                have LN := (WI2.out.len).1
                have LN2 : n' ≤ 100 * (at_ + 1) + 1 := by omega
                replace LN := Lib.hid LN
                go_wp2_with (fail)
                go_roundw
                case rel => exact ⟨at_ + 1, WA', n', wc', SS, RB, rn + 1, rc2, _, by go_num, rfl, rfl, rfl, rfl, rfl, by omega, LN2, by omega, WI2.out.ext (by (repeat (first | assumption | exact Ext.rf _ | apply Ext.drew | apply Ext.drewN | apply Ext.alloc))), OVi.out.ext (by (repeat (first | assumption | exact Ext.rf _ | apply Ext.drew | apply Ext.drewN | apply Ext.alloc))), OS3, CT3, YB2.out.tr (by (repeat (first | assumption | exact Ext.rf _ | apply Ext.drew | apply Ext.drewN | apply Ext.alloc)))⟩
                case measure => simp [intOf]; omega
              · obtain ⟨t, rfl⟩ : ∃ s, t = s + 1 := ⟨t - 1, by omega⟩
                obtain rfl : j = (t : Int) := by have h := hj.out; omega
                have htl : t < l.length := by omega
                obtain ⟨lb, lo, x, rfl, zl, cl, el, dl⟩ := oL.out.read.at (k := t) htl
                have EQ : Hid ((p ++ [x]) :: ((l.drop (t + 1)).map (fun x => p ++ [x]) ++ S') = (l.drop t).map (fun x => p ++ [x]) ++ S') := by
                  have h : (p ++ [x]) :: ((l.drop (t + 1)).map (fun x => p ++ [x]) ++ S') = (l.drop t).map (fun x => p ++ [x]) ++ S' := by rw [dl.out]; rfl
                  exact h
                have q1 : (t : Int) < (l.length : Int) := by omega
                have q2 : (0 : Int) ≤ (t : Int) := by omega
                have lp64 : p.length ≤ 64 := by omega
                have YB := YB2
                obtain ⟨SQ, hSQ⟩ : ∃ SQ, Hid ((l.drop (t + 1)).map (fun x => p ++ [x]) ++ S' = SQ) := ⟨_, rfl⟩
                rw [hSQ.out] at WI EQ
                clear el dl hSQ LNI hj ht0
                obtain ⟨wus', RI, OI⟩ := WI.out
                obtain ⟨r, hr⟩ : ∃ r, Hid (r = p ++ [x]) := ⟨p ++ [x], rfl⟩
                have lr : r.length = p.length + 1 := by rw [hr.out]; simp
                have zi := YB.out.size
                replace RI := Lib.hid RI
                replace OI := Lib.hid OI
                go_upto_region 27 with (fail)
                refine wp_region_any (by kernel_rfl) ?_
                change wpAny _ _ _ _ _ _ _ (World.drew _)
                refine wpAny_T (i := 0) (op := Op.move (Operand.tmp 7)) (t := 59) (d := some 86) (v := ?_) rfl (by decide +kernel) (by decide +kernel) (by decide +kernel) (fun _ _ _ h => h) ?_ ?_
                case refine_2 => (intro _; unfold exec2; go_simp; try with_reducible rfl)
                try simp only [Act.put, List.setIfInBounds_toArray, List.set_cons_zero, List.set_cons_succ]
                refine wpAny_T (i := 2) (op := Op.move (Operand.tmp 10)) (t := 22) (d := some 88) (v := ?_) rfl (by decide +kernel) (by decide +kernel) (by decide +kernel) (fun _ _ _ h => h) ?_ ?_
                case refine_2 => (intro _; unfold exec2; go_simp; try with_reducible rfl)
                try simp only [Act.put, List.setIfInBounds_toArray, List.set_cons_zero, List.set_cons_succ]
                refine wpAny_T (i := 4) (op := Op.move (Operand.tmp 12)) (t := 22) (d := some 90) (v := ?_) rfl (by decide +kernel) (by decide +kernel) (by decide +kernel) (fun _ _ _ h => h) ?_ ?_
                case refine_2 => (intro _; unfold exec2; go_simp; try with_reducible rfl)
                try simp only [Act.put, List.setIfInBounds_toArray, List.set_cons_zero, List.set_cons_succ]
                refine wpAny_T (i := 5) (op := Op.move (Operand.tmp 14)) (t := 3) (d := some 91) (v := ?_) rfl (by decide +kernel) (by decide +kernel) (by decide +kernel) (fun _ _ _ h => h) ?_ ?_
                case refine_2 => (intro _; unfold exec2; go_simp; try with_reducible rfl)
                try simp only [Act.put, List.setIfInBounds_toArray, List.set_cons_zero, List.set_cons_succ]
                refine wpAny_T (i := 6) (op := Op.indexAddr 22 (Operand.tmp 90) (Operand.tmp 91)) (t := 0) (d := some 92) (v := ?_) rfl (by decide +kernel) (by decide +kernel) (by decide +kernel) (fun _ _ _ h => h) ?_ ?_
                case refine_2 => (intro _; unfold exec2; go_simp; try with_reducible rfl)
                try simp only [Act.put, List.setIfInBounds_toArray, List.set_cons_zero, List.set_cons_succ]
                refine wpAny_core3 (n := 2) [(1, some 87), (3, some 89), (7, some 93), (8, some 94), (9, some 95), (10, some 96)] (fun | 1 => [3] | 3 => [9] | 8 => [9] | 9 => [10] | _ => []) (Ext wi)
                  (VF (fun | 7 => some (.int .i64 x) | _ => none)
                    (fun j v W => (j = 1 → ∃ g, v = .slice (some ⟨g, 0, none⟩) 0 0 ∧ wi.heap.size ≤ g ∧ Blk W g 3 #[]) ∧ (j = 3 → ∃ A c, v = .slice A p.length c ∧ OwI W wi.heap.size A c p) ∧ (j = 8 → ∃ h, v = .slice (some ⟨h, 0, none⟩) 1 1 ∧ Blk W h 3 #[.int .i64 x]) ∧ (j = 9 → ∃ A c, v = .slice A r.length c ∧ OwI W wi.heap.size A c r) ∧ (j = 10 → ∃ h A c, v = .slice (some ⟨h, 0, none⟩) 1 1 ∧ Blk W h 22 #[.slice A r.length c] ∧ OwI W wi.heap.size A c r)))
                  (fun i W W' => if i = 9 then ModT wi.heap.size [3] W W' else Ext W W') #[true, true, true, true, true, true, true, true, true, true, true, false, false] (by kernel_rfl) (by kernel_rfl) ?_ ?_ ?_ ((Ext.rf _).drew)
                · intro i j v W W' hkp hv hs
                  refine VF.stab1 (fun _ ⟨g1, g3, g8, g9, g10⟩ => ?_) hv
                  by_cases hi : i = 9
                  · subst hi
                    rw [if_pos rfl] at hs
                    refine ⟨fun h => ?_, fun h => ?_, fun h => ?_, fun h => ?_, fun h => ?_⟩
                    all_goals (subst h; exact absurd hkp (by decide +kernel))
                  · rw [if_neg hi] at hs
                    refine ⟨fun h => ?_, fun h => ?_, fun h => ?_, fun h => ?_, fun h => ?_⟩
                    · obtain ⟨g, q1, q2, q3⟩ := g1 h
                      exact ⟨g, q1, q2, q3.ext hs⟩
                    · obtain ⟨A', c', q1, q2⟩ := g3 h
                      exact ⟨A', c', q1, q2.ext hs⟩
                    · obtain ⟨h', q1, q2⟩ := g8 h
                      exact ⟨h', q1, q2.ext hs⟩
                    · obtain ⟨A', c', q1, q2⟩ := g9 h
                      exact ⟨A', c', q1, q2.ext hs⟩
                    · obtain ⟨h', A', c', q1, q2, q3⟩ := g10 h
                      exact ⟨h', A', c', q1, q2.ext hs, q3.ext hs⟩
                · intro pq hpm u W hRW hD K hK
                  have z2 := hRW.size
                  simp only [List.mem_cons, List.not_mem_nil, or_false] at hpm
                  rcases hpm with rfl | rfl | rfl | rfl | rfl | rfl
                  · exact op_bs0 rfl _ (bsw0_run _) (hK _ _ (VF.mg rfl ⟨fun _ => ⟨_, rfl, z2, .new rfl⟩, (fun h => by cases h), (fun h => by cases h), (fun h => by cases h), (fun h => by cases h)⟩) (hRW.alloc _) (by rw [if_neg (by decide)]; exact (Ext.rf _).alloc _))
                  · obtain ⟨g, h1, zg, bg⟩ := ((hD 1 (depIn (by kernel_rfl))).g rfl).1 rfl
                    obtain ⟨A3, c3, w3, hr3, o3, x3⟩ := run_copy_i W wi.heap.size 22 g p PA pc bg zg (oP.out.read.ext hRW) (by omega)
                    exact op_app rfl (.slice (some ⟨g, 0, none⟩) 0 0) (.slice PA p.length pc) (Eq.trans (b := u 1) (by kernel_rfl) h1) (by kernel_rfl) _ hr3 (hK _ _ (VF.mg rfl ⟨(fun h => by cases h), fun _ => ⟨A3, c3, rfl, o3⟩, (fun h => by cases h), (fun h => by cases h), (fun h => by cases h)⟩) (hRW.tr x3) (by rw [if_neg (by decide)]; exact x3))
                  · have r1 := keepEL hRW zl cl
                    exact op_ld (T := 3) rfl (.pointer (some ⟨lb, lo + t, none⟩)) (by kernel_rfl) (.int .i64 x) (by go_simp) (hK _ _ (VF.mk rfl) hRW (by rw [if_neg (by decide)]; exact Ext.rf _))
                  · have h7 := (hD 7 (depIn (by kernel_rfl))).k rfl
                    exact op_bs1 rfl _ (Eq.trans (b := u 7) (by kernel_rfl) h7) _ (bsw1_run _ _) (hK _ _ (VF.mg rfl ⟨(fun h => by cases h), (fun h => by cases h), fun _ => ⟨_, rfl, .new rfl⟩, (fun h => by cases h), (fun h => by cases h)⟩) (hRW.alloc _) (by rw [if_neg (by decide)]; exact (Ext.rf _).alloc _))
                  · obtain ⟨A3, c3', h3, o3⟩ := ((hD 3 (depIn (by kernel_rfl))).g rfl).2.1 rfl
                    obtain ⟨g8, h8, b8⟩ := ((hD 8 (depIn (by kernel_rfl))).g rfl).2.2.1 rfl
                    obtain ⟨A7, c7, w7', hrun, o7, g7, -⟩ := run_app_i W wi.heap.size 22 A3 p.length c3' p [x] (some ⟨g8, 0, none⟩) 1 rfl o3 (.blk b8 rfl) (by simp; omega) hRW.size
                    have x7 : Ext wi w7' := hRW.grow g7 (fun k hk => (o3.lt k hk).1)
                    have M7 : ModT wi.heap.size [3] W w7' := OwV.grownT (n := p.length) (show OwV W wi.heap.size 3 1 A3 p.length c3' (p.map (Value.int .i64)) from o3) g7
                    rw [← hr.out] at hrun o7
                    exact op_app rfl (.slice A3 p.length c3') (.slice (some ⟨g8, 0, none⟩) 1 1) (Eq.trans (b := u 3) (by kernel_rfl) h3) (Eq.trans (b := u 8) (by kernel_rfl) h8) _ hrun (hK _ _ (VF.mg rfl ⟨(fun h => by cases h), (fun h => by cases h), (fun h => by cases h), fun _ => ⟨A7, c7, rfl, o7⟩, (fun h => by cases h)⟩) x7 (by rw [if_pos rfl]; exact M7))
                  · obtain ⟨A7, c7, h7, o7⟩ := ((hD 9 (depIn (by kernel_rfl))).g rfl).2.2.2.1 rfl
                    exact op_bs1 rfl _ (Eq.trans (b := u 9) (by kernel_rfl) h7) _ (bswv_run _ _ _ _) (hK _ _ (VF.mg rfl ⟨(fun h => by cases h), (fun h => by cases h), (fun h => by cases h), (fun h => by cases h), fun _ => ⟨_, A7, c7, rfl, .new rfl, o7.ext ((Ext.rf _).alloc _)⟩⟩) (hRW.alloc _) (by rw [if_neg (by decide)]; exact (Ext.rf _).alloc _))
                · intro u w8 hRW hV
                  obtain ⟨h12, A7, c7, h12e, b12, o7⟩ := ((hV (10, some 96) (by simp) rfl).g rfl).2.2.2.2 rfl
                  simp only [putAll, h12e]
                  have o2 := RI.out.ext hRW
                  obtain ⟨A4, c4, w4, hrun, o4, g4, a4⟩ := run_app_v w8 (e := 22) Try.underlying59 hi.out hz0.out hz1.out hz2.out (by simp [Value.cells]) (by omega) wb.heap.size 59 WA' n' wc' wus' (some ⟨h12, 0, none⟩) 1 1 [.slice A7 r.length c7] o2 ((RdV.blk b12).rdC) (by simp) (by simp [Value.oneCell']) (by simp only [maxLen]; omega) (by omega) (YB.out.tr hRW).size
                  have M4 := o2.grownT g4
                  have X4 : Hid (Ext wb w4) := (YB.out.tr hRW).grow g4 (fun z hz => (o2.lt z hz).1)
                  have L4 : Hid (OwI w4 wb.heap.size (some ⟨lb, lo, none⟩) lc l) := (oL.out.ext hRW).modT M4 (by decide)
                  have P4 : Hid (OwI w4 wb.heap.size PA pc p) := (oP.out.ext hRW).modT M4 (by decide)
                  have HI2 : Hid (WaitS wb.heap.size w4 A4 (n' + 1) c4 ((p ++ [x]) :: SQ)) := by
                    refine ⟨_, o4, ?_⟩
                    rw [List.reverse_cons, ← hr.out]
                    exact ((OI.out.ext hRW).modT M4 (by decide)).snoc ((o7.modT M4 (by decide)).more (by omega))
                  have OV9 : Hid (OwV w4 wb.heap.size 129 2 RB (rn + 1) rc2 rs2) := (OVi.out.ext hRW).modT M4 (by decide)
                  clear h12e hV o7 b12 o2 g4 a4 o4 M4 hRW RI OI
                  refine wpAny_next 11 (by kernel_rfl) (op_app rfl (.slice WA' n' wc') (.slice (some ⟨h12, 0, none⟩) 1 1) (by kernel_rfl) (by kernel_rfl) _ hrun ?_)
                  clear hrun
                  try simp only [Act.put, List.setIfInBounds_toArray, List.set_cons_zero, List.set_cons_succ]
                  refine wpAny_T (i := 12) (op := Op.assign (Operand.tmp 97)) (t := 59) (d := some 7) (v := ?_) rfl (by decide +kernel) (by decide +kernel) (by decide +kernel) (fun _ _ _ h => h) ?_ ?_
                  case refine_2 => (intro _; unfold exec2; go_simp; try with_reducible rfl)
                  try simp only [Act.put, List.setIfInBounds_toArray, List.set_cons_zero, List.set_cons_succ]
                  refine wpAny_done (by kernel_rfl) ?_ _
                  clear cl
                  go_simp
                  rw [EQ.out] at HI2
                  clear YB2 YB
                  go_wp2_with (fail)
                  go_roundw
                  case rel => exact ⟨(t : Int) - 1, t, A4, n' + 1, c4, by go_num, rfl, rfl, by omega, HI2.out.ext (by (repeat (first | assumption | exact Ext.rf _ | apply Ext.drew | apply Ext.drewN | apply Ext.alloc))), P4.out.ext (by (repeat (first | assumption | exact Ext.rf _ | apply Ext.drew | apply Ext.drewN | apply Ext.alloc))), L4.out.ext (by (repeat (first | assumption | exact Ext.rf _ | apply Ext.drew | apply Ext.drewN | apply Ext.alloc))), OV9.out.ext (by (repeat (first | assumption | exact Ext.rf _ | apply Ext.drew | apply Ext.drewN | apply Ext.alloc))), X4.out.tr (by (repeat (first | assumption | exact Ext.rf _ | apply Ext.drew | apply Ext.drewN | apply Ext.alloc)))⟩
                  case measure => simp [intOf]
        · have n98 : ((ch.toNat : Int) == 98) = false := by
            have : ch.toNat ≠ 98 := fun h => h98 (UInt8.toNat_inj.1 h)
            simp; omega
          by_cases h108 : ch = 108
          · subst h108
            by_cases hw : p.length = D
            · have e2 : ((p.length : Int) == (D : Int)) = true := by simp [hw]
              have OS2 : Hid (∀ q ∈ S', okI i q) := fun q hq => OS.out q (by simp [hq])
              have CT2 : Hid (readC D kd (tr.drop (at_ + 1)) S' = 0) := by
                have h := CT.out
                rw [if_neg h112, if_neg h98, if_pos rfl, if_pos hw] at h
                exact h
              try replace hw := Lib.hid hw
              clear CT
              go_wp2_with (at_builtin; refine wpl_app_v _ (e := 129) Try.underlying109 ri.out rz0.out rz1.out rz2.out (by simp [Value.cells]) (by omega) rfl _ _ rfl wb.heap.size RA rn rc rs (some ⟨w4.heap.size, 0, none⟩) 1 1 [.int .i64 3, .slice PA p.length pc] rfl rfl (OV4.out.ext ((Ext.rf _).alloc _)) (RdV.blk (.new (by simp))).rdC (by simp) (by simp [Value.oneCell']) (by simp only [maxLen]; omega) (by omega) (by simp; omega) ?_; rintro RB rc2 w6 oR gR _)
              have Y6 : Ext wb w6 := Ext.grow (a := wb) (Y4.out.alloc _) gR (fun z hz => (OV4.out.lt z hz).1)
              have M6 : ModT wb.heap.size [129] (w4.alloc (.cells #[.int .i64 3, .slice PA p.length pc] 129)) w6 := (OV4.out.ext ((Ext.rf w4).alloc (.cells #[.int .i64 3, .slice PA p.length pc] 129))).grownT gR
              have OV6 : Hid (OwV w6 wb.heap.size 129 2 RB (rn + 1) rc2 (rs ++ [.int .i64 3, .slice PA p.length pc])) := oR
              have WS6 : Hid (WaitS wb.heap.size w6 WA2 k0 wc2 S') := by
                obtain ⟨us6, q1, q2⟩ := WS4.out
                exact ⟨us6, (q1.ext ((Ext.rf _).alloc _)).modT M6 (by decide), (q2.ext ((Ext.rf _).alloc _)).modT M6 (by decide)⟩
              have oP6 : Hid (OwI w6 wb.heap.size PA pc p) := (oP4.out.ext ((Ext.rf _).alloc _)).modT M6 (by decide)
              have BB6 := Lib.hid (B1.out.ext Y6)
              replace Y6 := Lib.hid Y6
              clear oR gR M6
              have LN := (WS6.out.len).1
              have LN2 : k0 ≤ 100 * (at_ + 1) + 1 := by omega
              replace LN := Lib.hid LN
              go_wp2_with (fail)
              go_roundw
              case rel => exact ⟨at_ + 1, WA2, k0, wc2, S', RB, rn + 1, rc2, _, by go_num, rfl, rfl, rfl, rfl, rfl, by omega, LN2, by omega, WS6.out.ext (by (repeat (first | assumption | exact Ext.rf _ | apply Ext.drew | apply Ext.drewN | apply Ext.alloc))), OV6.out.ext (by (repeat (first | assumption | exact Ext.rf _ | apply Ext.drew | apply Ext.drewN | apply Ext.alloc))), OS2, CT2, Y6.out.tr (by (repeat (first | assumption | exact Ext.rf _ | apply Ext.drew | apply Ext.drewN | apply Ext.alloc)))⟩
              case measure => simp [intOf]; omega
            · have h := CT.out
              rw [if_neg h112, if_neg h98, if_pos rfl, if_neg hw] at h
              cases h
          · have h := CT.out
            rw [if_neg h112, if_neg h98, if_neg h108] at h
            cases h
end Go.Proofs.Ytcpadkaljnnieaa
namespace Go.Proofs.Ytcpadkaljnnieaa
open Go.RowKit Go.ChangeShapes Go.WideShapes Go.ChangeAt Go.Deep

set_option maxRecDepth 100000 in
set_option maxHeartbeats 8000000 in
theorem rword_any (i : InstP) (us : List Value) (cost : Int) (w : World) (H : RInst w us i) (hc : checkP i = 0) (hf : i.kind = 1 ∧ i.n ≤ 7 ∨ i.kind ≠ 1 ∧ i.n ≤ 4) :
    Calls Try.prog 31 #[.agg (List.toArray us), .int .i64 cost] w fun e w' => e = .returned (.string ⟨(wordC (depthI i) (kidsI i) (boundI i) cost (depthI i + 1) []).toArray⟩) ∧ Ext w w' := by
  obtain ⟨f1, f2, f3⟩ := word_few hc hf cost
  have RDD := fun (W : World) (y : Ext w W) => rread_any i us (wordC (depthI i) (kidsI i) (boundI i) cost (depthI i + 1) []) W (H.ext y) hc (by omega) f3
  obtain ⟨RW, hRW0⟩ : ∃ RW, Hid (wordC (depthI i) (kidsI i) (boundI i) cost (depthI i + 1) [] = RW) := ⟨_, rfl⟩
  rw [hRW0.out] at f1 f2 f3 RDD ⊢
  unfold ReadPost at RDD
  have DE := Lib.hid (fun (W : World) (y : Ext w W) => rdepth14_any i us W (H.ext y) hc)
  have BO := Lib.hid (fun (W : World) (y : Ext w W) (Q : Option Addr) (qc : Nat) (q : List Int) (hq : RdI W Q q) (lq : q.length ≤ 1000000000) => rbound14_any i us Q qc q W (H.ext y) hc hq lq)
  have KI := Lib.hid (fun (W : World) (y : Ext w W) (Q : Option Addr) (qc : Nat) (q : List Int) (hq : RdI W Q q) (ho : okI i q) (hl : q.length < depthI i) => rkidsI_any i us Q qc q W (H.ext y) hc hq ho hl (depth64 hc))
  have KR := Lib.hid (krn_inst hc)
  have okn := Lib.hid (okI_nil hc)
  have n64 := depth64 hc
  have KN : Hid (∀ (q : List Int), okI i q → q.length < depthI i → (kidsI i q).length ≤ 64) := fun q ho hl => by
    have := kidsI_len hc q ho hl
    have h2 := depth64 hc
    split at this <;> omega
  have C0 : Hid (([] : Wd) ++ wordS (depthI i) (kidsI i) (boundI i) cost (3000 - 0) [[]] = RW) := f2
  have O0 : Hid (∀ q ∈ ([[]] : List (List Int)), okI i q) := fun q hq => by rw [List.mem_singleton.1 hq]; exact okn.out
  unfold Bound14 at BO
  unfold OwnL at KI
  replace RDD := Lib.hid RDD
  clear hc hf f1 f2 f3 hRW0
  generalize depthI i = D at *
  generalize boundI i = bd at *
  generalize kidsI i = kd at *
  obtain ⟨A, a, B, b, Dd, d, rfl, -, -, -⟩ := H
  obtain ⟨kind, hkd⟩ : ∃ q, Hid (q = i.kind) := ⟨_, rfl⟩
  obtain ⟨nn, hnn⟩ : ∃ q, Hid (q = i.n) := ⟨_, rfl⟩
  obtain ⟨cap, hcap⟩ : ∃ q, Hid (q = i.cap) := ⟨_, rfl⟩
  obtain ⟨lxw, hxw⟩ : ∃ q, Hid (q = i.weight.length) := ⟨_, rfl⟩
  obtain ⟨lxv, hxv⟩ : ∃ q, Hid (q = i.value.length) := ⟨_, rfl⟩
  obtain ⟨lco, hco⟩ : ∃ q, Hid (q = i.cost.length) := ⟨_, rfl⟩
  rw [← hkd.out, ← hnn.out, ← hcap.out, ← hxw.out, ← hxv.out, ← hco.out] at DE BO KI RDD ⊢
  clear hkd hnn hcap hxw hxv hco
  obtain ⟨i0, hi, hz0, hz1, hz2⟩ := info_parts lists_info
  replace hi := Lib.hid hi
  replace hz0 := Lib.hid hz0
  replace hz1 := Lib.hid hz1
  replace hz2 := Lib.hid hz2
  obtain ⟨wb, hwb⟩ : ∃ wb, Hid (wb = w.alloc (.cells #[.int .i64 kind, .int .i64 nn, .int .i64 cap, .slice A lxw a, .slice B lxv b, .slice Dd lco d] 61)) := ⟨_, rfl⟩
  have XB : Hid (Ext w wb) := by
    have h : Ext w wb := by rw [hwb.out]; exact (Ext.rf w).alloc _
    exact h
  have B1 : Hid (Blk wb w.heap.size 61 #[.int .i64 kind, .int .i64 nn, .int .i64 cap, .slice A lxw a, .slice B lxv b, .slice Dd lco d]) := by
    have h : Blk wb w.heap.size 61 #[.int .i64 kind, .int .i64 nn, .int .i64 cap, .slice A lxw a, .slice B lxv b, .slice Dd lco d] := by rw [hwb.out]; exact .new rfl
    exact h
  have W0 : Hid (WaitS wb.heap.size ((wb.alloc (.cells #[] 3)).alloc (.cells #[.slice (some ⟨wb.heap.size, 0, none⟩) 0 0] 22)) (some ⟨wb.heap.size + 1, 0, none⟩) 1 1 [[]]) := WaitS.first (.new (by simp)) (.alloc (.new rfl) _) (by omega) (Nat.le_refl _)
  have CAT : Hid (∀ (ws : Wd) (x : UInt8), (⟨ws.toArray⟩ : ByteArray) ++ ⟨#[x]⟩ = ⟨(ws ++ [x]).toArray⟩) := fun ws x => by
    apply ByteArray.ext
    simp
  go_enter Try.func31, Try.ntmps31
  go_upto_region 1 with (fail)
  rw [← hwb.out]
  go_wp2_with (fail)
  go_loopw [5, 6, 7] (fun v5 v6 v7 wr => ∃ (k : Nat) (WA : Option Addr) (n wc : Nat) (S : List (List Int)) (ws : Wd), v7 = .int .i64 k ∧ v5 = .slice WA n wc ∧ v6 = .string ⟨ws.toArray⟩ ∧ k ≤ 3000 ∧ n ≤ 100 * k + 1 ∧ ws.length ≤ k ∧ Hid (WaitS wb.heap.size wr WA n wc S) ∧ Hid (∀ q ∈ S, okI i q) ∧ Hid (ws ++ wordS D kd bd cost (3000 - k) S = RW) ∧ Hid (Ext wb wr)) (fun _ _ v7 _ => 3000 - (intOf v7).toNat)
  case atStart => exact ⟨0, _, 1, 1, [[]], [], rfl, rfl, rfl, by omega, by omega, by simp, W0.out.ext (by (repeat (first | assumption | exact Ext.rf _ | apply Ext.drew | apply Ext.drewN | apply Ext.alloc))), O0, C0, by (repeat (first | assumption | exact Ext.rf _ | apply Ext.drew | apply Ext.drewN | apply Ext.alloc))⟩
  case round =>
    obtain ⟨wo, rfl⟩ : ∃ wo : World, wo = wr := ⟨_, rfl⟩
    clear W0 O0 C0
    obtain ⟨at_, WA, n, wc, S, ws, rfl, rfl, rfl, hat, hn9, hws, WS, OS, CS, YB⟩ := hrel
    cases S with
    | nil =>
      obtain rfl : n = 0 := (WS.out.len).1
      obtain rfl : ws = RW := by
        have h := CS.out
        rw [wordS_nil, List.append_nil] at h
        exact h
      have BB := Lib.hid (B1.out.ext YB.out)
      have d0 : wo.cell? ⟨w.heap.size, 0, none⟩ = some (.int .i64 kind) := BB.out.cell 0
      have d1 : wo.cell? ⟨w.heap.size, 1, none⟩ = some (.int .i64 nn) := BB.out.cell 1
      have d2 : wo.cell? ⟨w.heap.size, 2, none⟩ = some (.int .i64 cap) := BB.out.cell 2
      have d3 : wo.cell? ⟨w.heap.size, 3, none⟩ = some (.slice A lxw a) := BB.out.cell 3
      have d4 : wo.cell? ⟨w.heap.size, 4, none⟩ = some (.slice B lxv b) := BB.out.cell 4
      have d5 : wo.cell? ⟨w.heap.size, 5, none⟩ = some (.slice Dd lco d) := BB.out.cell 5
      go_wp2_with (fail)
      refine (RDD.out _ (XB.out.tr (YB.out.tr (by (repeat (first | assumption | exact Ext.rf _ | apply Ext.drew | apply Ext.drewN | apply Ext.alloc)))))).mono ?_
      rintro e w9 ⟨QA, qn, qc, rfl, x9⟩
      have Y9 := Lib.hid (YB.out.tr (Ext.tr (by (repeat (first | assumption | exact Ext.rf _ | apply Ext.drew | apply Ext.drewN | apply Ext.alloc))) x9))
      clear x9
      go_wp2_with (fail)
      go_ret
      exact ⟨rfl, XB.out.tr (Y9.out.tr (by (repeat (first | assumption | exact Ext.rf _ | apply Ext.drew | apply Ext.drewN | apply Ext.alloc))))⟩
    | cons p S' =>
      obtain ⟨gW, PA, pc, us, hnS, rfl, cW, oP, rU, lU, oU, kU⟩ := WS.out.top
      have WL := WS.out.len
      have zW := World.block_lt_of_cell? _ _ cW
      obtain ⟨k0, hk0⟩ : ∃ k0 : Nat, Hid (S'.length = k0) := ⟨_, rfl⟩
      rw [hk0.out] at cW rU lU oU kU hnS
      obtain rfl : n = k0 + 1 := hnS
      have hkc : k0 ≤ wc := by omega
      replace oP := Lib.hid oP
      replace rU := Lib.hid rU
      replace lU := Lib.hid lU
      replace oU := Lib.hid oU
      replace kU := Lib.hid kU
      have zo := YB.out.size
      have q1 : (0 : Int) < ((k0 + 1 : Nat) : Int) := by omega
      have q2 : ((k0 + 1 : Nat) : Int) - 1 = (k0 : Int) := by omega
      have q3 : (k0 : Int) < ((k0 + 1 : Nat) : Int) := by omega
      have q4 : (0 : Int) ≤ (k0 : Int) := by omega
      have q5 : (k0 : Int) ≤ (wc : Int) := by omega
      have k9 : (k0 : Int) ≤ 1000000 := by omega
      clear WL
      have hgk : decide ((0 : Int) < ((k0 : Int) + 1)) = true := decide_eq_true (by omega)
      have hgk2 : decide (0 < k0 + 1) = true := decide_eq_true (by omega)
      by_cases hal : at_ = 3000
      · subst hal
        obtain rfl : ws = RW := by
          have h := CS.out
          have e : wordS D kd bd cost (3000 - 3000) (p :: S') = [] := rfl
          rw [e, List.append_nil] at h
          exact h
        have BB := Lib.hid (B1.out.ext YB.out)
        have d0 : wo.cell? ⟨w.heap.size, 0, none⟩ = some (.int .i64 kind) := BB.out.cell 0
        have d1 : wo.cell? ⟨w.heap.size, 1, none⟩ = some (.int .i64 nn) := BB.out.cell 1
        have d2 : wo.cell? ⟨w.heap.size, 2, none⟩ = some (.int .i64 cap) := BB.out.cell 2
        have d3 : wo.cell? ⟨w.heap.size, 3, none⟩ = some (.slice A lxw a) := BB.out.cell 3
        have d4 : wo.cell? ⟨w.heap.size, 4, none⟩ = some (.slice B lxv b) := BB.out.cell 4
        have d5 : wo.cell? ⟨w.heap.size, 5, none⟩ = some (.slice Dd lco d) := BB.out.cell 5
        go_wp2_with (fail)
        refine (RDD.out _ (XB.out.tr (YB.out.tr (by (repeat (first | assumption | exact Ext.rf _ | apply Ext.drew | apply Ext.drewN | apply Ext.alloc)))))).mono ?_
        rintro e w9 ⟨QA, qn, qc, rfl, x9⟩
        have Y9 := Lib.hid (YB.out.tr (Ext.tr (by (repeat (first | assumption | exact Ext.rf _ | apply Ext.drew | apply Ext.drewN | apply Ext.alloc))) x9))
        clear x9
        go_wp2_with (fail)
        go_ret
        exact ⟨rfl, XB.out.tr (Y9.out.tr (by (repeat (first | assumption | exact Ext.rf _ | apply Ext.drew | apply Ext.drewN | apply Ext.alloc))))⟩
      · have hal2 : (at_ : Int) < 3000 := by omega
        have okp := OS.out p (by simp)
        have lpD := KR.out.len p okp
        have CT := CS.out
        rw [show 3000 - at_ = (3000 - (at_ + 1)) + 1 by omega, wordS_cons] at CT
        replace CT := Lib.hid CT
        replace okp := Lib.hid okp
        have lb : ¬ 9223372036854775807 < ws.length + 1 := by omega
        have CAT1 := CAT.out ws
        have OS2 : Hid (∀ q ∈ S', okI i q) := fun q hq => OS.out q (by simp [hq])
        clear CS
        go_upto_region 8 with (at_builtin; refine wpl_app_v _ (e := 22) Try.underlying59 hi.out hz0.out hz1.out hz2.out (by simp [Value.cells]) (by omega) rfl _ _ rfl wb.heap.size (some ⟨wo.heap.size, 0, none⟩) 0 0 [] (some ⟨gW, 0, none⟩) k0 wc (us.take k0) rfl rfl (OwV.full (.new rfl) zo rfl (by simp [maxLen])) (rU.out.ext ((Ext.rf _).alloc _)) (by rw [lU.out]; simp) kU.out (by simp only [maxLen]; omega) (by omega) (by simp; omega) ?_; rintro WA2 wc2 w2 oW2 gW2 _)
        rw [Nat.zero_add] at oW2
        have Y2 : Ext wb w2 := Ext.grow (a := wb) (YB.out.alloc _) gW2 (fun z hz => by simp [bl] at hz; omega)
        have M2 : ModT wb.heap.size [22] (wo.alloc (.cells #[] 22)) w2 := (OwV.full (w := wo.alloc (.cells #[] 22)) (base := wb.heap.size) (n := 0) (size := 1) (e := 22) (g := wo.heap.size) (cs := #[]) (.new rfl) zo rfl (by simp [maxLen])).grownT gW2
        have WS2 : Hid (WaitS wb.heap.size w2 WA2 k0 wc2 S') := ⟨_, by simpa using oW2, ((oU.out.ext ((Ext.rf _).alloc _)).modT M2 (by decide))⟩
        have oP2 : Hid (OwI w2 wb.heap.size PA pc p) := (oP.out.ext ((Ext.rf _).alloc _)).modT M2 (by decide)
        replace Y2 := Lib.hid Y2
        clear oW2 gW2 M2 oU rU kU lU cW oP WS zW
        have BB2 := Lib.hid (B1.out.ext Y2.out)
        have d0 : w2.cell? ⟨w.heap.size, 0, none⟩ = some (.int .i64 kind) := BB2.out.cell 0
        have d1 : w2.cell? ⟨w.heap.size, 1, none⟩ = some (.int .i64 nn) := BB2.out.cell 1
        have d2 : w2.cell? ⟨w.heap.size, 2, none⟩ = some (.int .i64 cap) := BB2.out.cell 2
        have d3 : w2.cell? ⟨w.heap.size, 3, none⟩ = some (.slice A lxw a) := BB2.out.cell 3
        have d4 : w2.cell? ⟨w.heap.size, 4, none⟩ = some (.slice B lxv b) := BB2.out.cell 4
        have d5 : w2.cell? ⟨w.heap.size, 5, none⟩ = some (.slice Dd lco d) := BB2.out.cell 5
        go_wp2_with (fail)
        refine (BO.out _ (XB.out.tr (Y2.out.tr (by (repeat (first | assumption | exact Ext.rf _ | apply Ext.drew | apply Ext.drewN | apply Ext.alloc))))) PA pc p (oP2.out.read.ext (by (repeat (first | assumption | exact Ext.rf _ | apply Ext.drew | apply Ext.drewN | apply Ext.alloc)))) (by omega)).mono ?_
        rintro e w3 ⟨er, rfl, x3⟩
        have X3 := Lib.hid (Ext.tr (a := w2) (by (repeat (first | assumption | exact Ext.rf _ | apply Ext.drew | apply Ext.drewN | apply Ext.alloc))) x3)
        have Y3 := Lib.hid (Y2.out.tr X3.out)
        have WS3 := Lib.hid (WS2.out.ext X3.out)
        have oP3 := Lib.hid (oP2.out.ext X3.out)
        have BB3 := Lib.hid (B1.out.ext Y3.out)
        clear x3 X3 WS2 oP2 BB2 Y2 d0 d1 d2 d3 d4 d5
        by_cases hb : cost ≤ bd p
        · have CT2 : Hid ((ws ++ [112]) ++ wordS D kd bd cost (3000 - (at_ + 1)) S' = RW) := by
            have h := CT.out
            rw [if_pos hb] at h
            rw [List.append_assoc]
            exact h
          have hb1 : decide (cost ≤ bd p) = true := decide_eq_true hb
          have CAT2 := CAT1 112
          clear CT CAT1
          have LN2 : k0 ≤ 100 * (at_ + 1) + 1 := by omega
          have LW : (ws ++ [112]).length ≤ at_ + 1 := by rw [List.length_append]; simp; omega
          go_wp2_with (fail)
          go_roundw
          case rel => exact ⟨at_ + 1, WA2, k0, wc2, S', ws ++ [112], by go_num, rfl, by first | rfl | rw [CAT2], by omega, LN2, LW, WS3.out.ext (by (repeat (first | assumption | exact Ext.rf _ | apply Ext.drew | apply Ext.drewN | apply Ext.alloc))), OS2, CT2, Y3.out.tr (by (repeat (first | assumption | exact Ext.rf _ | apply Ext.drew | apply Ext.drewN | apply Ext.alloc)))⟩
          case measure => simp [intOf]; omega
        · have hb1 : decide (cost ≤ bd p) = false := decide_eq_false hb
          have d0 : w3.cell? ⟨w.heap.size, 0, none⟩ = some (.int .i64 kind) := BB3.out.cell 0
          have d1 : w3.cell? ⟨w.heap.size, 1, none⟩ = some (.int .i64 nn) := BB3.out.cell 1
          have d2 : w3.cell? ⟨w.heap.size, 2, none⟩ = some (.int .i64 cap) := BB3.out.cell 2
          have d3 : w3.cell? ⟨w.heap.size, 3, none⟩ = some (.slice A lxw a) := BB3.out.cell 3
          have d4 : w3.cell? ⟨w.heap.size, 4, none⟩ = some (.slice B lxv b) := BB3.out.cell 4
          have d5 : w3.cell? ⟨w.heap.size, 5, none⟩ = some (.slice Dd lco d) := BB3.out.cell 5
          go_wp2_with (fail)
          refine (DE.out _ (XB.out.tr (Y3.out.tr (by (repeat (first | assumption | exact Ext.rf _ | apply Ext.drew | apply Ext.drewN | apply Ext.alloc)))))).mono ?_
          rintro e w4 ⟨rfl, x4⟩
          have X4 := Lib.hid (Ext.tr (a := w3) (by (repeat (first | assumption | exact Ext.rf _ | apply Ext.drew | apply Ext.drewN | apply Ext.alloc))) x4)
          have Y4 := Lib.hid (Y3.out.tr X4.out)
          have WS4 := Lib.hid (WS3.out.ext X4.out)
          have oP4 := Lib.hid (oP3.out.ext X4.out)
          have BB4 := Lib.hid (B1.out.ext Y4.out)
          clear x4 X4 WS3 oP3 BB3 Y3 d0 d1 d2 d3 d4 d5
          by_cases hw : p.length = D
          · have e2 : ((p.length : Int) == (D : Int)) = true := by simp [hw]
            have CT2 : Hid ((ws ++ [108]) ++ wordS D kd bd cost (3000 - (at_ + 1)) S' = RW) := by
              have h := CT.out
              rw [if_neg (show ¬ cost ≤ bd p by omega), if_pos hw] at h
              rw [List.append_assoc]
              exact h
            replace hw := Lib.hid hw
            have CAT2 := CAT1 108
            clear CT CAT1
            have LN2 : k0 ≤ 100 * (at_ + 1) + 1 := by omega
            have LW : (ws ++ [108]).length ≤ at_ + 1 := by rw [List.length_append]; simp; omega
            go_wp2_with (fail)
            go_roundw
            case rel => exact ⟨at_ + 1, WA2, k0, wc2, S', ws ++ [108], by go_num, rfl, by first | rfl | rw [CAT2], by omega, LN2, LW, WS4.out.ext (by (repeat (first | assumption | exact Ext.rf _ | apply Ext.drew | apply Ext.drewN | apply Ext.alloc))), OS2, CT2, Y4.out.tr (by (repeat (first | assumption | exact Ext.rf _ | apply Ext.drew | apply Ext.drewN | apply Ext.alloc)))⟩
            case measure => simp [intOf]; omega
          · have e2 : ((p.length : Int) == (D : Int)) = false := by simp; omega
            have CT2 : Hid ((ws ++ [98]) ++ wordS D kd bd cost (3000 - (at_ + 1)) ((kd p).map (fun n => p ++ [n]) ++ S') = RW) := by
              have h := CT.out
              rw [if_neg (show ¬ cost ≤ bd p by omega), if_neg hw] at h
              rw [List.append_assoc]
              exact h
            have CAT2 := CAT1 98
            clear CT CAT1
            have hplt : p.length < D := by omega
            have KN1 := KN.out p okp.out hplt
            have KD : Hid (∀ n ∈ kd p, okI i (p ++ [n])) := fun n hn => KR.out.kid p okp.out hplt n hn
            have KI1 := Lib.hid (fun (W : World) (y : Ext w W) (Q : Option Addr) (qc : Nat) (hq : RdI W Q p) => KI.out W y Q qc p hq okp.out hplt)
            obtain ⟨l, hl⟩ : ∃ l, Hid (kd p = l) := ⟨_, rfl⟩
            rw [hl.out] at CT2 KN1 KD KI1
            replace hplt := Lib.hid hplt
            replace hw := Lib.hid hw
            clear hl
            have d0 : w4.cell? ⟨w.heap.size, 0, none⟩ = some (.int .i64 kind) := BB4.out.cell 0
            have d1 : w4.cell? ⟨w.heap.size, 1, none⟩ = some (.int .i64 nn) := BB4.out.cell 1
            have d2 : w4.cell? ⟨w.heap.size, 2, none⟩ = some (.int .i64 cap) := BB4.out.cell 2
            have d3 : w4.cell? ⟨w.heap.size, 3, none⟩ = some (.slice A lxw a) := BB4.out.cell 3
            have d4 : w4.cell? ⟨w.heap.size, 4, none⟩ = some (.slice B lxv b) := BB4.out.cell 4
            have d5 : w4.cell? ⟨w.heap.size, 5, none⟩ = some (.slice Dd lco d) := BB4.out.cell 5
            go_wp2_with (fail)
            refine (KI1.out _ (XB.out.tr (Y4.out.tr (by (repeat (first | assumption | exact Ext.rf _ | apply Ext.drew | apply Ext.drewN | apply Ext.alloc))))) PA pc (oP4.out.read.ext (by (repeat (first | assumption | exact Ext.rf _ | apply Ext.drew | apply Ext.drewN | apply Ext.alloc))))).mono ?_
            rintro e w5 ⟨LA, lc, rfl, oL, x5⟩
            have X5 := Lib.hid (Ext.tr (a := w4) (by (repeat (first | assumption | exact Ext.rf _ | apply Ext.drew | apply Ext.drewN | apply Ext.alloc))) x5)
            have z4 := Y4.out.size
            have Y5 := Lib.hid (Y4.out.tr X5.out)
            have WS5 : Hid (WaitS wb.heap.size w5 WA2 k0 wc2 ((l.drop l.length).map (fun x => p ++ [x]) ++ S')) := by
              have h : WaitS wb.heap.size w5 WA2 k0 wc2 ((l.drop l.length).map (fun x => p ++ [x]) ++ S') := by
                rw [List.drop_length]
                exact WS4.out.ext X5.out
              exact h
            have oP5 := Lib.hid (oP4.out.ext X5.out)
            have oL5 : Hid (OwI w5 wb.heap.size LA lc l) := oL.more (by first | exact z4 | (simp; exact z4))
            have J0 : Hid (((l.length : Int) - 1) = (l.length : Int) - 1) := rfl
            clear x5 X5 oL WS4 oP4 BB4 Y4 d0 d1 d2 d3 d4 d5 z4
            have ll64 : (l.length : Int) ≤ 64 := by omega
            go_wp2_with (fail)
            go_loopw [5, 12] (fun v11 v18 wr => ∃ (j : Int) (t : Nat) (WA' : Option Addr) (n' wc' : Nat), v18 = .int .i64 j ∧ v11 = .slice WA' n' wc' ∧ Hid (j = (t : Int) - 1) ∧ t ≤ l.length ∧ Hid (WaitS wb.heap.size wr WA' n' wc' ((l.drop t).map (fun x => p ++ [x]) ++ S')) ∧ Hid (OwI wr wb.heap.size PA pc p) ∧ Hid (OwI wr wb.heap.size LA lc l) ∧ Hid (Ext wb wr)) (fun _ v18 _ => (intOf v18 + 1).toNat)
            case atStart => exact ⟨(l.length : Int) - 1, l.length, WA2, k0, wc2, by go_num, rfl, rfl, by omega, WS5.out.ext (by (repeat (first | assumption | exact Ext.rf _ | apply Ext.drew | apply Ext.drewN | apply Ext.alloc))), oP5.out.ext (by (repeat (first | assumption | exact Ext.rf _ | apply Ext.drew | apply Ext.drewN | apply Ext.alloc))), oL5.out.ext (by (repeat (first | assumption | exact Ext.rf _ | apply Ext.drew | apply Ext.drewN | apply Ext.alloc))), Y5.out.tr (by (repeat (first | assumption | exact Ext.rf _ | apply Ext.drew | apply Ext.drewN | apply Ext.alloc)))⟩
            case round =>
              obtain ⟨wi, rfl⟩ : ∃ wi : World, wi = wr := ⟨_, rfl⟩
              clear WS5 oP5 oL5 J0 Y5
              obtain ⟨j, t, WA', n', wc', rfl, rfl, hj, ht, WI, oP, oL, YB2⟩ := hrel
              have LNI := (WI.out.len).1
              rw [List.length_append, List.length_map, List.length_drop, hk0.out] at LNI
              have hn9' : n' ≤ 100 * at_ + 65 := by omega
              by_cases ht0 : t = 0
              · subst ht0
                obtain rfl : j = -1 := by have h := hj.out; simpa using h
                have WI2 : Hid (WaitS wb.heap.size wi WA' n' wc' (l.map (fun x => p ++ [x]) ++ S')) := WI
                have OS3 : Hid (∀ q ∈ l.map (fun n => p ++ [n]) ++ S', okI i q) := fun q hq => by
                  rcases List.mem_append.1 hq with h | h
                  · obtain ⟨n, hn, rfl⟩ := List.mem_map.1 h
                    exact KD.out n hn
                  · exact OS2.out q h
                have CT3 := CT2
                obtain ⟨SS, hSS⟩ : ∃ SS, Hid (l.map (fun n => p ++ [n]) ++ S' = SS) := ⟨_, rfl⟩
                rw [hSS.out] at WI2 OS3 CT3
                clear WI CT2 hSS LNI
                have LN2 : n' ≤ 100 * (at_ + 1) + 1 := by omega
                have LW : (ws ++ [98]).length ≤ at_ + 1 := by rw [List.length_append]; simp; omega
                go_wp2_with (fail)
                go_roundw
                case rel => exact ⟨at_ + 1, WA', n', wc', SS, ws ++ [98], by go_num, rfl, by first | rfl | rw [CAT2], by omega, LN2, LW, WI2.out.ext (by (repeat (first | assumption | exact Ext.rf _ | apply Ext.drew | apply Ext.drewN | apply Ext.alloc))), OS3, CT3, YB2.out.tr (by (repeat (first | assumption | exact Ext.rf _ | apply Ext.drew | apply Ext.drewN | apply Ext.alloc)))⟩
                case measure => simp [intOf]; omega
              · obtain ⟨t, rfl⟩ : ∃ s, t = s + 1 := ⟨t - 1, by omega⟩
                obtain rfl : j = (t : Int) := by have h := hj.out; omega
                have htl : t < l.length := by omega
                obtain ⟨lb_, lo, x, rfl, zl, cl, el, dl⟩ := oL.out.read.at (k := t) htl
                have EQ : Hid ((p ++ [x]) :: ((l.drop (t + 1)).map (fun x => p ++ [x]) ++ S') = (l.drop t).map (fun x => p ++ [x]) ++ S') := by
                  have h : (p ++ [x]) :: ((l.drop (t + 1)).map (fun x => p ++ [x]) ++ S') = (l.drop t).map (fun x => p ++ [x]) ++ S' := by rw [dl.out]; rfl
                  exact h
                have q1 : (t : Int) < (l.length : Int) := by omega
                have q2 : (0 : Int) ≤ (t : Int) := by omega
                have lp64 : p.length ≤ 64 := by omega
                have YB := YB2
                obtain ⟨SQ, hSQ⟩ : ∃ SQ, Hid ((l.drop (t + 1)).map (fun x => p ++ [x]) ++ S' = SQ) := ⟨_, rfl⟩
                rw [hSQ.out] at WI EQ
                clear el dl hSQ LNI hj ht0
                obtain ⟨wus', RI, OI⟩ := WI.out
                obtain ⟨r, hr⟩ : ∃ r, Hid (r = p ++ [x]) := ⟨p ++ [x], rfl⟩
                have lr : r.length = p.length + 1 := by rw [hr.out]; simp
                have zi := YB.out.size
                replace RI := Lib.hid RI
                replace OI := Lib.hid OI
                go_upto_region 18 with (fail)
                refine wp_region_any (by kernel_rfl) ?_
                change wpAny _ _ _ _ _ _ _ (World.drew _)
                refine wpAny_T (i := 0) (op := Op.move (Operand.tmp 5)) (t := 59) (d := some 70) (v := ?_) rfl (by decide +kernel) (by decide +kernel) (by decide +kernel) (fun _ _ _ h => h) ?_ ?_
                case refine_2 => (intro _; unfold exec2; go_simp; try with_reducible rfl)
                try simp only [Act.put, List.setIfInBounds_toArray, List.set_cons_zero, List.set_cons_succ]
                refine wpAny_T (i := 2) (op := Op.move (Operand.tmp 8)) (t := 22) (d := some 72) (v := ?_) rfl (by decide +kernel) (by decide +kernel) (by decide +kernel) (fun _ _ _ h => h) ?_ ?_
                case refine_2 => (intro _; unfold exec2; go_simp; try with_reducible rfl)
                try simp only [Act.put, List.setIfInBounds_toArray, List.set_cons_zero, List.set_cons_succ]
                refine wpAny_T (i := 4) (op := Op.move (Operand.tmp 11)) (t := 22) (d := some 74) (v := ?_) rfl (by decide +kernel) (by decide +kernel) (by decide +kernel) (fun _ _ _ h => h) ?_ ?_
                case refine_2 => (intro _; unfold exec2; go_simp; try with_reducible rfl)
                try simp only [Act.put, List.setIfInBounds_toArray, List.set_cons_zero, List.set_cons_succ]
                refine wpAny_T (i := 5) (op := Op.move (Operand.tmp 12)) (t := 3) (d := some 75) (v := ?_) rfl (by decide +kernel) (by decide +kernel) (by decide +kernel) (fun _ _ _ h => h) ?_ ?_
                case refine_2 => (intro _; unfold exec2; go_simp; try with_reducible rfl)
                try simp only [Act.put, List.setIfInBounds_toArray, List.set_cons_zero, List.set_cons_succ]
                refine wpAny_T (i := 6) (op := Op.indexAddr 22 (Operand.tmp 74) (Operand.tmp 75)) (t := 0) (d := some 76) (v := ?_) rfl (by decide +kernel) (by decide +kernel) (by decide +kernel) (fun _ _ _ h => h) ?_ ?_
                case refine_2 => (intro _; unfold exec2; go_simp; try with_reducible rfl)
                try simp only [Act.put, List.setIfInBounds_toArray, List.set_cons_zero, List.set_cons_succ]
                refine wpAny_core3 (n := 2) [(1, some 71), (3, some 73), (7, some 77), (8, some 78), (9, some 79), (10, some 80)] (fun | 1 => [3] | 3 => [9] | 8 => [9] | 9 => [10] | _ => []) (Ext wi)
                  (VF (fun | 7 => some (.int .i64 x) | _ => none)
                    (fun j v W => (j = 1 → ∃ g, v = .slice (some ⟨g, 0, none⟩) 0 0 ∧ wi.heap.size ≤ g ∧ Blk W g 3 #[]) ∧ (j = 3 → ∃ A c, v = .slice A p.length c ∧ OwI W wi.heap.size A c p) ∧ (j = 8 → ∃ h, v = .slice (some ⟨h, 0, none⟩) 1 1 ∧ Blk W h 3 #[.int .i64 x]) ∧ (j = 9 → ∃ A c, v = .slice A r.length c ∧ OwI W wi.heap.size A c r) ∧ (j = 10 → ∃ h A c, v = .slice (some ⟨h, 0, none⟩) 1 1 ∧ Blk W h 22 #[.slice A r.length c] ∧ OwI W wi.heap.size A c r)))
                  (fun i W W' => if i = 9 then ModT wi.heap.size [3] W W' else Ext W W') #[true, true, true, true, true, true, true, true, true, true, true, false, false] (by kernel_rfl) (by kernel_rfl) ?_ ?_ ?_ ((Ext.rf _).drew)
                · intro i j v W W' hkp hv hs
                  refine VF.stab1 (fun _ ⟨g1, g3, g8, g9, g10⟩ => ?_) hv
                  by_cases hi : i = 9
                  · subst hi
                    rw [if_pos rfl] at hs
                    refine ⟨fun h => ?_, fun h => ?_, fun h => ?_, fun h => ?_, fun h => ?_⟩
                    all_goals (subst h; exact absurd hkp (by decide +kernel))
                  · rw [if_neg hi] at hs
                    refine ⟨fun h => ?_, fun h => ?_, fun h => ?_, fun h => ?_, fun h => ?_⟩
                    · obtain ⟨g, q1, q2, q3⟩ := g1 h
                      exact ⟨g, q1, q2, q3.ext hs⟩
                    · obtain ⟨A', c', q1, q2⟩ := g3 h
                      exact ⟨A', c', q1, q2.ext hs⟩
                    · obtain ⟨h', q1, q2⟩ := g8 h
                      exact ⟨h', q1, q2.ext hs⟩
                    · obtain ⟨A', c', q1, q2⟩ := g9 h
                      exact ⟨A', c', q1, q2.ext hs⟩
                    · obtain ⟨h', A', c', q1, q2, q3⟩ := g10 h
                      exact ⟨h', A', c', q1, q2.ext hs, q3.ext hs⟩
                · intro pq hpm u W hRW hD K hK
                  have z2 := hRW.size
                  simp only [List.mem_cons, List.not_mem_nil, or_false] at hpm
                  rcases hpm with rfl | rfl | rfl | rfl | rfl | rfl
                  · exact op_bs0 rfl _ (bsw0_run _) (hK _ _ (VF.mg rfl ⟨fun _ => ⟨_, rfl, z2, .new rfl⟩, (fun h => by cases h), (fun h => by cases h), (fun h => by cases h), (fun h => by cases h)⟩) (hRW.alloc _) (by rw [if_neg (by decide)]; exact (Ext.rf _).alloc _))
                  · obtain ⟨g, h1, zg, bg⟩ := ((hD 1 (depIn (by kernel_rfl))).g rfl).1 rfl
                    obtain ⟨A3, c3, w3, hr3, o3, x3⟩ := run_copy_i W wi.heap.size 22 g p PA pc bg zg (oP.out.read.ext hRW) (by omega)
                    exact op_app rfl (.slice (some ⟨g, 0, none⟩) 0 0) (.slice PA p.length pc) (Eq.trans (b := u 1) (by kernel_rfl) h1) (by kernel_rfl) _ hr3 (hK _ _ (VF.mg rfl ⟨(fun h => by cases h), fun _ => ⟨A3, c3, rfl, o3⟩, (fun h => by cases h), (fun h => by cases h), (fun h => by cases h)⟩) (hRW.tr x3) (by rw [if_neg (by decide)]; exact x3))
                  · have r1 := keepEL hRW zl cl
                    exact op_ld (T := 3) rfl (.pointer (some ⟨lb_, lo + t, none⟩)) (by kernel_rfl) (.int .i64 x) (by go_simp) (hK _ _ (VF.mk rfl) hRW (by rw [if_neg (by decide)]; exact Ext.rf _))
                  · have h7 := (hD 7 (depIn (by kernel_rfl))).k rfl
                    exact op_bs1 rfl _ (Eq.trans (b := u 7) (by kernel_rfl) h7) _ (bsw1_run _ _) (hK _ _ (VF.mg rfl ⟨(fun h => by cases h), (fun h => by cases h), fun _ => ⟨_, rfl, .new rfl⟩, (fun h => by cases h), (fun h => by cases h)⟩) (hRW.alloc _) (by rw [if_neg (by decide)]; exact (Ext.rf _).alloc _))
                  · obtain ⟨A3, c3', h3, o3⟩ := ((hD 3 (depIn (by kernel_rfl))).g rfl).2.1 rfl
                    obtain ⟨g8, h8, b8⟩ := ((hD 8 (depIn (by kernel_rfl))).g rfl).2.2.1 rfl
                    obtain ⟨A7, c7, w7', hrun, o7, g7, -⟩ := run_app_i W wi.heap.size 22 A3 p.length c3' p [x] (some ⟨g8, 0, none⟩) 1 rfl o3 (.blk b8 rfl) (by simp; omega) hRW.size
                    have x7 : Ext wi w7' := hRW.grow g7 (fun k hk => (o3.lt k hk).1)
                    have M7 : ModT wi.heap.size [3] W w7' := OwV.grownT (n := p.length) (show OwV W wi.heap.size 3 1 A3 p.length c3' (p.map (Value.int .i64)) from o3) g7
                    rw [← hr.out] at hrun o7
                    exact op_app rfl (.slice A3 p.length c3') (.slice (some ⟨g8, 0, none⟩) 1 1) (Eq.trans (b := u 3) (by kernel_rfl) h3) (Eq.trans (b := u 8) (by kernel_rfl) h8) _ hrun (hK _ _ (VF.mg rfl ⟨(fun h => by cases h), (fun h => by cases h), (fun h => by cases h), fun _ => ⟨A7, c7, rfl, o7⟩, (fun h => by cases h)⟩) x7 (by rw [if_pos rfl]; exact M7))
                  · obtain ⟨A7, c7, h7, o7⟩ := ((hD 9 (depIn (by kernel_rfl))).g rfl).2.2.2.1 rfl
                    exact op_bs1 rfl _ (Eq.trans (b := u 9) (by kernel_rfl) h7) _ (bswv_run _ _ _ _) (hK _ _ (VF.mg rfl ⟨(fun h => by cases h), (fun h => by cases h), (fun h => by cases h), (fun h => by cases h), fun _ => ⟨_, A7, c7, rfl, .new rfl, o7.ext ((Ext.rf _).alloc _)⟩⟩) (hRW.alloc _) (by rw [if_neg (by decide)]; exact (Ext.rf _).alloc _))
                · intro u w8 hRW hV
                  obtain ⟨h12, A7, c7, h12e, b12, o7⟩ := ((hV (10, some 80) (by simp) rfl).g rfl).2.2.2.2 rfl
                  simp only [putAll, h12e]
                  have o2 := RI.out.ext hRW
                  obtain ⟨A4, c4, w4, hrun, o4, g4, a4⟩ := run_app_v w8 (e := 22) Try.underlying59 hi.out hz0.out hz1.out hz2.out (by simp [Value.cells]) (by omega) wb.heap.size 59 WA' n' wc' wus' (some ⟨h12, 0, none⟩) 1 1 [.slice A7 r.length c7] o2 ((RdV.blk b12).rdC) (by simp) (by simp [Value.oneCell']) (by simp only [maxLen]; omega) (by omega) (YB.out.tr hRW).size
                  have M4 := o2.grownT g4
                  have X4 : Hid (Ext wb w4) := (YB.out.tr hRW).grow g4 (fun z hz => (o2.lt z hz).1)
                  have L4 : Hid (OwI w4 wb.heap.size (some ⟨lb_, lo, none⟩) lc l) := (oL.out.ext hRW).modT M4 (by decide)
                  have P4 : Hid (OwI w4 wb.heap.size PA pc p) := (oP.out.ext hRW).modT M4 (by decide)
                  have HI2 : Hid (WaitS wb.heap.size w4 A4 (n' + 1) c4 ((p ++ [x]) :: SQ)) := by
                    refine ⟨_, o4, ?_⟩
                    rw [List.reverse_cons, ← hr.out]
                    exact ((OI.out.ext hRW).modT M4 (by decide)).snoc ((o7.modT M4 (by decide)).more (by omega))
                  clear h12e hV o7 b12 o2 g4 a4 o4 M4 hRW RI OI
                  refine wpAny_next 11 (by kernel_rfl) (op_app rfl (.slice WA' n' wc') (.slice (some ⟨h12, 0, none⟩) 1 1) (by kernel_rfl) (by kernel_rfl) _ hrun ?_)
                  clear hrun
                  try simp only [Act.put, List.setIfInBounds_toArray, List.set_cons_zero, List.set_cons_succ]
                  refine wpAny_T (i := 12) (op := Op.assign (Operand.tmp 81)) (t := 59) (d := some 5) (v := ?_) rfl (by decide +kernel) (by decide +kernel) (by decide +kernel) (fun _ _ _ h => h) ?_ ?_
                  case refine_2 => (intro _; unfold exec2; go_simp; try with_reducible rfl)
                  try simp only [Act.put, List.setIfInBounds_toArray, List.set_cons_zero, List.set_cons_succ]
                  refine wpAny_done (by kernel_rfl) ?_ _
                  clear cl
                  go_simp
                  rw [EQ.out] at HI2
                  clear YB2 YB
                  go_wp2_with (fail)
                  go_roundw
                  case rel => exact ⟨(t : Int) - 1, t, A4, n' + 1, c4, by go_num, rfl, rfl, by omega, HI2.out.ext (by (repeat (first | assumption | exact Ext.rf _ | apply Ext.drew | apply Ext.drewN | apply Ext.alloc))), P4.out.ext (by (repeat (first | assumption | exact Ext.rf _ | apply Ext.drew | apply Ext.drewN | apply Ext.alloc))), L4.out.ext (by (repeat (first | assumption | exact Ext.rf _ | apply Ext.drew | apply Ext.drewN | apply Ext.alloc))), X4.out.tr (by (repeat (first | assumption | exact Ext.rf _ | apply Ext.drew | apply Ext.drewN | apply Ext.alloc)))⟩
                  case measure => simp [intOf]
end Go.Proofs.Ytcpadkaljnnieaa
