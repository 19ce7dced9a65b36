/-
  check.Check, of all problems and certificates.
  What the laws on certificates share: a certificate as an argument; tame; the law's own example.
  The document's order by keys (kurganref09.ByKey): by counting.
  The document's kernel of a knapsack: what may follow.
    The document's kernel of a knapsack: Answer.
  The document's kernel of a knapsack: Bound.
  The document's kernel by a problem's kind (kurganref14): Depth, Kids, Bound; kids in order (kurganref31).
  Lists that wait, in memory: how much there is to do still; the last one; all but the last one.
  The document's check of a word: by a list of beginnings that wait (kurganref31.Check).
-/
import Derived.Test.YtpapkofildcdiaaCheckTellsP6
namespace Go.Proofs.Ytpapkofildcdiaa
open Go.RowKit Go.ChangeShapes Go.WideShapes Go.ChangeAt Go.Deep

theorem pv1 {i : InstP} (hc : checkP i = 0) (hk : i.kind = 1) {W0 : World} {g : Nat} (H : KnB W0 g i.cap (wsP i) (vsP i)) : PV i W0.heap.size W0 (.pointer (some ⟨g, 0, none⟩)) 93 94 92 := by
  have ok := knap_ok hc hk
  obtain ⟨f1, f2, f3, f4, f5⟩ := knap_facts ok
  have n2 := ok.n2
  have hd : depthI i = (wsP i).length := by unfold depthI; rw [if_neg (by omega)]; omega
  have sw := small_inOrder (l := orderP i) ok.sw
  have sv := small_inOrder (l := orderP i) ok.sv
  have hlen : ∀ p q, stP i.cap 0 (wsP i) (vsP i) p = some q → p.length ≤ (wsP i).length := fun p q h => by
    have := (krn_inst hc).len p (by unfold okI; rw [if_pos hk]; exact ⟨q, h⟩)
    omega
  refine ⟨hc, by omega, fun W x => ?_, fun W P c p x hP ho hl => ?_, fun W P c p x hP ho => ?_⟩
  · rw [hd]
    exact kdepthc_any W g i.cap (wsP i) (vsP i) (H.ext x)
  · unfold okI at ho
    rw [if_pos hk] at ho
    obtain ⟨⟨r, o⟩, hs⟩ := ho
    have e : kidsI i p = kidsK i.cap (wsP i) p := by unfold kidsI; rw [if_pos hk]
    rw [e]
    exact kkidsc_any W g i.cap (wsP i) (vsP i) (H.ext x) sw f1 ok.cap P c p hP r o hs (by omega) (by omega)
  · unfold okI at ho
    rw [if_pos hk] at ho
    obtain ⟨⟨r, o⟩, hs⟩ := ho
    have e : boundI i p = (boundP i.cap (wsP i) (vsP i) p).1 := by unfold boundI; rw [if_pos hk]
    rw [e]
    exact kboundc_any W g i.cap (wsP i) (vsP i) (H.ext x) sw sv f1 ok.cap P c p hP r o hs (hlen _ _ hs) (by omega)
theorem pv2 {i : InstP} (hc : checkP i = 0) (hk : i.kind = 2) {W0 : World} {g : Nat} (H : RwB W0 g i.cost) : PV i W0.heap.size W0 (.pointer (some ⟨g, 0, none⟩)) 101 102 100 := by
  have sq := square_ok hc (by omega)
  have rok := rows_ok sq
  have l2 := rok.n2
  have hd : depthI i = i.cost.length := by unfold depthI; rw [if_neg (by omega)]; have := sq.len; omega
  have hok : ∀ p, okI i p → ∃ m, freeP i.cost.length p = some m := fun p ho => by
    unfold okI at ho
    rw [if_neg (by omega), if_pos hk] at ho
    exact ho
  refine ⟨hc, by omega, fun W x => ?_, fun W P c p x hP ho hl => ?_, fun W P c p x hP ho => ?_⟩
  · rw [hd]
    exact rdepthc_any W g i.cost (H.ext x)
  · obtain ⟨m, hm⟩ := hok p ho
    have e : kidsI i p = absL 0 i.cost.length p := by unfold kidsI; rw [if_neg (by omega), if_pos hk]
    rw [e]
    exact rkidsc_any W g i.cost (H.ext x) (by omega) P c p hP (by have := (freeP_in l2 hm).1; omega)
  · obtain ⟨m, hm⟩ := hok p ho
    have e : boundI i p = (boundA i.cost p).1 := by unfold boundI; rw [if_neg (by omega), if_pos hk]
    rw [e]
    exact rboundc_any W g i.cost (H.ext x) rok P c p hP m hm
theorem pv3 {i : InstP} (hc : checkP i = 0) (hk : i.kind = 3) {W0 : World} {g : Nat} (H : CiB W0 g (mirP i.cost) i.cost) : PV i W0.heap.size W0 (.pointer (some ⟨g, 0, none⟩)) 106 107 105 := by
  have sq := square_ok hc (by omega)
  have rok := rows_ok sq
  have l1 := rok.n1
  have l2 := rok.n2
  have hd : depthI i = i.cost.length - 1 := by unfold depthI; rw [if_pos hk]; have := sq.len; omega
  have hok : ∀ p, okI i p → ∃ s, walkP i.cost p = some s := fun p ho => by
    unfold okI at ho
    rw [if_neg (by omega), if_neg (by omega)] at ho
    exact ho
  refine ⟨hc, by omega, fun W x => ?_, fun W P c p x hP ho hl => ?_, fun W P c p x hP ho => ?_⟩
  · rw [hd]
    exact tdepthc_any W g (mirP i.cost) i.cost (H.ext x) l1 l2
  · have e : kidsI i p = absL 1 i.cost.length p := by unfold kidsI; rw [if_neg (by omega), if_neg (by omega)]
    rw [e]
    exact tkidsc_any W g (mirP i.cost) i.cost (H.ext x) (by omega) P c p hP (by omega)
  · obtain ⟨⟨m, last, cost⟩, hm⟩ := hok p ho
    have e : boundI i p = (boundT i.cost (mirP i.cost) p).1 := by unfold boundI; rw [if_neg (by omega), if_neg (by omega)]
    rw [e]
    exact tboundc_any W g (mirP i.cost) i.cost (H.ext x) rok P c p hP m last cost hm
/-- what Check answers -/
def checkR (i : InstP) (x : List Int) (v : Int) (tr : Wd) : Int := if checkP i ≠ 0 then checkP i else if (answR i x).2.2 ≠ 0 then (answR i x).2.2 else if (answR i x).2.1 ≠ v then 13 else wholeC (depthI i) (kidsI i) (boundI i) (answR i x).1 tr
/-- what goes through a word behind the face -/
def OfNode (i : InstP) (T : TypeId) (w : World) (e : Ending) (w' : World) : Prop := ∃ px, e = .returned (.iface T px) ∧ (∀ cost f, NodeC i w'.heap.size w' T px cost (f + 1)) ∧ Ext w w'
theorem ofn1 (i : InstP) (us : List Value) (w : World) (H : RInst w us i) (hc : checkP i = 0) (hk : i.kind = 1) : Calls Try.prog 20 #[.agg (List.toArray us)] w (OfNode i 60 w) := by
  refine (of1_any i us w H hc hk).mono ?_
  rintro e w' ⟨g, rfl, h, x⟩
  exact ⟨_, rfl, fun cost f => node_all_knapsack (pv1 hc hk h) f, x⟩
theorem ofn2 (i : InstP) (us : List Value) (w : World) (H : RInst w us i) (hc : checkP i = 0) (hk : i.kind = 2) : Calls Try.prog 20 #[.agg (List.toArray us)] w (OfNode i 62 w) := by
  refine (of2_any i us w H hk).mono ?_
  rintro e w' ⟨g, rfl, h, x⟩
  exact ⟨_, rfl, fun cost f => node_all_rows (pv2 hc hk h) f, x⟩
theorem ofn3 (i : InstP) (us : List Value) (w : World) (H : RInst w us i) (hc : checkP i = 0) (hk : i.kind = 3) : Calls Try.prog 20 #[.agg (List.toArray us)] w (OfNode i 65 w) := by
  refine (of3_any i us w H hc hk).mono ?_
  rintro e w' ⟨g, rfl, h, x⟩
  exact ⟨_, rfl, fun cost f => node_all_cities (pv3 hc hk h) f, x⟩
set_option maxRecDepth 100000 in
set_option maxHeartbeats 2000000 in
theorem check_yes (i : InstP) (us : List Value) (v : Int) (X : Option Addr) (xc : Nat) (x : List Int) (tr : Wd) (T : TypeId) (w : World) (H : RInst w us i) (hc : checkP i = 0) (lw : i.weight.length ≤ 1000000000) (lv : i.value.length ≤ 1000000000) (hX : RdI w X x) (lx : x.length ≤ xc) (mx : xc ≤ maxLen) (lt : tr.length ≤ 1000)
    (OF : ∀ W, Ext w W → Calls Try.prog 20 #[.agg (List.toArray us)] W (OfNode i T W)) :
    Calls Try.prog 9 #[.agg (List.toArray us), .agg #[.int .i64 v, .slice X x.length xc, .string ⟨tr.toArray⟩]] w fun e w' => e = .returned (.int .i64 (checkR i x v tr)) ∧ Ext w w' := by
  have CH := fun (W : World) (y : Ext w W) => check_any i us W (H.ext y) lw lv
  rw [hc] at CH
  have AN := Lib.hid (fun (W : World) (y : Ext w W) => answerc_any i us X xc x W (H.ext y) hc (hX.ext y) lx mx)
  have e : checkR i x v tr = if (answR i x).2.2 ≠ 0 then (answR i x).2.2 else if (answR i x).2.1 ≠ v then 13 else wholeC (depthI i) (kidsI i) (boundI i) (answR i x).1 tr := by
    unfold checkR
    rw [if_neg (by simpa using hc)]
  obtain ⟨RES, hR⟩ : ∃ RES, Hid (checkR i x v tr = RES) := ⟨_, rfl⟩
  rw [hR.out] at e ⊢
  replace e := Lib.hid e
  clear hR
  have OKN := Lib.hid (okI_nil hc)
  unfold OfNode at OF
  replace OF := Lib.hid OF
  replace CH := Lib.hid CH
  obtain ⟨AR, hans⟩ : ∃ AR, Hid (answR i x = AR) := ⟨_, rfl⟩
  rw [hans.out] at e AN
  clear hans hc lx mx hX
  obtain ⟨a1, a2, a3⟩ := AR
  simp only at e AN
  obtain ⟨A, a, B, b, D, d, rfl, -, -, -⟩ := H
  obtain ⟨kind, hkd⟩ : ∃ q, Hid (q = i.kind) := ⟨_, rfl⟩
  obtain ⟨nn, hnn⟩ : ∃ q, Hid (q = i.n) := ⟨_, rfl⟩
  obtain ⟨cap, hcap⟩ : ∃ q, Hid (q = i.cap) := ⟨_, rfl⟩
  obtain ⟨lxw, hxw⟩ : ∃ q, Hid (q = i.weight.length) := ⟨_, rfl⟩
  obtain ⟨lxv, hxv⟩ : ∃ q, Hid (q = i.value.length) := ⟨_, rfl⟩
  obtain ⟨lco, hco⟩ : ∃ q, Hid (q = i.cost.length) := ⟨_, rfl⟩
  rw [← hkd.out, ← hnn.out, ← hcap.out, ← hxw.out, ← hxv.out, ← hco.out] at CH AN OF ⊢
  clear hkd hnn hcap hxw hxv hco lw lv
  obtain ⟨wb, hwb⟩ : ∃ wb, Hid (wb = (w.alloc (.cells #[.int .i64 kind, .int .i64 nn, .int .i64 cap, .slice A lxw a, .slice B lxv b, .slice D lco d] 25)).alloc (.cells #[.int .i64 v, .slice X x.length xc, .string ⟨tr.toArray⟩] 29)) := ⟨_, rfl⟩
  have XB : Hid (Ext w wb) := by
    have h : Ext w wb := by rw [hwb.out]; exact ((Ext.rf w).alloc _).alloc _
    exact h
  have B1 : Hid (Blk wb w.heap.size 25 #[.int .i64 kind, .int .i64 nn, .int .i64 cap, .slice A lxw a, .slice B lxv b, .slice D lco d]) := by
    have h : Blk wb w.heap.size 25 #[.int .i64 kind, .int .i64 nn, .int .i64 cap, .slice A lxw a, .slice B lxv b, .slice D lco d] := by rw [hwb.out]; exact .alloc (.new rfl) _
    exact h
  have B2 : Hid (Blk wb (w.heap.size + 1) 29 #[.int .i64 v, .slice X x.length xc, .string ⟨tr.toArray⟩]) := by
    have h : Blk wb (w.heap.size + 1) 29 #[.int .i64 v, .slice X x.length xc, .string ⟨tr.toArray⟩] := by rw [hwb.out]; exact .new (by simp)
    exact h
  go_enter Try.func9, Try.ntmps9
  go_upto_region 1 with (fail)
  rw [← hwb.out]
  have d0 : wb.cell? ⟨w.heap.size, 0, none⟩ = some (.int .i64 kind) := B1.out.cell 0
  have d1 : wb.cell? ⟨w.heap.size, 1, none⟩ = some (.int .i64 nn) := B1.out.cell 1
  have d2 : wb.cell? ⟨w.heap.size, 2, none⟩ = some (.int .i64 cap) := B1.out.cell 2
  have d3 : wb.cell? ⟨w.heap.size, 3, none⟩ = some (.slice A lxw a) := B1.out.cell 3
  have d4 : wb.cell? ⟨w.heap.size, 4, none⟩ = some (.slice B lxv b) := B1.out.cell 4
  have d5 : wb.cell? ⟨w.heap.size, 5, none⟩ = some (.slice D lco d) := B1.out.cell 5
  go_wp2_with (fail)
  refine (CH.out _ (XB.out.tr (by (repeat (first | assumption | exact Ext.rf _ | apply Ext.drew | apply Ext.drewN | apply Ext.alloc))))).mono ?_
  rintro e w1 ⟨rfl, x1⟩
  have Y1 := Lib.hid (Ext.tr (a := wb) (by (repeat (first | assumption | exact Ext.rf _ | apply Ext.drew | apply Ext.drewN | apply Ext.alloc))) x1)
  have B11 := Lib.hid (B1.out.ext Y1.out)
  have B21 := Lib.hid (B2.out.ext Y1.out)
  clear x1 d0 d1 d2 d3 d4 d5
  have d0 : w1.cell? ⟨w.heap.size, 0, none⟩ = some (.int .i64 kind) := B11.out.cell 0
  have d1 : w1.cell? ⟨w.heap.size, 1, none⟩ = some (.int .i64 nn) := B11.out.cell 1
  have d2 : w1.cell? ⟨w.heap.size, 2, none⟩ = some (.int .i64 cap) := B11.out.cell 2
  have d3 : w1.cell? ⟨w.heap.size, 3, none⟩ = some (.slice A lxw a) := B11.out.cell 3
  have d4 : w1.cell? ⟨w.heap.size, 4, none⟩ = some (.slice B lxv b) := B11.out.cell 4
  have d5 : w1.cell? ⟨w.heap.size, 5, none⟩ = some (.slice D lco d) := B11.out.cell 5
  have c1 : w1.cell? ⟨w.heap.size + 1, 1, none⟩ = some (.slice X x.length xc) := B21.out.cell 1
  go_wp2_with (fail)
  refine (AN.out _ (XB.out.tr (Y1.out.tr (by (repeat (first | assumption | exact Ext.rf _ | apply Ext.drew | apply Ext.drewN | apply Ext.alloc)))))).mono ?_
  rintro e w2 ⟨rfl, x2⟩
  have Y2 := Lib.hid (Y1.out.tr (Ext.tr (by (repeat (first | assumption | exact Ext.rf _ | apply Ext.drew | apply Ext.drewN | apply Ext.alloc))) x2))
  have B12 := Lib.hid (B1.out.ext Y2.out)
  have B22 := Lib.hid (B2.out.ext Y2.out)
  clear x2 d0 d1 d2 d3 d4 d5 c1
  by_cases h3 : a3 = 0
  · subst h3
    have c0 : w2.cell? ⟨w.heap.size + 1, 0, none⟩ = some (.int .i64 v) := B22.out.cell 0
    by_cases h2 : a2 = v
    · subst h2
      have E : Hid (RES = wholeC (depthI i) (kidsI i) (boundI i) a1 tr) := by
        have h := e.out
        rw [if_neg (by simp), if_neg (by simp)] at h
        exact h
      clear e
      have d0 : w2.cell? ⟨w.heap.size, 0, none⟩ = some (.int .i64 kind) := B12.out.cell 0
      have d1 : w2.cell? ⟨w.heap.size, 1, none⟩ = some (.int .i64 nn) := B12.out.cell 1
      have d2 : w2.cell? ⟨w.heap.size, 2, none⟩ = some (.int .i64 cap) := B12.out.cell 2
      have d3 : w2.cell? ⟨w.heap.size, 3, none⟩ = some (.slice A lxw a) := B12.out.cell 3
      have d4 : w2.cell? ⟨w.heap.size, 4, none⟩ = some (.slice B lxv b) := B12.out.cell 4
      have d5 : w2.cell? ⟨w.heap.size, 5, none⟩ = some (.slice D lco d) := B12.out.cell 5
      have c2 : w2.cell? ⟨w.heap.size + 1, 2, none⟩ = some (.string ⟨tr.toArray⟩) := B22.out.cell 2
      have zw := B12.out.lt
      have zc := B22.out.lt
      go_wp2_with (fail)
      go_region_held3 (fun w' => w'.cell? ⟨w.heap.size, 0, none⟩ = some (.int .i64 kind) ∧ w'.cell? ⟨w.heap.size, 1, none⟩ = some (.int .i64 nn) ∧ w'.cell? ⟨w.heap.size, 2, none⟩ = some (.int .i64 cap) ∧ w'.cell? ⟨w.heap.size, 3, none⟩ = some (.slice A lxw a) ∧ w'.cell? ⟨w.heap.size, 4, none⟩ = some (.slice B lxv b) ∧ w'.cell? ⟨w.heap.size, 5, none⟩ = some (.slice D lco d) ∧ w'.cell? ⟨w.heap.size + 1, 2, none⟩ = some (.string ⟨tr.toArray⟩)) (go_keep)
        (first | (go_at_call 20; refine (OF.out _ (XB.out.tr (Y2.out.tr (by (repeat (first | assumption | exact Ext.rf _ | apply Ext.drew | apply Ext.drewN | apply Ext.alloc)))))).mono ?_; rintro e w3 ⟨px, rfl, ND, x3⟩; have Y3 := Ext.tr (a := w2) (by (repeat (first | assumption | exact Ext.rf _ | apply Ext.drew | apply Ext.drewN | apply Ext.alloc))) x3; have s1 := keepEL Y3 zw d0; have s2 := keepEL Y3 zw d1; have s3 := keepEL Y3 zw d2; have s4 := keepEL Y3 zw d3; have s5 := keepEL Y3 zw d4; have s6 := keepEL Y3 zw d5; have s7 := keepEL Y3 zc c2))
      all_goals
        have X3 := Lib.hid (XB.out.tr (Y2.out.tr Y3))
        clear s1 s2 s3 s4 s5 s6 s7 d0 d1 d2 d3 d4 d5 c2 c0 x3 Y3
        have BW : ∀ (W : World), W = w3.alloc (.cells #[.iface T px, .int .i64 a1, .string ⟨tr.toArray⟩] 52) → Blk W w3.heap.size 52 #[.iface T px, .int .i64 a1, .string ⟨tr.toArray⟩] := fun W h => by rw [h]; exact .new rfl
        replace BW := Lib.hid BW
        have ND1 := Lib.hid (ND a1 (depthI i))
        clear ND
        obtain ⟨res, hres⟩ : ∃ res, Hid (nodeC (depthI i) (kidsI i) (boundI i) a1 (depthI i + 1) [] tr = res) := ⟨_, rfl⟩
        have ND2 := Lib.hid (fun (W : World) (x : Ext w3 W) (hb : Blk W w3.heap.size 52 #[.iface T px, .int .i64 a1, .string ⟨tr.toArray⟩]) => ND1.out W none 0 [] tr x hb (.inl rfl) (fun b h => by simp [bl] at h) OKN.out (by simp) lt)
        unfold NodeP at ND2
        rw [hres.out] at ND2
        have E2 : Hid (RES = if res.1 = 0 then (if res.2 = [] then 0 else 7) else res.1) := by
          have h := E.out
          unfold wholeC at h
          rw [hres.out] at h
          exact h
        clear ND1 E hres OKN
        obtain ⟨re, rr⟩ := res
        go_wp2_with (fail)
        refine (ND2.out _ (by (repeat (first | assumption | exact Ext.rf _ | apply Ext.drew | apply Ext.drewN | apply Ext.alloc))) (.new rfl)).mono ?_
        rintro e w5 ⟨rfl, b5, m5⟩
        have X5 : Hid (Ext w w5) := X3.out.mod (((Mod.rf w3).alloc _).tr m5) (fun k hk e => by have := X3.out.size; omega)
        have c2 : w5.cell? ⟨w3.heap.size, 2, none⟩ = some (.string ⟨rr.toArray⟩) := b5.cell 2
        clear m5 ND2
        try simp only at E2
        by_cases hre : re = 0
        · subst hre
          cases rr with
          | nil =>
            have E3 : Hid (RES = 0) := by
              have h := E2.out
              rw [if_pos rfl, if_pos rfl] at h
              exact h
            clear E2
            go_wp2_with (fail)
            go_ret
            exact ⟨ret_i E3.out.symm, X5.out.tr (by (repeat (first | assumption | exact Ext.rf _ | apply Ext.drew | apply Ext.drewN | apply Ext.alloc)))⟩
          | cons y r =>
            have E3 : Hid (RES = 7) := by
              have h := E2.out
              rw [if_pos rfl, if_neg (by simp)] at h
              exact h
            have hne : (⟨(y :: r).toArray⟩ : ByteArray) ≠ ⟨#[]⟩ := by simp
            clear E2
            go_wp2_with (fail)
            go_ret
            exact ⟨ret_i E3.out.symm, X5.out.tr (by (repeat (first | assumption | exact Ext.rf _ | apply Ext.drew | apply Ext.drewN | apply Ext.alloc)))⟩
        · have E3 : Hid (RES = re) := by
            have h := E2.out
            rw [if_neg hre] at h
            exact h
          have hre1 : (re == 0) = false := by simpa using hre
          clear E2
          go_wp2_with (fail)
          go_ret
          exact ⟨ret_i E3.out.symm, X5.out.tr (by (repeat (first | assumption | exact Ext.rf _ | apply Ext.drew | apply Ext.drewN | apply Ext.alloc)))⟩
    · have E : Hid (RES = 13) := by
        have h := e.out
        rw [if_neg (by simp), if_pos h2] at h
        exact h
      have h21 : (a2 == v) = false := by simpa using h2
      clear e
      go_wp2_with (fail)
      go_ret
      exact ⟨ret_i E.out.symm, XB.out.tr (Y2.out.tr (by (repeat (first | assumption | exact Ext.rf _ | apply Ext.drew | apply Ext.drewN | apply Ext.alloc))))⟩
  · have E : Hid (RES = a3) := by
      have h := e.out
      rw [if_pos h3] at h
      exact h
    have h31 : (a3 == 0) = false := by simpa using h3
    clear e
    go_wp2_with (fail)
    go_ret
    exact ⟨ret_i E.out.symm, XB.out.tr (Y2.out.tr (by (repeat (first | assumption | exact Ext.rf _ | apply Ext.drew | apply Ext.drewN | apply Ext.alloc))))⟩
set_option maxRecDepth 100000 in
theorem check_no (i : InstP) (us : List Value) (v : Int) (X : Option Addr) (xc : Nat) (x : List Int) (tr : Wd) (w : World) (H : RInst w us i) (hc : checkP i ≠ 0) (lw : i.weight.length ≤ 1000000000) (lv : i.value.length ≤ 1000000000) :
    Calls Try.prog 9 #[.agg (List.toArray us), .agg #[.int .i64 v, .slice X x.length xc, .string ⟨tr.toArray⟩]] w fun e w' => e = .returned (.int .i64 (checkR i x v tr)) ∧ Ext w w' := by
  have CH := fun (W : World) (y : Ext w W) => check_any i us W (H.ext y) lw lv
  have e : checkR i x v tr = checkP i := by
    unfold checkR
    rw [if_pos hc]
  rw [e]
  generalize checkP i = q at *
  have h1 : (q == 0) = false := by simpa using hc
  replace CH := Lib.hid CH
  obtain ⟨A, a, B, b, D, d, rfl, -, -, -⟩ := H
  clear e hc
  go_enter Try.func9, Try.ntmps9
  go_wp2_with (fail)
  refine (CH.out _ (by (repeat (first | assumption | exact Ext.rf _ | apply Ext.drew | apply Ext.drewN | apply Ext.alloc)))).mono ?_
  rintro e w1 ⟨rfl, x1⟩
  have Y1 := Lib.hid (Ext.tr (a := w) (by (repeat (first | assumption | exact Ext.rf _ | apply Ext.drew | apply Ext.drewN | apply Ext.alloc))) x1)
  clear x1
  go_wp2_with (fail)
  go_ret
  exact ⟨rfl, Y1.out.tr (by (repeat (first | assumption | exact Ext.rf _ | apply Ext.drew | apply Ext.drewN | apply Ext.alloc)))⟩
theorem checkc_any (i : InstP) (us : List Value) (v : Int) (X : Option Addr) (xc : Nat) (x : List Int) (tr : Wd) (w : World) (H : RInst w us i) (lw : i.weight.length ≤ 1000000000) (lv : i.value.length ≤ 1000000000) (hX : RdI w X x) (lx : x.length ≤ xc) (mx : xc ≤ maxLen) (lt : tr.length ≤ 1000) :
    Calls Try.prog 9 #[.agg (List.toArray us), .agg #[.int .i64 v, .slice X x.length xc, .string ⟨tr.toArray⟩]] w fun e w' => e = .returned (.int .i64 (checkR i x v tr)) ∧ Ext w w' := by
  by_cases hc : checkP i = 0
  · rcases check_kind hc with h | h | h
    · exact check_yes i us v X xc x tr _ w H hc lw lv hX lx mx lt fun W y => ofn1 i us W (H.ext y) hc h
    · exact check_yes i us v X xc x tr _ w H hc lw lv hX lx mx lt fun W y => ofn2 i us W (H.ext y) hc h
    · exact check_yes i us v X xc x tr _ w H hc lw lv hX lx mx lt fun W y => ofn3 i us W (H.ext y) hc h
  · exact check_no i us v X xc x tr w H hc lw lv
end Go.Proofs.Ytpapkofildcdiaa
namespace Go.Proofs.Ytpapkofildcdiaa
open Go.RowKit Go.ChangeShapes Go.WideShapes Go.ChangeAt Go.Deep

structure CertP where
  value : Int
  x : List Int
  tree : Wd
/-- the three cells of a certificate -/
def RCert (w : World) (vs : List Value) (c : CertP) : Prop := ∃ (A : Option Addr) (a : Nat), vs = [.int .i64 c.value, .slice A c.x.length a, .string ⟨c.tree.toArray⟩] ∧ RdI w A c.x ∧ Ints c.x ∧ c.x.length ≤ a ∧ a ≤ maxLen
def CertOk (c : CertP) : Prop := (-9223372036854775808 ≤ c.value ∧ c.value ≤ 9223372036854775807) ∧ c.tree.length ≤ maxLen
section
variable {H : Type} {enc : TypeId × Value → H} {W : World}
theorem cells_cert : Try.prog.cellsOf 27 = 3 := by kernel_rfl
theorem cells_strc : Try.prog.cellsOf 9 = 1 := by kernel_rfl
set_option maxRecDepth 100000 in
theorem open_Cert {base : Nat} {v : Value} {d : DataW H} {p : List MemPlace} (hd : DataW.Trod enc Try.prog W 0 (fun _ => true) true 27 v d p) (hv : Value.okWide Try.prog W .any base 27 v) :
    ∃ vs c, v = .agg (List.toArray vs) ∧ RCert W vs c ∧ CertOk c := by
  obtain ⟨cs, rfl, hsz⟩ := okWide_struct Try.underlying27 hv
  rw [cells_cert] at hsz
  obtain ⟨l⟩ := cs
  match l, hsz with
  | [c0, c1, c2], _ =>
    obtain ⟨fuel, h⟩ := hd
    obtain ⟨n0, y0, h0⟩ := field_at Try.underlying27 h 0 3 0 1 rfl cells_int
    obtain ⟨n1, y1, h1⟩ := field_at Try.underlying27 h 1 22 1 1 rfl cells_is
    obtain ⟨n2, y2, h2⟩ := field_at Try.underlying27 h 2 9 2 1 rfl cells_strc
    obtain ⟨x0, e0, b0⟩ := opens_int _ _ _ h0
    obtain ⟨l1, A1, a1, e1, r1⟩ := opens_ints _ _ _ h1
    obtain ⟨s2, e2, _, b2⟩ := DataW.trod_string Try.underlying9 h2
    injection e0 with e0
    injection e1 with e1
    injection e2 with e2
    subst e0 e1 e2
    exact ⟨_, ⟨x0, l1, s2.data.toList⟩, rfl, ⟨A1, a1, rfl, r1⟩, b0, by show s2.data.toList.length ≤ maxLen; rw [Array.length_toList]; exact b2⟩
end
/-- no more than some numbers and letters -/
def tameP (c : CertP) : CertP := ⟨c.value, c.x.take 70, c.tree.take 400⟩
def TamePost (c : CertP) (w : World) (e : Ending) (w' : World) : Prop := ∃ (A : Option Addr) (a : Nat), e = .returned (.agg #[.int .i64 c.value, .slice A c.x.length a, .string ⟨c.tree.toArray⟩]) ∧ OwI w' w.heap.size A a c.x ∧ Ext w w'
set_option maxRecDepth 100000 in
set_option maxHeartbeats 2000000 in
theorem tame_any (c : CertP) (vs : List Value) (w : World) (H : RCert w vs c) (hok : CertOk c) :
    Calls Try.prog 7 #[.agg (List.toArray vs)] w (TamePost (tameP c) w) := by
  obtain ⟨v, x, tr⟩ := c
  obtain ⟨A, a, rfl, hA, iA, lA, mA⟩ := H
  have lt := hok.2
  simp only at *
  obtain ⟨ps, hp, ip, lp, lp', kp, ep⟩ := cut_min 70 hA iA
  have lpa : ps.length ≤ a := by omega
  have ep2 : min (x.length : Int) 70 = (ps.length : Int) := by split at ep <;> omega
  obtain ⟨qn, hqn⟩ : ∃ qn, qn = min tr.length 400 := ⟨_, rfl⟩
  have es1 : min (tr.length : Int) 400 = (qn : Int) := by omega
  have es2 : (if (400 : Int) < (tr.length : Int) then (400 : Int) else (tr.length : Int)) = (qn : Int) := by split <;> omega
  have es3 : qn ≤ tr.length := by omega
  have es4 : (qn : Int) ≤ (tr.length : Int) := by omega
  have slen : (⟨tr.toArray⟩ : ByteArray).size = tr.length := by simp [ByteArray.size]
  have etr : (⟨tr.toArray⟩ : ByteArray).extract 0 qn = ⟨(tr.take 400).toArray⟩ := by
    apply ByteArray.ext
    rw [ByteArray.data_extract, hqn]
    simp
    try omega
  have hq9 : qn ≤ 400 := by omega
  have EP : Hid (x.take 70 = ps) := kp.out.symm
  unfold tameP TamePost
  simp only
  rw [EP.out]
  unfold maxLen at mA lt
  simp only [Int.cast_ofNat_Int] at ep
  replace hp := Lib.hid hp
  clear hqn hA iA ip hok kp EP
  obtain ⟨wb, hwb⟩ : ∃ wb, Hid (wb = (w.alloc (.cells #[.int .i64 v, .slice A x.length a, .string ⟨tr.toArray⟩] 27)).alloc (.cells #[.int .i64 0, .slice none 0 0, .string ⟨#[]⟩] 29)) := ⟨_, rfl⟩
  have XB : Hid (Ext w wb) := by
    have h : Ext w wb := by rw [hwb.out]; exact ((Ext.rf w).alloc _).alloc _
    exact h
  have B1 : Hid (Blk wb w.heap.size 27 #[.int .i64 v, .slice A x.length a, .string ⟨tr.toArray⟩]) := by
    have h : Blk wb w.heap.size 27 #[.int .i64 v, .slice A x.length a, .string ⟨tr.toArray⟩] := by rw [hwb.out]; exact .alloc (.new rfl) _
    exact h
  have B2 : Hid (Blk wb (w.heap.size + 1) 29 #[.int .i64 0, .slice none 0 0, .string ⟨#[]⟩]) := by
    have h : Blk wb (w.heap.size + 1) 29 #[.int .i64 0, .slice none 0 0, .string ⟨#[]⟩] := by rw [hwb.out]; exact .new (by simp)
    exact h
  go_enter Try.func7, Try.ntmps7
  go_upto_region 1 with (fail)
  rw [← hwb.out]
  have c0 : wb.cell? ⟨w.heap.size, 0, none⟩ = some (.int .i64 v) := B1.out.cell 0
  have c1 : wb.cell? ⟨w.heap.size, 1, none⟩ = some (.slice A x.length a) := B1.out.cell 1
  have c2 : wb.cell? ⟨w.heap.size, 2, none⟩ = some (.string ⟨tr.toArray⟩) := B1.out.cell 2
  have zb := B1.out.lt
  go_region_held3 (fun w' => w'.cell? ⟨w.heap.size, 0, none⟩ = some (.int .i64 v) ∧ w'.cell? ⟨w.heap.size, 1, none⟩ = some (.slice A x.length a) ∧ w'.cell? ⟨w.heap.size, 2, none⟩ = some (.string ⟨tr.toArray⟩)) (go_keep)
    (first | (refine step_copy_i _ (by rfl) _ _ (by rfl) wb.heap.size _ ps A a (by rfl) (by rfl) ?_ ?_ ?_ ?_ ?_; (first | exact .new (by simp) | exact .drew (.new (by simp)) | exact .alloc (.new (by simp)) _ | exact .drew (.alloc (.new (by simp)) _) | exact .alloc (.alloc (.new (by simp)) _) _ | exact .drew (.alloc (.alloc (.new (by simp)) _) _) | (repeat (first | assumption | (refine Blk.new ?_; (focus (simp; done))) | apply Blk.drew | apply Blk.drewN | apply Blk.alloc))); (first | exact Nat.le_refl _ | omega | (focus (simp; try omega))); (refine (hp.out.ext XB.out).ext ?_; (repeat (first | assumption | exact Ext.rf _ | apply Ext.drew | apply Ext.drewN | apply Ext.alloc))); omega; rintro A7 c7 w7 o7 x7; have y7 := Ext.tr (a := wb) (by (repeat (first | assumption | exact Ext.rf _ | apply Ext.drew | apply Ext.drewN | apply Ext.alloc))) x7; have s1 := keepEL y7 zb c0; have s2 := keepEL y7 zb c1; have s3 := keepEL y7 zb c2; have t0 : w7.cell? ⟨w.heap.size + 1, 0, none⟩ = some (.int .i64 0) := (B2.out.ext y7).cell 0; have t1 : w7.cell? ⟨w.heap.size + 1, 1, none⟩ = some (.slice none 0 0) := (B2.out.ext y7).cell 1; have t2 : w7.cell? ⟨w.heap.size + 1, 2, none⟩ = some (.string ⟨#[]⟩) := (B2.out.ext y7).cell 2; have f0 := (B2.out.ext y7).free 0; have f1 := (B2.out.ext y7).free 1; have f2 := (B2.out.ext y7).free 2))
  all_goals
    have Bq := Lib.hid (B2.out.ext y7)
    have zx := (XB.out.tr y7).size
    have OF := Lib.hid (OwI.more (base' := w.heap.size) o7 (by have := XB.out.size; omega))
    have M := Lib.hid ((ModT.set w7 Bq.out (ts := [29]) (base := w.heap.size) (by simp) (by omega) 0 (.int .i64 v)).tr ((ModT.set _ (Bq.out.set 0 (.int .i64 v)) (by simp) (by omega) 1 (.slice A7 ps.length c7)).tr (ModT.set _ ((Bq.out.set 0 (.int .i64 v)).set 1 (.slice A7 ps.length c7)) (by simp) (by omega) 2 (.string ⟨(tr.take 400).toArray⟩))))
    go_wp2_with (fail)
    exact bodyPost_ret (v := .agg #[.int .i64 v, .slice A7 ps.length c7, .string ⟨(tr.take 400).toArray⟩]) (by simp [results, Try.results7, go_sem, *]) rfl ⟨A7, c7, rfl, OF.out.modT M.out (by decide), (XB.out.tr y7).modT M.out (Nat.le_refl _)⟩
def exC : InstP := ⟨1, 1, 1, [1], [5], []⟩
theorem exC_yes : checkR exC [1] 5 [98, 112, 108] = 0 := by decide +kernel
theorem exC_no : checkR exC [0] 0 [98, 108, 108] = 13 := by decide +kernel
theorem exC_rinst {w1 : World} {a b : Nat} (b0 : Blk w1 a 3 #[.int .i64 1]) (b1 : Blk w1 b 3 #[.int .i64 5]) :
    RInst w1 [.int .i64 1, .int .i64 1, .int .i64 1, .slice (some ⟨a, 0, none⟩) 1 1, .slice (some ⟨b, 0, none⟩) 1 1, .slice none 0 0] exC := by
  have hz : 1 ≤ maxLen := by simp [maxLen]
  have hi : ∀ z : Int, 0 ≤ z ∧ z ≤ 10 → Ints [z] := fun z h x hx => by simp at hx; omega
  exact ⟨some ⟨a, 0, none⟩, 1, some ⟨b, 0, none⟩, 1, none, 0, rfl, ⟨.blk b0 rfl, hi 1 (by omega), Nat.le_refl 1, hz⟩, ⟨.blk b1 rfl, hi 5 (by omega), Nat.le_refl 1, hz⟩, ⟨.inl rfl, Nat.le_refl 0, zero_le_maxLen⟩⟩
set_option maxRecDepth 100000 in
set_option maxHeartbeats 2000000 in
theorem checks_any (w : World) : Calls Try.prog 8 #[] w fun e w' => e = .returned (.bool true) ∧ Ext w w' := by
  have C1 := fun (us : List Value) (X : Option Addr) (W : World) (H : RInst W us exC) (hX : RdI W X [1]) => checkc_any exC us 5 X 1 [1] [98, 112, 108] W H (by simp [exC]) (by simp [exC]) hX (Nat.le_refl 1) (by simp [maxLen]) (by simp)
  have C2 := fun (us : List Value) (X : Option Addr) (W : World) (H : RInst W us exC) (hX : RdI W X [0]) => checkc_any exC us 0 X 1 [0] [98, 108, 108] W H (by simp [exC]) (by simp [exC]) hX (Nat.le_refl 1) (by simp [maxLen]) (by simp)
  rw [exC_yes] at C1
  rw [exC_no] at C2
  simp only [List.length_cons, List.length_nil, Nat.reduceAdd] at C1 C2
  replace C1 := Lib.hid C1
  replace C2 := Lib.hid C2
  obtain ⟨w1, hw1⟩ : ∃ w1, Hid (w1 = ((w.alloc (.cells #[.int .i64 1] 3)).alloc (.cells #[.int .i64 5] 3)).alloc (.cells #[.int .i64 1, .int .i64 1, .int .i64 1, .slice (some ⟨w.heap.size, 0, none⟩) 1 1, .slice (some ⟨w.heap.size + 1, 0, none⟩) 1 1, .slice none 0 0] 25)) := ⟨_, rfl⟩
  have b0 : Blk w1 w.heap.size 3 #[.int .i64 1] := by rw [hw1.out]; exact .alloc (.alloc (.new rfl) _) _
  have b1 : Blk w1 (w.heap.size + 1) 3 #[.int .i64 5] := by rw [hw1.out]; exact .alloc (.new (by simp)) _
  have b4 : Hid (Blk w1 (w.heap.size + 1 + 1) 25 #[.int .i64 1, .int .i64 1, .int .i64 1, .slice (some ⟨w.heap.size, 0, none⟩) 1 1, .slice (some ⟨w.heap.size + 1, 0, none⟩) 1 1, .slice none 0 0]) := by
    have h : Blk w1 (w.heap.size + 1 + 1) 25 #[.int .i64 1, .int .i64 1, .int .i64 1, .slice (some ⟨w.heap.size, 0, none⟩) 1 1, .slice (some ⟨w.heap.size + 1, 0, none⟩) 1 1, .slice none 0 0] := by rw [hw1.out]; exact .new (by simp)
    exact h
  have R := Lib.hid (exC_rinst b0 b1)
  have X1 : Hid (Ext w w1) := by
    have h : Ext w w1 := by rw [hw1.out]; exact (((Ext.rf w).alloc _).alloc _).alloc _
    exact h
  clear b0 b1
  go_enter Try.func8, Try.ntmps8
  go_upto_region 2 with (fail)
  rw [← hw1.out]
  have t0 : w1.cell? ⟨w.heap.size + 1 + 1, 0, none⟩ = some (.int .i64 1) := b4.out.cell 0
  have t1 : w1.cell? ⟨w.heap.size + 1 + 1, 1, none⟩ = some (.int .i64 1) := b4.out.cell 1
  have t2 : w1.cell? ⟨w.heap.size + 1 + 1, 2, none⟩ = some (.int .i64 1) := b4.out.cell 2
  have t3 : w1.cell? ⟨w.heap.size + 1 + 1, 3, none⟩ = some (.slice (some ⟨w.heap.size, 0, none⟩) 1 1) := b4.out.cell 3
  have t4 : w1.cell? ⟨w.heap.size + 1 + 1, 4, none⟩ = some (.slice (some ⟨w.heap.size + 1, 0, none⟩) 1 1) := b4.out.cell 4
  have t5 : w1.cell? ⟨w.heap.size + 1 + 1, 5, none⟩ = some (.slice none 0 0) := b4.out.cell 5
  go_wp2_with (fail)
  have y := Ext.alloc (Ext.rf w1) (.cells #[.int .i64 1] 3)
  refine (C1.out _ _ _ (R.out.ext y) (.blk (.new rfl) rfl)).mono ?_
  rintro e w2 ⟨rfl, x2⟩
  have Y2 := Lib.hid (y.tr x2)
  have B2 := Lib.hid (b4.out.ext Y2.out)
  clear x2 y t0 t1 t2 t3 t4 t5
  have t0 : w2.cell? ⟨w.heap.size + 1 + 1, 0, none⟩ = some (.int .i64 1) := B2.out.cell 0
  have t1 : w2.cell? ⟨w.heap.size + 1 + 1, 1, none⟩ = some (.int .i64 1) := B2.out.cell 1
  have t2 : w2.cell? ⟨w.heap.size + 1 + 1, 2, none⟩ = some (.int .i64 1) := B2.out.cell 2
  have t3 : w2.cell? ⟨w.heap.size + 1 + 1, 3, none⟩ = some (.slice (some ⟨w.heap.size, 0, none⟩) 1 1) := B2.out.cell 3
  have t4 : w2.cell? ⟨w.heap.size + 1 + 1, 4, none⟩ = some (.slice (some ⟨w.heap.size + 1, 0, none⟩) 1 1) := B2.out.cell 4
  have t5 : w2.cell? ⟨w.heap.size + 1 + 1, 5, none⟩ = some (.slice none 0 0) := B2.out.cell 5
  go_wp2_with (fail)
  have y := Ext.alloc (Ext.rf w2) (.cells #[.int .i64 0] 3)
  refine (C2.out _ _ _ (R.out.ext (Y2.out.tr y)) (.blk (.new rfl) rfl)).mono ?_
  rintro e w3 ⟨rfl, x3⟩
  have Y3 := Lib.hid (Y2.out.tr (y.tr x3))
  clear x3 y t0 t1 t2 t3 t4 t5
  go_wp2_with (fail)
  go_ret
  exact ⟨rfl, X1.out.tr (Y3.out.tr (by (repeat (first | assumption | exact Ext.rf _ | apply Ext.drew | apply Ext.drewN | apply Ext.alloc))))⟩
end Go.Proofs.Ytpapkofildcdiaa
namespace Go.Proofs.Ytpapkofildcdiaa
open Go.RowKit Go.ChangeShapes Go.WideShapes Go.ChangeAt Go.Deep

theorem strB_key (l : List Int) (x y : Nat) : strB (ltK l) x y = (decide (l.getD x 0 < l.getD y 0) || (decide (l.getD x 0 = l.getD y 0) && decide (x < y))) := by
  unfold strB ltK
  rw [Bool.eq_iff_iff]
  simp only [Bool.or_eq_true, Bool.and_eq_true, Bool.not_eq_true', decide_eq_true_eq, decide_eq_false_iff_not]
  omega
/-- how many stand ahead of x, of the first j -/
def ahK (l : List Int) (j x : Nat) : Nat := aheadL (ltK l) (List.range j) x
theorem ahK_succ (l : List Int) (j x : Nat) : ahK l (j + 1) x = ahK l j x + if (decide (l.getD j 0 < l.getD x 0) || (decide (l.getD j 0 = l.getD x 0) && decide (j < x))) = true then 1 else 0 := by
  unfold ahK
  rw [List.range_succ, aheadL_snoc, strB_key]
def plK (l : List Int) (k : Nat) : List Int := placeK (ahK l l.length) (List.range l.length) k
theorem plK_succ (l : List Int) (k : Nat) (h : k < l.length) : plK l (k + 1) = (plK l k).set (ahK l l.length k) (k : Int) := by
  have e : (List.range l.length).getD k 0 = k := by simp [List.getD, h]
  show (placeK (ahK l l.length) (List.range l.length) k).set (ahK l l.length ((List.range l.length).getD k 0)) (((List.range l.length).getD k 0 : Nat) : Int) = _
  rw [e]
  rfl
theorem plK_len (l : List Int) (k : Nat) : (plK l k).length = l.length := by unfold plK; rw [placeK_len, List.length_range]
theorem plK_full (l : List Int) : plK l l.length = intsN (byKey l) := by
  have h := place_sort (ltK_weak l) (List.pairwise_lt_range (n := l.length))
  rw [List.length_range] at h
  exact h
theorem ahK_lt (l : List Int) {k : Nat} (h : k < l.length) : ahK l l.length k < l.length := by
  have W := ltK_weak l
  have hs := List.pairwise_lt_range (n := l.length)
  obtain ⟨k', hk', e'⟩ := List.mem_iff_getElem.1 ((sortP_is W hs).mem.2 (List.mem_range.2 h))
  unfold ahK
  rw [aheadL_at W hs (by rw [List.getElem?_eq_getElem hk', e'])]
  rwa [sortP_len, List.length_range] at hk'
theorem ahK_le (l : List Int) (j x : Nat) : ahK l j x ≤ j := by
  have := aheadL_le (ltK l) (List.range j) x
  rwa [List.length_range] at this
/-- a list of the call's own is told -/
def OwnL (l : List Int) (w : World) (e : Ending) (w' : World) : Prop := ∃ (A : Option Addr) (c : Nat), e = .returned (.slice A l.length c) ∧ OwI w' w.heap.size A c l ∧ Ext w w'
set_option maxRecDepth 100000 in
set_option maxHeartbeats 4000000 in
theorem byKey_any (A1 : Option Addr) (c1 : Nat) (l : List Int) (w : World) (hA : RdI w A1 l) (hl : l.length ≤ 1000) :
    Calls Try.prog 42 #[.slice A1 l.length c1] w (OwnL (intsN (byKey l)) w) := by
  unfold OwnL
  rw [intsN_len, byKey_len]
  have PS := Lib.hid (fun k => plK_succ l k)
  have PL := Lib.hid (fun k => plK_len l k)
  have PF := Lib.hid (plK_full l)
  have AS := Lib.hid (fun j x => ahK_succ l j x)
  have AL := Lib.hid (fun k => ahK_lt l (k := k))
  have AE := Lib.hid (fun j x => ahK_le l j x)
  have P0 : Hid (plK l 0 = List.replicate l.length 0) := by
    have h : plK l 0 = List.replicate l.length 0 := by
      show List.replicate (List.range l.length).length (0 : Int) = _
      rw [List.length_range]
    exact h
  replace hA := Lib.hid hA
  go_enter Try.func42, Try.ntmps42
  go_wp2_with (at_make; refine wpl_make_i _ rfl _ _ rfl w.heap.size _ _ l.length rfl rfl rfl rfl (by omega) (Nat.le_refl _) ?_; rintro w3 o3 g3)
  have x3 : Ext w w3 := (Ext.rf _).grownNone g3
  rw [← P0.out] at o3
  have S3 : Hid (OwI w3 w.heap.size (some ⟨w.heap.size, 0, none⟩) l.length (plK l 0) ∧ Ext w w3) := ⟨o3, x3⟩
  clear o3 g3 x3
  go_wp2_with (fail)
  go_loopw [4] (fun v wr => ∃ k : Nat, v = .int .i64 k ∧ k ≤ l.length ∧ Hid (OwI wr w.heap.size (some ⟨w.heap.size, 0, none⟩) l.length (plK l k) ∧ Ext w wr)) (fun v _ => l.length - (intOf v).toNat)
  case atStart => exact ⟨0, rfl, by omega, S3⟩
  case round =>
    obtain ⟨wo, rfl⟩ : ∃ wo : World, wo = wr := ⟨_, rfl⟩
    obtain ⟨k, rfl, hk, HS⟩ := hrel
    clear S3
    by_cases hlt : k < l.length
    · have q2 : (k : Int) < (l.length : Int) := by omega
      have HPK := Lib.hid (PS.out k hlt)
      have hal := AL.out k hlt
      obtain ⟨O, Y⟩ := HS.out
      clear HS
      replace O := Lib.hid O
      replace Y := Lib.hid Y
      have A0 : Hid (ahK l 0 k = 0) := rfl
      go_wp2_with (fail)
      go_loopw [6, 5] (fun v nv wr => ∃ j ah : Nat, v = .int .i64 j ∧ nv = .int .i64 ah ∧ j ≤ l.length ∧ Hid (ahK l j k = ah) ∧ Hid (Ext wo wr)) (fun v _ _ => l.length - (intOf v).toNat)
      case atStart => exact ⟨0, 0, rfl, rfl, by omega, A0, Ext.rf _⟩
      case round =>
        obtain ⟨wi, rfl⟩ : ∃ wi : World, wi = wr := ⟨_, rfl⟩
        clear A0
        obtain ⟨j, ah, rfl, rfl, hj, HA, YI⟩ := hrel
        have hale := AE.out j k
        rw [HA.out] at hale
        have rl : RdI wi A1 l := (hA.out.ext Y.out).ext YI.out
        obtain ⟨lb, lo, yk, rfl, _, ck, exk, _⟩ := rl.at (k := k) hlt
        by_cases hjl : j < l.length
        · have q3 : (j : Int) < (l.length : Int) := by omega
          obtain ⟨lb2, lo2, yj, hq, _, cj, exj, _⟩ := rl.at (k := j) hjl
          obtain ⟨rfl, rfl⟩ : lb = lb2 ∧ lo = lo2 := by simpa using hq
          have HA2 : Hid (ahK l (j + 1) k = ah + if (decide (yj < yk) || (decide (yj = yk) && decide (j < k))) = true then 1 else 0) := by
            have h := AS.out j k
            rw [HA.out, getD_some exk.out, getD_some exj.out] at h
            exact h
          clear HA exk exj hq rl
          by_cases t1 : yj < yk
          · have d1 : decide (yj < yk) = true := decide_eq_true t1
            have HA3 : Hid (ahK l (j + 1) k = ah + 1) := by
              have h := HA2.out
              rw [d1, Bool.true_or, if_pos rfl] at h
              exact h
            clear HA2
            go_wp2_with (fail)
            go_quiet (fail)
            go_wp2_with (fail)
            go_roundw
            case rel => exact ⟨j + 1, ah + 1, by go_num, by go_num, by omega, HA3, YI.out.drewN _⟩
            case measure => simp [intOf]; omega
          · have d1 : decide (yj < yk) = false := decide_eq_false t1
            by_cases t2 : yj = yk
            · have d2 : (yj == yk) = true := by rw [beq_iff_eq]; exact t2
              have d2' : decide (yj = yk) = true := decide_eq_true t2
              replace t2 := Lib.hid t2
              by_cases t3 : j < k
              · have d3 : decide (j < k) = true := decide_eq_true t3
                have HA3 : Hid (ahK l (j + 1) k = ah + 1) := by
                  have h := HA2.out
                  rw [d1, d2', d3] at h
                  exact h
                clear HA2 d2'
                go_wp2_with (fail)
                go_quiet (fail)
                go_wp2_with (fail)
                go_roundw
                case rel => exact ⟨j + 1, ah + 1, by go_num, by go_num, by omega, HA3, YI.out.drewN _⟩
                case measure => simp [intOf]; omega
              · have d3 : decide (j < k) = false := decide_eq_false t3
                have HA3 : Hid (ahK l (j + 1) k = ah) := by
                  have h := HA2.out
                  rw [d1, d2', d3] at h
                  exact h
                clear HA2 d2'
                go_wp2_with (fail)
                go_quiet (fail)
                go_wp2_with (fail)
                go_roundw
                case rel => exact ⟨j + 1, ah, by go_num, rfl, by omega, HA3, YI.out.drewN _⟩
                case measure => simp [intOf]; omega
            · have d2 : (yj == yk) = false := by rw [beq_eq_false_iff_ne]; exact t2
              have d2' : decide (yj = yk) = false := decide_eq_false t2
              have HA3 : Hid (ahK l (j + 1) k = ah) := by
                have h := HA2.out
                rw [d1, d2'] at h
                exact h
              clear HA2 d2'
              go_wp2_with (fail)
              go_quiet (fail)
              go_wp2_with (fail)
              go_roundw
              case rel => exact ⟨j + 1, ah, by go_num, rfl, by omega, HA3, YI.out.drewN _⟩
              case measure => simp [intOf]; omega
        · obtain rfl : j = l.length := by omega
          have q3 : ¬ (l.length : Int) < (l.length : Int) := by omega
          rw [HA.out] at hal HPK
          obtain ⟨v9, c9, f9, _, _, s9⟩ := OwI.cell (OwI.ext O.out YI.out) (k := ah) (by rw [PL.out]; exact hal)
          have q4 : (ah : Int) < (l.length : Int) := by omega
          have NX : Hid (∀ W2, Ext wi W2 → OwI (W2.setCell ⟨w.heap.size, ah, none⟩ (.int .i64 k)) w.heap.size (some ⟨w.heap.size, 0, none⟩) l.length (plK l (k + 1)) ∧ Ext w (W2.setCell ⟨w.heap.size, ah, none⟩ (.int .i64 k))) := by
            intro W2 x2
            rw [HPK.out]
            obtain ⟨_, _, _, _, _, s8⟩ := OwI.cell (OwI.ext (OwI.ext O.out YI.out) x2) (k := ah) (by rw [PL.out]; exact hal)
            exact ⟨s8.out _, ((Y.out.tr YI.out).tr x2).setNew (p := ⟨w.heap.size, ah, none⟩) (Nat.le_refl _) _⟩
          clear s9 HPK rl HA exk
          go_wp2_with (first | go_quiet (fail) | go_region)
          go_roundw
          case rel => exact ⟨k + 1, by go_num, by omega, NX.out _ (by (repeat (first | assumption | exact Ext.rf _ | apply Ext.drew | apply Ext.drewN | apply Ext.alloc)))⟩
          case measure => simp [intOf]; omega
    · obtain rfl : k = l.length := by omega
      have q2 : ¬ (l.length : Int) < (l.length : Int) := by omega
      obtain ⟨O, Y⟩ := HS.out
      rw [PF.out] at O
      replace O := Lib.hid O
      replace Y := Lib.hid Y
      clear HS
      go_wp2_with (fail)
      go_ret
      exact ⟨_, _, rfl, O.out, Y.out⟩
end Go.Proofs.Ytpapkofildcdiaa
namespace Go.Proofs.Ytpapkofildcdiaa
open Go.RowKit Go.ChangeShapes Go.WideShapes Go.ChangeAt Go.Deep

set_option maxRecDepth 100000 in
set_option maxHeartbeats 4000000 in
theorem rkids_any (i : InstP) (us : List Value) (P : Option Addr) (c : Nat) (p : List Int) (w : World) (H : RInst w us i) (ok : KnapOk i) (hP : RdI w P p) (lp : p.length ≤ 1000000000) :
    Calls Try.prog 55 #[.agg (List.toArray us), .slice P p.length c] w (KidsPost (kidsP i.cap (wsP i) (vsP i) p).1 (kidsP i.cap (wsP i) (vsP i) p).2 w) := by
  have K := kok ok
  have lN := orderP_len ok
  have ST := fun (W : World) (x : Ext w W) => rstate_any i us P c p W (H.ext x) ok (hP.ext x) lp
  have LM : ∀ k q, (orderP i)[k]? = some q → q < i.weight.length := fun k q h => by
    have h1 := ratioP_lt h
    have := ok.w
    have := ok.v
    omega
  have EW : ∀ k q x, (orderP i)[k]? = some q → i.weight[q]? = some x → (wsP i)[k]? = some x := fun k q x h1 h2 => inOrder_get h1 h2
  have K2 := K.l64
  have K3 := K.lw
  generalize orderP i = l at *
  generalize wsP i = ws at *
  generalize vsP i = vs at *
  clear K ok
  obtain ⟨kind, nn, cap, xw, xv, co⟩ := i
  obtain ⟨A, a, B, b, D, d, rfl, ⟨rA, iA, lA, mA⟩, -, -⟩ := H
  simp only at *
  obtain ⟨n, rfl⟩ : ∃ n : Nat, nn = (n : Int) := ⟨nn.toNat, by omega⟩
  have hn : l.length = n := by omega
  clear lN
  have hn2 : n ≤ 64 := by omega
  replace ST := Lib.hid ST
  replace LM := Lib.hid LM
  replace EW := Lib.hid EW
  replace K3 := Lib.hid K3
  replace rA := Lib.hid rA
  replace iA := Lib.hid iA
  replace mA := Lib.hid mA
  replace hn := Lib.hid hn
  have B1 : Hid (Blk (w.alloc (.cells #[.int .i64 kind, .int .i64 n, .int .i64 cap, .slice A xw.length a, .slice B xv.length b, .slice D co.length d] 25)) w.heap.size 25 #[.int .i64 kind, .int .i64 n, .int .i64 cap, .slice A xw.length a, .slice B xv.length b, .slice D co.length d]) := .new rfl
  obtain ⟨ks, hks⟩ : ∃ ks, Hid (kidsP cap ws vs p = ks) := ⟨_, rfl⟩
  rw [hks.out]
  have HK : ∀ o, stP cap 0 ws vs p = o → ks = (match o with
    | none => ([], 1)
    | some (room, _) => match ws.drop p.length with
      | [] => ([], 0)
      | u :: _ => if u ≤ room then ([1, 0], 0) else ([0], 0)) := fun o ho => by subst ho; exact hks.out.symm
  have HL : Hid (∀ q, stP cap 0 ws vs p = some q → p.length ≤ n) := fun q hq => by
    by_cases h : ws.length < p.length
    · rw [stP_long h] at hq; cases hq
    · have h3 := K3.out; have h4 := hn.out; omega
  replace HK := Lib.hid HK
  obtain ⟨st, hst⟩ : ∃ st, Hid (stP cap 0 ws vs p = st) := ⟨_, rfl⟩
  rw [hst.out] at ST
  have HK2 := HK.out _ hst.out
  clear HK hks
  rcases st with _ | ⟨room, out⟩
  · simp only at HK2
    subst HK2
    go_enter Try.func55, Try.ntmps55
    go_wp2_with (fail)
    refine (ST.out _ (by (repeat (first | assumption | exact Ext.rf _ | apply Ext.drew | apply Ext.drewN | apply Ext.alloc)))).mono ?_
    rintro e w1 ⟨x1, rfl⟩
    have X1 := Ext.tr (a := w) (by (repeat (first | assumption | exact Ext.rf _ | apply Ext.drew | apply Ext.drewN | apply Ext.alloc))) x1
    go_wp2
    go_ret2
    exact ⟨none, 0, rfl, .inl rfl, by simp, by omega, X1⟩
  · have hle := HL.out _ hst.out
    simp only at HK2
    by_cases hpl : p.length = n
    · have hd : ws.drop p.length = [] := List.drop_of_length_le (by have h3 := K3.out; have h4 := hn.out; omega)
      rw [hd] at HK2
      simp only at HK2
      subst HK2
      have hpl' : ((p.length : Int) == (n : Int)) = true := by rw [beq_iff_eq]; omega
      clear hd hpl
      go_enter Try.func55, Try.ntmps55
      go_wp2_with (fail)
      refine (ST.out _ (by (repeat (first | assumption | exact Ext.rf _ | apply Ext.drew | apply Ext.drewN | apply Ext.alloc)))).mono ?_
      rintro e w1 ⟨x1, LA, lc, rfl, rL⟩
      have X1 := Ext.tr (a := w) (by (repeat (first | assumption | exact Ext.rf _ | apply Ext.drew | apply Ext.drewN | apply Ext.alloc))) x1
      have d1 : w1.cell? ⟨w.heap.size, 1, none⟩ = some (.int .i64 n) := (B1.out.ext x1).cell 1
      go_wp2
      go_ret2
      exact ⟨none, 0, rfl, .inl rfl, by simp, by omega, X1⟩
    · have hpn : p.length < n := by omega
      have hpl' : ((p.length : Int) == (n : Int)) = false := by rw [beq_eq_false_iff_ne]; omega
      have hkl : p.length < l.length := by rw [hn.out]; exact hpn
      obtain ⟨q, hq0⟩ : ∃ q, Hid (l[p.length]? = some q) := ⟨l[p.length], List.getElem?_eq_getElem hkl⟩
      have hqw := LM.out _ q hq0.out
      obtain ⟨wb, wo, u, rfl, zu, cu, eu, _⟩ := rA.out.at hqw
      have du : ws.drop p.length = u :: ws.drop (p.length + 1) := by
        obtain ⟨h1, h2⟩ := List.getElem?_eq_some_iff.1 (EW.out _ q u hq0.out eu.out)
        rw [List.drop_eq_getElem_cons h1, h2]
      rw [du] at HK2
      simp only at HK2
      have qi1 : (q : Int) < (xw.length : Int) := by omega
      have qi3 : (p.length : Int) < (l.length : Int) := by omega
      clear du hpl eu
      have step : ∀ (W : World), W.cell? ⟨w.heap.size, 1, none⟩ = some (.int .i64 n) → True := fun _ _ => trivial
      clear step
      by_cases hu : u ≤ room
      · rw [if_pos hu] at HK2
        subst HK2
        go_enter Try.func55, Try.ntmps55
        go_wp2_with (fail)
        refine (ST.out _ (by (repeat (first | assumption | exact Ext.rf _ | apply Ext.drew | apply Ext.drewN | apply Ext.alloc)))).mono ?_
        rintro e w1 ⟨x1, LA, lc, rfl, rL⟩
        have X1 := Ext.tr (a := w) (by (repeat (first | assumption | exact Ext.rf _ | apply Ext.drew | apply Ext.drewN | apply Ext.alloc))) x1
        have d1 : w1.cell? ⟨w.heap.size, 1, none⟩ = some (.int .i64 n) := (B1.out.ext x1).cell 1
        have d3 : w1.cell? ⟨w.heap.size, 3, none⟩ = some (.slice (some ⟨wb, wo, none⟩) xw.length a) := (B1.out.ext x1).cell 3
        obtain ⟨qb, qo, qi, rfl, zq, cq, eq, _⟩ := rL.at (k := p.length) (by rw [nl_len]; exact hkl)
        obtain rfl : qi = (q : Int) := by
          have h1 := nl_get hq0.out
          rw [eq.out] at h1
          exact Option.some.inj h1
        have ku := keepEL X1 zu cu
        clear eq rL
        go_wp2_with (go_quiet (fail))
        all_goals go_ret2
        all_goals exact ⟨some ⟨w1.heap.size, 0, none⟩, 2, rfl, .blk (by (first | exact .new (by simp) | exact .drew (.new (by simp)) | exact .alloc (.new (by simp)) _ | exact .drew (.alloc (.new (by simp)) _) | exact .alloc (.alloc (.new (by simp)) _) _ | exact .drew (.alloc (.alloc (.new (by simp)) _) _) | (repeat (first | assumption | (refine Blk.new ?_; (focus (simp; done))) | apply Blk.drew | apply Blk.drewN | apply Blk.alloc)))) rfl, by simp, by omega, by (repeat (first | assumption | exact Ext.rf _ | apply Ext.drew | apply Ext.drewN | apply Ext.alloc))⟩
      · rw [if_neg hu] at HK2
        subst HK2
        go_enter Try.func55, Try.ntmps55
        go_wp2_with (fail)
        refine (ST.out _ (by (repeat (first | assumption | exact Ext.rf _ | apply Ext.drew | apply Ext.drewN | apply Ext.alloc)))).mono ?_
        rintro e w1 ⟨x1, LA, lc, rfl, rL⟩
        have X1 := Ext.tr (a := w) (by (repeat (first | assumption | exact Ext.rf _ | apply Ext.drew | apply Ext.drewN | apply Ext.alloc))) x1
        have d1 : w1.cell? ⟨w.heap.size, 1, none⟩ = some (.int .i64 n) := (B1.out.ext x1).cell 1
        have d3 : w1.cell? ⟨w.heap.size, 3, none⟩ = some (.slice (some ⟨wb, wo, none⟩) xw.length a) := (B1.out.ext x1).cell 3
        obtain ⟨qb, qo, qi, rfl, zq, cq, eq, _⟩ := rL.at (k := p.length) (by rw [nl_len]; exact hkl)
        obtain rfl : qi = (q : Int) := by
          have h1 := nl_get hq0.out
          rw [eq.out] at h1
          exact Option.some.inj h1
        have ku := keepEL X1 zu cu
        clear eq rL
        go_wp2_with (go_quiet (fail))
        all_goals go_ret2
        all_goals exact ⟨some ⟨w1.heap.size, 0, none⟩, 1, rfl, .blk (by (first | exact .new (by simp) | exact .drew (.new (by simp)) | exact .alloc (.new (by simp)) _ | exact .drew (.alloc (.new (by simp)) _) | exact .alloc (.alloc (.new (by simp)) _) _ | exact .drew (.alloc (.alloc (.new (by simp)) _) _) | (repeat (first | assumption | (refine Blk.new ?_; (focus (simp; done))) | apply Blk.drew | apply Blk.drewN | apply Blk.alloc)))) rfl, by simp, by omega, by (repeat (first | assumption | exact Ext.rf _ | apply Ext.drew | apply Ext.drewN | apply Ext.alloc))⟩
end Go.Proofs.Ytpapkofildcdiaa
namespace Go.Proofs.Ytpapkofildcdiaa
open Go.RowKit Go.ChangeShapes Go.WideShapes Go.ChangeAt Go.Deep

end Go.Proofs.Ytpapkofildcdiaa
namespace Go.Proofs.Ytpapkofildcdiaa
open Go.RowKit Go.ChangeShapes Go.WideShapes Go.ChangeAt Go.Deep

set_option maxRecDepth 100000 in
set_option maxHeartbeats 4000000 in
theorem rbound_any (i : InstP) (us : List Value) (P : Option Addr) (c : Nat) (p : List Int) (w : World) (H : RInst w us i) (ok : KnapOk i) (hP : RdI w P p) (lp : p.length ≤ 1000000000) :
    Calls Try.prog 38 #[.agg (List.toArray us), .slice P p.length c] w fun e w' => e = .returned (BoundVal (boundP i.cap (wsP i) (vsP i) p)) ∧ Ext w w' := by
  have K := kok ok
  have lN := orderP_len ok
  have ST := fun (W : World) (x : Ext w W) => rstate_any i us P c p W (H.ext x) ok (hP.ext x) lp
  have LM : ∀ k q, (orderP i)[k]? = some q → q < i.weight.length ∧ q < i.value.length := fun k q h => by
    have h1 := ratioP_lt h
    have := ok.w
    have := ok.v
    omega
  have EW : ∀ k q x, (orderP i)[k]? = some q → i.weight[q]? = some x → (wsP i)[k]? = some x := fun k q x h1 h2 => inOrder_get h1 h2
  have EV : ∀ k q x, (orderP i)[k]? = some q → i.value[q]? = some x → (vsP i)[k]? = some x := fun k q x h1 h2 => inOrder_get h1 h2
  have K1 := K.cap
  have K2 := K.l64
  have K3 := K.lw
  have K4 := K.lv
  have K5 := K.sw
  have K6 := K.sv
  generalize orderP i = l at *
  generalize wsP i = ws at *
  generalize vsP i = vs at *
  clear K ok
  obtain ⟨kind, nn, cap, xw, xv, co⟩ := i
  obtain ⟨A, a, B, b, D, d, rfl, ⟨rA, iA, lA, mA⟩, ⟨rB, iB, lB, mB⟩, -⟩ := H
  simp only at *
  obtain ⟨n, rfl⟩ : ∃ n : Nat, nn = (n : Int) := ⟨nn.toNat, by omega⟩
  have hn : l.length = n := by omega
  clear lN
  have hn2 : n ≤ 64 := by omega
  replace ST := Lib.hid ST
  replace LM := Lib.hid LM
  replace EW := Lib.hid EW
  replace EV := Lib.hid EV
  replace K3 := Lib.hid K3
  replace K4 := Lib.hid K4
  replace K5 := Lib.hid K5
  replace K6 := Lib.hid K6
  replace rA := Lib.hid rA
  replace rB := Lib.hid rB
  replace iA := Lib.hid iA
  replace iB := Lib.hid iB
  replace mA := Lib.hid mA
  replace mB := Lib.hid mB
  replace hn := Lib.hid hn
  have B1 : Hid (Blk (w.alloc (.cells #[.int .i64 kind, .int .i64 n, .int .i64 cap, .slice A xw.length a, .slice B xv.length b, .slice D co.length d] 25)) w.heap.size 25 #[.int .i64 kind, .int .i64 n, .int .i64 cap, .slice A xw.length a, .slice B xv.length b, .slice D co.length d]) := .new rfl
  obtain ⟨bd, hbd⟩ : ∃ bd, Hid (boundP cap ws vs p = bd) := ⟨_, rfl⟩
  rw [hbd.out]
  have HK : ∀ o, stP cap 0 ws vs p = o → bd = (match o with
    | none => (0, 1)
    | some (room, out) => (out + sumL (vs.drop p.length) - bringsP room (ws.drop p.length) (vs.drop p.length), 0)) := fun o ho => by subst ho; exact hbd.out.symm
  have HL : Hid (∀ q, stP cap 0 ws vs p = some q → p.length ≤ n) := fun q hq => by
    by_cases h : ws.length < p.length
    · rw [stP_long h] at hq; cases hq
    · have h3 := K3.out; have h4 := hn.out; omega
  replace HK := Lib.hid HK
  obtain ⟨st, hst⟩ : ∃ st, Hid (stP cap 0 ws vs p = st) := ⟨_, rfl⟩
  rw [hst.out] at ST
  have HK2 := HK.out _ hst.out
  clear HK hbd
  rcases st with _ | ⟨room, out⟩
  · simp only at HK2
    subst HK2
    go_enter Try.func38, Try.ntmps38
    go_wp2_with (fail)
    refine (ST.out _ (by (repeat (first | assumption | exact Ext.rf _ | apply Ext.drew | apply Ext.drewN | apply Ext.alloc)))).mono ?_
    rintro e w1 ⟨x1, rfl⟩
    have X1 := Ext.tr (a := w) (by (repeat (first | assumption | exact Ext.rf _ | apply Ext.drew | apply Ext.drewN | apply Ext.alloc))) x1
    go_wp2
    go_ret2
    exact ⟨rfl, X1⟩
  · simp only at HK2
    have hle := HL.out _ hst.out
    have bR := stP_room (fun x hx => (K5.out x hx).1) K1.1 hst.out
    have bO := stP_out K6.out hst.out
    obtain ⟨T, hT⟩ : ∃ T, Hid (T = sumL (vs.drop p.length)) := ⟨_, rfl⟩
    obtain ⟨G, hG⟩ : ∃ G, Hid (G = bringsP room (ws.drop p.length) (vs.drop p.length)) := ⟨_, rfl⟩
    rw [← hT.out, ← hG.out] at HK2
    subst HK2
    have bT := sumL_bd K6.out p.length
    have b0 : 0 ≤ G := by
      rw [hG.out]
      exact bringsP_nonneg bR.1 (fun x hx => (K5.out x (List.mem_of_mem_drop hx)).1) (fun x hx => (K6.out x (List.mem_of_mem_drop hx)).1)
    have b9 : G ≤ T := by
      rw [hG.out, hT.out]
      exact bringsP_le bR.1 (fun x hx => (K5.out x (List.mem_of_mem_drop hx)).1) (fun x hx => (K6.out x (List.mem_of_mem_drop hx)).1)
    have bT2 : T ≤ 137438953408 := by
      have h3 := K4.out
      have h4 := hn.out
      rw [← hT.out] at bT
      have := bT.2
      omega
    clear bT
    obtain ⟨bR1, bR2⟩ := bR
    obtain ⟨bO1, bO2⟩ := bO
    obtain ⟨kc1, kc2⟩ := K1
    go_enter Try.func38, Try.ntmps38
    go_wp2_with (fail)
    refine (ST.out _ (by (repeat (first | assumption | exact Ext.rf _ | apply Ext.drew | apply Ext.drewN | apply Ext.alloc)))).mono ?_
    rintro e w1 ⟨x1, LA, lc, rfl, rL⟩
    have X1 := Lib.hid (Ext.tr (a := w) (by (repeat (first | assumption | exact Ext.rf _ | apply Ext.drew | apply Ext.drewN | apply Ext.alloc))) x1)
    have BB := Lib.hid (B1.out.ext x1)
    have d1 : w1.cell? ⟨w.heap.size, 1, none⟩ = some (.int .i64 n) := BB.out.cell 1
    have d3 : w1.cell? ⟨w.heap.size, 3, none⟩ = some (.slice A xw.length a) := BB.out.cell 3
    have d4 : w1.cell? ⟨w.heap.size, 4, none⟩ = some (.slice B xv.length b) := BB.out.cell 4
    have zb := BB.out.lt
    replace rL := Lib.hid rL
    clear x1
    go_wp2_with (fail)
    go_loopw [7, 10, 11, 12, 13] (fun r t u m i wr => ∃ (k : Nat) (rm rest up : Int) (more : Bool), i = .int .i64 k ∧ r = .int .i64 rm ∧ t = .int .i64 rest ∧ u = .int .i64 up ∧ m = .bool more ∧ k ≤ n ∧ 0 ≤ rm ∧ rm ≤ 2147483647 ∧ 0 ≤ rest ∧ rest ≤ 2147483647 * (k : Int) ∧ 0 ≤ up ∧ up ≤ rest ∧
        Hid (T = rest + sumL (vs.drop k)) ∧ Hid (if more = true then G = up + bringsP rm (ws.drop k) (vs.drop k) else G = up) ∧ Ext w1 wr) (fun _ _ _ _ i _ => n - (intOf i).toNat)
    case atStart => exact ⟨p.length, room, 0, 0, true, rfl, rfl, rfl, rfl, rfl, hle, bR1, by omega, by omega, by omega, by omega, by omega, by rw [Int.zero_add]; exact hT, by
      have h : G = 0 + bringsP room (ws.drop p.length) (vs.drop p.length) := by rw [Int.zero_add]; exact hG.out
      exact h, Ext.rf _⟩
    case round =>
      obtain ⟨wo, rfl⟩ : ∃ wo : World, wo = wr := ⟨_, rfl⟩
      obtain ⟨k, rm, rest, up, more, rfl, rfl, rfl, rfl, rfl, hk, q1, q2, q3, q4, q5, q6, HT, HG, Y⟩ := hrel
      have e1 := keepEL Y zb d1
      by_cases hlt : k < n
      · have hkl : k < l.length := by rw [hn.out]; exact hlt
        obtain ⟨q, hq0⟩ : ∃ q, Hid (l[k]? = some q) := ⟨l[k], List.getElem?_eq_getElem hkl⟩
        obtain ⟨qb, qo, qi, rfl, zq, cq, eq, _⟩ := (rL.out.ext Y).at (k := k) (by rw [nl_len]; exact hkl)
        obtain rfl : qi = (q : Int) := by
          have h1 := nl_get hq0.out
          rw [eq.out] at h1
          exact Option.some.inj h1
        obtain ⟨hqw, hqv⟩ := LM.out k q hq0.out
        obtain ⟨wb, wo', u, rfl, zu, cu, eu, _⟩ := (rA.out.ext (X1.out.tr Y)).at hqw
        obtain ⟨vb, vo', v, rfl, zv, cv, ev, _⟩ := (rB.out.ext (X1.out.tr Y)).at hqv
        have du : Hid (ws.drop k = u :: ws.drop (k + 1)) := by
          obtain ⟨h1, h2⟩ := List.getElem?_eq_some_iff.1 (EW.out k q u hq0.out eu.out)
          exact (by rw [List.drop_eq_getElem_cons h1, h2] : ws.drop k = u :: ws.drop (k + 1))
        have dv : Hid (vs.drop k = v :: vs.drop (k + 1)) := by
          obtain ⟨h1, h2⟩ := List.getElem?_eq_some_iff.1 (EV.out k q v hq0.out ev.out)
          exact (by rw [List.drop_eq_getElem_cons h1, h2] : vs.drop k = v :: vs.drop (k + 1))
        have bu := K5.out.get (EW.out k q u hq0.out eu.out)
        have bv := K6.out.get (EV.out k q v hq0.out ev.out)
        have e3 := keepEL Y zb d3
        have e4 := keepEL Y zb d4
        have qi1 : (q : Int) < (xw.length : Int) := by omega
        have qi2 : (q : Int) < (xv.length : Int) := by omega
        have qi3 : (k : Int) < (l.length : Int) := by omega
        have HT2 : Hid (T = (rest + v) + sumL (vs.drop (k + 1))) := by
          have h := HT.out
          rw [dv.out] at h
          simp only [sumL] at h
          have h2 : T = (rest + v) + sumL (vs.drop (k + 1)) := by omega
          exact h2
        clear HT eu ev eq
        cases more with
        | false =>
          have hG2 : (if (false : Bool) = true then G = up + bringsP rm (ws.drop (k + 1)) (vs.drop (k + 1)) else G = up) := by
            have h := HG.out
            rw [if_neg (by decide)] at h ⊢
            exact h
          have HG2 := Lib.hid hG2
          clear hG2 HG du dv
          go_wp2_with (go_quiet (fail))
          go_roundw
          case rel => exact ⟨k + 1, rm, rest + v, up, false, by go_num, rfl, rfl, rfl, rfl, by omega, by omega, by omega, by omega, by omega, by omega, by omega, HT2, HG2, by repeat (first | exact Y | apply Ext.drewN)⟩
          case measure => simp [intOf]; omega
        | true =>
          have hG1 : G = up + bringsP rm (u :: ws.drop (k + 1)) (v :: vs.drop (k + 1)) := by
            have h := HG.out
            rw [if_pos rfl, du.out, dv.out] at h
            exact h
          replace hG1 := Lib.hid hG1
          clear HG du dv
          by_cases hle2 : u ≤ rm
          · have hG2 : (if (true : Bool) = true then G = (up + v) + bringsP (rm - u) (ws.drop (k + 1)) (vs.drop (k + 1)) else G = up + v) := by
              have h := hG1.out
              rw [bringsP, if_neg (by omega), ← Int.add_assoc] at h
              rw [if_pos rfl]
              exact h
            have HG2 := Lib.hid hG2
            clear hG2
            go_wp2_with (go_quiet (fail))
            go_roundw
            case rel => exact ⟨k + 1, rm - u, rest + v, up + v, true, by go_num, rfl, rfl, rfl, rfl, by omega, by omega, by omega, by omega, by omega, by omega, by omega, HT2, HG2, by repeat (first | exact Y | apply Ext.drewN)⟩
            case measure => simp [intOf]; omega
          · have hm := mul_bd bv.1 bv.2 q1 q2
            have hpos : 0 < u := by omega
            have hqv2 : v * rm / u ≤ v := by
              have h1 : v * rm ≤ v * u := Int.mul_le_mul_of_nonneg_left (by omega) bv.1
              have h2 : v * rm / u ≤ v * u / u := Int.ediv_le_ediv hpos h1
              rwa [Int.mul_ediv_cancel _ (by omega)] at h2
            have hq0' : 0 ≤ v * rm / u := Int.ediv_nonneg hm.1 (by omega)
            have hG2 : (if (false : Bool) = true then G = (up + v * rm / u) + bringsP rm (ws.drop (k + 1)) (vs.drop (k + 1)) else G = up + v * rm / u) := by
              have h := hG1.out
              rw [bringsP, if_pos (by omega)] at h
              rw [if_neg (by decide)]
              exact h
            have HG2 := Lib.hid hG2
            clear hG2
            obtain ⟨z, hz⟩ : ∃ z, Hid (z = v * rm / u) := ⟨_, rfl⟩
            rw [← hz.out] at hqv2 hq0' HG2
            have w1' : wrap64 (v * rm) = v * rm := IntWalk.wrap64_in _ ⟨by omega, by omega⟩
            have w2' : (v * rm).tdiv u = z := by rw [Int.tdiv_eq_ediv_of_nonneg hm.1, hz.out]
            have w3' : v * rm / u = z := hz.out.symm
            clear hm
            go_wp2_with (go_quiet (fail))
            go_roundw
            case rel => exact ⟨k + 1, rm, rest + v, up + z, false, by go_num, rfl, rfl, rfl, rfl, by omega, by omega, by omega, by omega, by omega, by omega, by omega, HT2, HG2, by repeat (first | exact Y | apply Ext.drewN)⟩
            case measure => simp [intOf]; omega
      · obtain rfl : k = n := by omega
        have HT2 : Hid (rest = T) := by
          have h := HT.out
          rw [List.drop_of_length_le (l := vs) (i := k) (by have h3 := K4.out; have h4 := hn.out; omega)] at h
          simp only [sumL] at h
          have h2 : rest = T := by omega
          exact h2
        have HG2 : Hid (up = G) := by
          have h := HG.out
          rw [List.drop_of_length_le (l := ws) (i := k) (by have h3 := K3.out; have h4 := hn.out; omega)] at h
          have h0 : bringsP rm [] (vs.drop k) = 0 := by cases vs.drop k <;> rfl
          rw [h0, Int.add_zero] at h
          have h2 : up = G := by
            cases more with
            | true => rw [if_pos rfl] at h; exact h.symm
            | false => rw [if_neg (by decide)] at h; exact h.symm
          exact h2
        obtain rfl := HT2.out
        obtain rfl := HG2.out
        clear HT HG hT hG HT2 HG2
        go_wp2_with (fail)
        go_ret2
        exact ⟨rfl, X1.out.tr Y⟩
end Go.Proofs.Ytpapkofildcdiaa
namespace Go.Proofs.Ytpapkofildcdiaa
open Go.RowKit Go.ChangeShapes Go.WideShapes Go.ChangeAt Go.Deep

/-- numbers that may follow are told -/
def Kids14 (l : List Int) (w : World) (e : Ending) (w' : World) : Prop := ∃ (A : Option Addr) (c : Nat) (er : Int), e = .returned (.tuple #[.slice A l.length c, .int .i64 er]) ∧ RdI w' A l ∧ Ext w w'
def Bound14 (b : Int) (w : World) (e : Ending) (w' : World) : Prop := ∃ er : Int, e = .returned (.tuple #[.int .i64 b, .int .i64 er]) ∧ Ext w w'
set_option maxRecDepth 100000 in
theorem rdepth14_any (i : InstP) (us : List Value) (w : World) (H : RInst w us i) (hc : checkP i = 0) :
    Calls Try.prog 23 #[.agg (List.toArray us)] w fun e w' => e = .returned (.int .i64 (depthI i)) ∧ Ext w w' := by
  have hn : 1 ≤ i.n ∧ i.n ≤ 64 := by
    rcases check_kind hc with h | h | h
    · have ok := knap_ok hc h; exact ⟨ok.n1, ok.n2⟩
    · have sq := square_ok hc (by omega); exact ⟨sq.n1, by have := sq.n2; omega⟩
    · have sq := square_ok hc (by omega); exact ⟨sq.n1, by have := sq.n2; omega⟩
  have hd : Hid ((depthI i : Int) = if i.kind = 3 then i.n - 1 else i.n) := by
    have h : (depthI i : Int) = if i.kind = 3 then i.n - 1 else i.n := by
      unfold depthI
      split <;> omega
    exact h
  obtain ⟨D, hD⟩ : ∃ D : Int, Hid ((depthI i : Int) = D) := ⟨_, rfl⟩
  rw [hD.out] at hd ⊢
  clear hc hD
  obtain ⟨kind, nn, cap, xw, xv, co⟩ := i
  obtain ⟨A, a, B, b, Dd, d, rfl, -, -, -⟩ := H
  simp only at *
  by_cases hk : kind = 3
  · subst hk
    have E : Hid (nn - 1 = D) := by
      have h := hd.out
      rw [if_pos rfl] at h
      exact h.symm
    clear hd
    go_enter Try.func23, Try.ntmps23
    go_wp2_with (fail)
    go_ret
    exact ⟨ret_i E.out, by (repeat (first | assumption | exact Ext.rf _ | apply Ext.drew | apply Ext.drewN | apply Ext.alloc))⟩
  · have hk1 : (kind == 3) = false := by simpa using hk
    have E : Hid (nn = D) := by
      have h := hd.out
      rw [if_neg hk] at h
      exact h.symm
    clear hd
    go_enter Try.func23, Try.ntmps23
    go_wp2_with (fail)
    go_ret
    exact ⟨ret_i E.out, by (repeat (first | assumption | exact Ext.rf _ | apply Ext.drew | apply Ext.drewN | apply Ext.alloc))⟩
set_option maxRecDepth 100000 in
theorem rkids14_1 (i : InstP) (us : List Value) (P : Option Addr) (c : Nat) (p : List Int) (w : World) (H : RInst w us i) (hc : checkP i = 0) (hk : i.kind = 1) (hP : RdI w P p) (lp : p.length ≤ 1000000000) :
    Calls Try.prog 41 #[.agg (List.toArray us), .slice P p.length c] w (Kids14 (kidsR i p) w) := by
  have e : kidsR i p = (kidsP i.cap (wsP i) (vsP i) p).1 := by unfold kidsR; rw [if_pos hk]
  have KI : Hid (∀ W, Ext w W → Calls Try.prog 55 #[.agg (List.toArray us), .slice P p.length c] W (Kids14 (kidsR i p) W)) := fun W x => by
    refine (rkids_any i us P c p W (H.ext x) (knap_ok hc hk) (hP.ext x) lp).mono ?_
    intro e1 w1 h
    unfold KidsPost at h
    obtain ⟨A1, c1, rfl, r1, -, -, x1⟩ := h
    exact ⟨A1, c1, _, by rw [e], by rw [e]; exact r1, x1⟩
  unfold Kids14 at KI ⊢
  clear e hc
  generalize kidsR i p = l at *
  obtain ⟨kind, nn, cap, xw, xv, co⟩ := i
  obtain ⟨A, a, B, b, D, d, rfl, -, -, -⟩ := H
  simp only at *
  subst hk
  go_enter Try.func41, Try.ntmps41
  go_wp2_with (fail)
  refine (KI.out _ (by (repeat (first | assumption | exact Ext.rf _ | apply Ext.drew | apply Ext.drewN | apply Ext.alloc)))).mono ?_
  rintro e w1 ⟨A1, c1, er, rfl, r1, x1⟩
  have X1 := Lib.hid (Ext.tr (a := w) (by (repeat (first | assumption | exact Ext.rf _ | apply Ext.drew | apply Ext.drewN | apply Ext.alloc))) x1)
  replace r1 := Lib.hid r1
  clear x1 KI
  go_wp2_with (fail)
  go_ret2
  exact ⟨A1, c1, er, rfl, r1.out.ext (by (repeat (first | assumption | exact Ext.rf _ | apply Ext.drew | apply Ext.drewN | apply Ext.alloc))), X1.out.tr (by (repeat (first | assumption | exact Ext.rf _ | apply Ext.drew | apply Ext.drewN | apply Ext.alloc)))⟩
set_option maxRecDepth 100000 in
theorem rkids14_2 (i : InstP) (us : List Value) (P : Option Addr) (c : Nat) (p : List Int) (w : World) (H : RInst w us i) (hc : checkP i = 0) (hk : i.kind = 2) (hP : RdI w P p) (lp : p.length ≤ 1000000000) :
    Calls Try.prog 41 #[.agg (List.toArray us), .slice P p.length c] w (Kids14 (kidsR i p) w) := by
  have e : kidsR i p = (kidsA i.cost p).1 := by unfold kidsR; rw [if_neg (by omega), if_pos hk]
  have KI : Hid (∀ W, Ext w W → Calls Try.prog 56 #[.agg (List.toArray us), .slice P p.length c] W (Kids14 (kidsR i p) W)) := fun W x => by
    refine (rkids12_any i us P c p W (H.ext x) (square_ok hc (by omega)) (hP.ext x) lp).mono ?_
    intro e1 w1 h
    unfold OwnPost at h
    obtain ⟨A1, c1, rfl, r1, x1⟩ := h; replace r1 := r1.read
    exact ⟨A1, c1, _, by rw [e], by rw [e]; exact r1, x1⟩
  unfold Kids14 at KI ⊢
  clear e hc
  generalize kidsR i p = l at *
  obtain ⟨kind, nn, cap, xw, xv, co⟩ := i
  obtain ⟨A, a, B, b, D, d, rfl, -, -, -⟩ := H
  simp only at *
  subst hk
  go_enter Try.func41, Try.ntmps41
  go_wp2_with (fail)
  refine (KI.out _ (by (repeat (first | assumption | exact Ext.rf _ | apply Ext.drew | apply Ext.drewN | apply Ext.alloc)))).mono ?_
  rintro e w1 ⟨A1, c1, er, rfl, r1, x1⟩
  have X1 := Lib.hid (Ext.tr (a := w) (by (repeat (first | assumption | exact Ext.rf _ | apply Ext.drew | apply Ext.drewN | apply Ext.alloc))) x1)
  replace r1 := Lib.hid r1
  clear x1 KI
  go_wp2_with (fail)
  go_ret2
  exact ⟨A1, c1, er, rfl, r1.out.ext (by (repeat (first | assumption | exact Ext.rf _ | apply Ext.drew | apply Ext.drewN | apply Ext.alloc))), X1.out.tr (by (repeat (first | assumption | exact Ext.rf _ | apply Ext.drew | apply Ext.drewN | apply Ext.alloc)))⟩
set_option maxRecDepth 100000 in
theorem rkids14_3 (i : InstP) (us : List Value) (P : Option Addr) (c : Nat) (p : List Int) (w : World) (H : RInst w us i) (hc : checkP i = 0) (hk : i.kind = 3) (hP : RdI w P p) (lp : p.length ≤ 1000000000) :
    Calls Try.prog 41 #[.agg (List.toArray us), .slice P p.length c] w (Kids14 (kidsR i p) w) := by
  have e : kidsR i p = (kidsT i.cost p).1 := by unfold kidsR; rw [if_neg (by omega), if_neg (by omega)]
  have KI : Hid (∀ W, Ext w W → Calls Try.prog 57 #[.agg (List.toArray us), .slice P p.length c] W (Kids14 (kidsR i p) W)) := fun W x => by
    refine (rkids13_any i us P c p W (H.ext x) (square_ok hc (by omega)) (hP.ext x) lp).mono ?_
    intro e1 w1 h
    unfold OwnPost at h
    obtain ⟨A1, c1, rfl, r1, x1⟩ := h; replace r1 := r1.read
    exact ⟨A1, c1, _, by rw [e], by rw [e]; exact r1, x1⟩
  unfold Kids14 at KI ⊢
  clear e hc
  generalize kidsR i p = l at *
  obtain ⟨kind, nn, cap, xw, xv, co⟩ := i
  obtain ⟨A, a, B, b, D, d, rfl, -, -, -⟩ := H
  simp only at *
  subst hk
  go_enter Try.func41, Try.ntmps41
  go_wp2_with (fail)
  refine (KI.out _ (by (repeat (first | assumption | exact Ext.rf _ | apply Ext.drew | apply Ext.drewN | apply Ext.alloc)))).mono ?_
  rintro e w1 ⟨A1, c1, er, rfl, r1, x1⟩
  have X1 := Lib.hid (Ext.tr (a := w) (by (repeat (first | assumption | exact Ext.rf _ | apply Ext.drew | apply Ext.drewN | apply Ext.alloc))) x1)
  replace r1 := Lib.hid r1
  clear x1 KI
  go_wp2_with (fail)
  go_ret2
  exact ⟨A1, c1, er, rfl, r1.out.ext (by (repeat (first | assumption | exact Ext.rf _ | apply Ext.drew | apply Ext.drewN | apply Ext.alloc))), X1.out.tr (by (repeat (first | assumption | exact Ext.rf _ | apply Ext.drew | apply Ext.drewN | apply Ext.alloc)))⟩
set_option maxRecDepth 100000 in
theorem rbound14_1 (i : InstP) (us : List Value) (P : Option Addr) (c : Nat) (p : List Int) (w : World) (H : RInst w us i) (hc : checkP i = 0) (hk : i.kind = 1) (hP : RdI w P p) (lp : p.length ≤ 1000000000) :
    Calls Try.prog 22 #[.agg (List.toArray us), .slice P p.length c] w (Bound14 (boundI i p) w) := by
  have e : boundI i p = (boundP i.cap (wsP i) (vsP i) p).1 := by unfold boundI; rw [if_pos hk]
  have KI : Hid (∀ W, Ext w W → Calls Try.prog 38 #[.agg (List.toArray us), .slice P p.length c] W (Bound14 (boundI i p) W)) := fun W x => by
    refine (rbound_any i us P c p W (H.ext x) (knap_ok hc hk) (hP.ext x) lp).mono ?_
    rintro e1 w1 ⟨rfl, x1⟩
    exact ⟨_, by rw [e]; rfl, x1⟩
  unfold Bound14 at KI ⊢
  clear e hc
  generalize boundI i p = l at *
  obtain ⟨kind, nn, cap, xw, xv, co⟩ := i
  obtain ⟨A, a, B, b, D, d, rfl, -, -, -⟩ := H
  simp only at *
  subst hk
  go_enter Try.func22, Try.ntmps22
  go_wp2_with (fail)
  refine (KI.out _ (by (repeat (first | assumption | exact Ext.rf _ | apply Ext.drew | apply Ext.drewN | apply Ext.alloc)))).mono ?_
  rintro e w1 ⟨er, rfl, x1⟩
  have X1 := Lib.hid (Ext.tr (a := w) (by (repeat (first | assumption | exact Ext.rf _ | apply Ext.drew | apply Ext.drewN | apply Ext.alloc))) x1)
  clear x1 KI
  go_wp2_with (fail)
  go_ret2
  exact ⟨er, rfl, X1.out.tr (by (repeat (first | assumption | exact Ext.rf _ | apply Ext.drew | apply Ext.drewN | apply Ext.alloc)))⟩
set_option maxRecDepth 100000 in
theorem rbound14_2 (i : InstP) (us : List Value) (P : Option Addr) (c : Nat) (p : List Int) (w : World) (H : RInst w us i) (hc : checkP i = 0) (hk : i.kind = 2) (hP : RdI w P p) (lp : p.length ≤ 1000000000) :
    Calls Try.prog 22 #[.agg (List.toArray us), .slice P p.length c] w (Bound14 (boundI i p) w) := by
  have e : boundI i p = (boundA i.cost p).1 := by unfold boundI; rw [if_neg (by omega), if_pos hk]
  have KI : Hid (∀ W, Ext w W → Calls Try.prog 39 #[.agg (List.toArray us), .slice P p.length c] W (Bound14 (boundI i p) W)) := fun W x => by
    refine (rbound12_any i us P c p W (H.ext x) (square_ok hc (by omega)) (hP.ext x) lp).mono ?_
    rintro e1 w1 ⟨rfl, x1⟩
    exact ⟨_, by rw [e], x1⟩
  unfold Bound14 at KI ⊢
  clear e hc
  generalize boundI i p = l at *
  obtain ⟨kind, nn, cap, xw, xv, co⟩ := i
  obtain ⟨A, a, B, b, D, d, rfl, -, -, -⟩ := H
  simp only at *
  subst hk
  go_enter Try.func22, Try.ntmps22
  go_wp2_with (fail)
  refine (KI.out _ (by (repeat (first | assumption | exact Ext.rf _ | apply Ext.drew | apply Ext.drewN | apply Ext.alloc)))).mono ?_
  rintro e w1 ⟨er, rfl, x1⟩
  have X1 := Lib.hid (Ext.tr (a := w) (by (repeat (first | assumption | exact Ext.rf _ | apply Ext.drew | apply Ext.drewN | apply Ext.alloc))) x1)
  clear x1 KI
  go_wp2_with (fail)
  go_ret2
  exact ⟨er, rfl, X1.out.tr (by (repeat (first | assumption | exact Ext.rf _ | apply Ext.drew | apply Ext.drewN | apply Ext.alloc)))⟩
set_option maxRecDepth 100000 in
theorem rbound14_3 (i : InstP) (us : List Value) (P : Option Addr) (c : Nat) (p : List Int) (w : World) (H : RInst w us i) (hc : checkP i = 0) (hk : i.kind = 3) (hP : RdI w P p) (lp : p.length ≤ 1000000000) :
    Calls Try.prog 22 #[.agg (List.toArray us), .slice P p.length c] w (Bound14 (boundI i p) w) := by
  have e : boundI i p = (boundT i.cost (mirP i.cost) p).1 := by unfold boundI; rw [if_neg (by omega), if_neg (by omega)]
  have KI : Hid (∀ W, Ext w W → Calls Try.prog 40 #[.agg (List.toArray us), .slice P p.length c] W (Bound14 (boundI i p) W)) := fun W x => by
    refine (rbound13_any i us P c p W (H.ext x) (square_ok hc (by omega)) (hP.ext x) lp).mono ?_
    rintro e1 w1 ⟨rfl, x1⟩
    exact ⟨_, by rw [e], x1⟩
  unfold Bound14 at KI ⊢
  clear e hc
  generalize boundI i p = l at *
  obtain ⟨kind, nn, cap, xw, xv, co⟩ := i
  obtain ⟨A, a, B, b, D, d, rfl, -, -, -⟩ := H
  simp only at *
  subst hk
  go_enter Try.func22, Try.ntmps22
  go_wp2_with (fail)
  refine (KI.out _ (by (repeat (first | assumption | exact Ext.rf _ | apply Ext.drew | apply Ext.drewN | apply Ext.alloc)))).mono ?_
  rintro e w1 ⟨er, rfl, x1⟩
  have X1 := Lib.hid (Ext.tr (a := w) (by (repeat (first | assumption | exact Ext.rf _ | apply Ext.drew | apply Ext.drewN | apply Ext.alloc))) x1)
  clear x1 KI
  go_wp2_with (fail)
  go_ret2
  exact ⟨er, rfl, X1.out.tr (by (repeat (first | assumption | exact Ext.rf _ | apply Ext.drew | apply Ext.drewN | apply Ext.alloc)))⟩
theorem rkids14_any (i : InstP) (us : List Value) (P : Option Addr) (c : Nat) (p : List Int) (w : World) (H : RInst w us i) (hc : checkP i = 0) (hP : RdI w P p) (lp : p.length ≤ 1000000000) :
    Calls Try.prog 41 #[.agg (List.toArray us), .slice P p.length c] w (Kids14 (kidsR i p) w) := by
  rcases check_kind hc with h | h | h
  · exact rkids14_1 i us P c p w H hc h hP lp
  · exact rkids14_2 i us P c p w H hc h hP lp
  · exact rkids14_3 i us P c p w H hc h hP lp
theorem rbound14_any (i : InstP) (us : List Value) (P : Option Addr) (c : Nat) (p : List Int) (w : World) (H : RInst w us i) (hc : checkP i = 0) (hP : RdI w P p) (lp : p.length ≤ 1000000000) :
    Calls Try.prog 22 #[.agg (List.toArray us), .slice P p.length c] w (Bound14 (boundI i p) w) := by
  rcases check_kind hc with h | h | h
  · exact rbound14_1 i us P c p w H hc h hP lp
  · exact rbound14_2 i us P c p w H hc h hP lp
  · exact rbound14_3 i us P c p w H hc h hP lp
set_option maxRecDepth 100000 in
set_option maxHeartbeats 2000000 in
theorem rkids31_any (i : InstP) (us : List Value) (Q : Option Addr) (qc : Nat) (q : List Int) (w0 : World) (H : RInst w0 us i) (hc : checkP i = 0) (hQ : RdI w0 Q q) (lq : q.length ≤ 1000000000) (hl0 : (kidsR i q).length ≤ 1000) :
    Calls Try.prog 24 #[.agg (List.toArray us), .slice Q q.length qc] w0 (OwnL (rising (kidsR i q)) w0) := by
  have KI := Lib.hid (fun (W : World) (x : Ext w0 W) => rkids14_any i us Q qc q W (H.ext x) hc (hQ.ext x) lq)
  obtain ⟨l, hl⟩ : ∃ l, Hid (kidsR i q = l) := ⟨_, rfl⟩
  rw [hl.out] at KI hl0 ⊢
  clear hl hc hQ
  have BK := fun (P : Option Addr) (pc : Nat) (W : World) (x : RdI W P l) => byKey_any P pc l W x hl0
  unfold OwnL at BK ⊢
  unfold Kids14 at KI
  simp only [intsN_len, byKey_len] at BK
  have bl1 := byKey_len l
  have BL : Hid (∀ k a, (byKey l)[k]? = some a → a < l.length) := fun k a h => byKey_lt h
  have RL := rising_len l
  have RE : rising l = (byKey l).map fun a => l.getD a 0 := rfl
  obtain ⟨R, hR⟩ : ∃ R, Hid (rising l = R) := ⟨_, rfl⟩
  rw [hR.out] at RE RL ⊢
  replace RE := Lib.hid RE
  rw [RL]
  replace BK := Lib.hid BK
  generalize byKey l = o at *
  replace RL := Lib.hid RL
  replace bl1 := Lib.hid bl1
  clear hR
  obtain ⟨A, a, B, b, D, d, rfl, -, -, -⟩ := H
  obtain ⟨kind, hkd⟩ : ∃ q, Hid (q = i.kind) := ⟨_, rfl⟩
  obtain ⟨nn, hnn⟩ : ∃ q, Hid (q = i.n) := ⟨_, rfl⟩
  obtain ⟨cap, hcap⟩ : ∃ q, Hid (q = i.cap) := ⟨_, rfl⟩
  obtain ⟨lxw, hxw⟩ : ∃ q, Hid (q = i.weight.length) := ⟨_, rfl⟩
  obtain ⟨lxv, hxv⟩ : ∃ q, Hid (q = i.value.length) := ⟨_, rfl⟩
  obtain ⟨lco, hco⟩ : ∃ q, Hid (q = i.cost.length) := ⟨_, rfl⟩
  rw [← hkd.out, ← hnn.out, ← hcap.out, ← hxw.out, ← hxv.out, ← hco.out] at KI ⊢
  clear hkd hnn hcap hxw hxv hco
  go_enter Try.func24, Try.ntmps24
  go_wp2_with (fail)
  refine (KI.out _ (by (repeat (first | assumption | exact Ext.rf _ | apply Ext.drew | apply Ext.drewN | apply Ext.alloc)))).mono ?_
  rintro e w ⟨P, pc, er, rfl, hP, xw⟩
  have XW := Lib.hid (Ext.tr (a := w0) (by (repeat (first | assumption | exact Ext.rf _ | apply Ext.drew | apply Ext.drewN | apply Ext.alloc))) xw)
  replace hP := Lib.hid hP
  clear xw KI
  go_wp2_with (fail)
  refine (BK.out P pc _ (hP.out.ext (by (repeat (first | assumption | exact Ext.rf _ | apply Ext.drew | apply Ext.drewN | apply Ext.alloc))))).mono ?_
  rintro e w1 ⟨A1, c1, rfl, o1, x1⟩
  have X1 := Lib.hid (Ext.tr (a := w) (by (repeat (first | assumption | exact Ext.rf _ | apply Ext.drew | apply Ext.drewN | apply Ext.alloc))) x1)
  have r1 := Lib.hid o1.read
  have z1 := (XW.out.tr X1.out).size
  clear x1 o1 BK
  have S0 : Hid (OwI (w1.alloc (.cells #[] 3)) w1.heap.size (some ⟨w1.heap.size, 0, none⟩) 0 []) := OwI.empty (.new rfl) (Nat.le_refl _)
  go_wp2_with (fail)
  go_loopw [8, 9] (fun v4 v wr => ∃ (k : Nat) (B : Option Addr) (bc : Nat) (xs : List Int), v = .int .i64 k ∧ v4 = .slice B xs.length bc ∧ k ≤ l.length ∧ Hid (xs = (o.take k).map fun a => l.getD a 0) ∧ Hid (OwI wr w1.heap.size B bc xs) ∧ Hid (Ext w1 wr)) (fun _ v _ => l.length - (intOf v).toNat)
  case atStart => exact ⟨0, _, 0, [], rfl, rfl, by omega, rfl, S0.out.ext (by (repeat (first | assumption | exact Ext.rf _ | apply Ext.drew | apply Ext.drewN | apply Ext.alloc))), by (repeat (first | assumption | exact Ext.rf _ | apply Ext.drew | apply Ext.drewN | apply Ext.alloc))⟩
  case round =>
    obtain ⟨wo, rfl⟩ : ∃ wo : World, wo = wr := ⟨_, rfl⟩
    clear S0
    obtain ⟨k, B, bc, xs, rfl, rfl, hk, hx, oB, Y⟩ := hrel
    have lk : xs.length ≤ l.length := by rw [hx.out, List.length_map, List.length_take, bl1.out]; omega
    by_cases hlt : k < l.length
    · obtain ⟨a, ha⟩ : ∃ a, Hid (o[k]? = some a) := ⟨o[k]'(by rw [bl1.out]; exact hlt), List.getElem?_eq_getElem _⟩
      have hal := BL.out k a ha.out
      obtain ⟨ob, oo, av, rfl, zo, co, eo, _⟩ := (r1.out.ext Y.out).at (k := k) (by rw [intsN_len, bl1.out]; exact hlt)
      obtain rfl : av = (a : Int) := by
        have h := eo.out
        rw [intsN_get ha.out] at h
        exact (Option.some.inj h).symm
      obtain ⟨lb, lo, x, rfl, zl, cl, el, _⟩ := ((hP.out.ext X1.out).ext Y.out).at (k := a) hal
      have q1 : (k : Int) < (l.length : Int) := by omega
      have q2 : (a : Int) < (l.length : Int) := by omega
      have NX : Hid (xs ++ [x] = (o.take (k + 1)).map fun a => l.getD a 0) := by
        have h : xs ++ [x] = (o.take (k + 1)).map fun a => l.getD a 0 := by
          rw [List.take_add_one, ha.out, List.map_append, hx.out]
          simp [List.getD, el.out]
        exact h
      clear eo el hx
      go_wp2_with (at_builtin; (refine wpl_app_i _ rfl _ _ rfl w1.heap.size B xs.length bc xs [x] (some ⟨wo.heap.size, 0, none⟩) 1 rfl rfl rfl ?_ ?_ ?_ ?_ ?_; (exact oB.out.ext ((Ext.rf _).alloc _)); (exact .blk (.new (by simp)) rfl); (simp; omega); (have := Y.out.size; simp; omega); rintro A7 c7 w7 o7 g7 _; have Y7 : Ext w1 w7 := Ext.grow (a := w1) (Y.out.alloc _) g7 (fun kk hkk => (oB.out.lt kk hkk).1)))
      have O7 : Hid (OwI w7 w1.heap.size A7 c7 (xs ++ [x])) := o7
      replace Y7 := Lib.hid Y7
      clear o7 g7
      go_wp2_with (fail)
      go_roundw
      case rel => exact ⟨k + 1, A7, c7, xs ++ [x], by go_num, by first | rfl | simp, by omega, NX, OwI.ext O7.out (by (repeat (first | assumption | exact Ext.rf _ | apply Ext.drew | apply Ext.drewN | apply Ext.alloc))), Ext.tr Y7.out (by (repeat (first | assumption | exact Ext.rf _ | apply Ext.drew | apply Ext.drewN | apply Ext.alloc)))⟩
      case measure => simp [intOf]; omega
    · obtain rfl : k = l.length := by omega
      have E : Hid (xs = R) := by
        have h := hx.out
        rw [← bl1.out, List.take_length, ← RE.out] at h
        exact h
      have E2 : Hid (OwI wo w0.heap.size B bc R) := by
        have h := oB.out
        rw [E.out] at h
        exact h.more z1
      have E3 : Hid (Value.slice B xs.length bc = .slice B l.length bc) := by
        have h : Value.slice B xs.length bc = .slice B l.length bc := by rw [E.out, RL.out]
        exact h
      rw [E3.out]
      go_wp2_with (fail)
      go_ret
      exact ⟨B, bc, rfl, E2.out.ext (by (repeat (first | assumption | exact Ext.rf _ | apply Ext.drew | apply Ext.drewN | apply Ext.alloc))), XW.out.tr ((X1.out.tr Y.out).tr (by (repeat (first | assumption | exact Ext.rf _ | apply Ext.drew | apply Ext.drewN | apply Ext.alloc))))⟩
end Go.Proofs.Ytpapkofildcdiaa
namespace Go.Proofs.Ytpapkofildcdiaa
open Go.RowKit Go.ChangeShapes Go.WideShapes Go.ChangeAt Go.Deep

section
variable {w w' : World} {B : Nat} {us : List Value} {W q : List (List Int)} {p : List Int} {A : Option Addr}
theorem RowsO.len (h : RowsO w B us W) : us.length = W.length := h.1
theorem RowsO.last (h : RowsO w B us (q ++ [p])) : ∃ A c, us[q.length]? = some (.slice A p.length c) ∧ OwI w B A c p := h.2 q.length p (by simp)
theorem RowsO.init (h : RowsO w B us (q ++ [p])) : RowsO w B (us.take q.length) q := by
  refine ⟨by have := h.1; simp at this; simp; omega, fun i r hi => ?_⟩
  have hlt := (List.getElem?_eq_some_iff.1 hi).1
  obtain ⟨A', c', h1, h2⟩ := h.2 i r (by rw [List.getElem?_append_left hlt]; exact hi)
  exact ⟨A', c', by rw [List.getElem?_take, if_pos hlt]; exact h1, h2⟩
end
end Go.Proofs.Ytpapkofildcdiaa
namespace Go.Proofs.Ytpapkofildcdiaa
open Go.RowKit Go.ChangeShapes Go.WideShapes Go.ChangeAt Go.Deep

set_option maxRecDepth 100000 in
theorem bsw0_run (u : World) : (Instr.buildSlice 22 0 #[]).run Try.prog u = .ok (.slice (some ⟨u.heap.size, 0, none⟩) 0 0) (u.alloc (.cells #[] 3)) := by go_simp
set_option maxRecDepth 100000 in
theorem bsw1_run (u : World) (x : Int) : (Instr.buildSlice 22 1 #[(0, .int .i64 x)]).run Try.prog u = .ok (.slice (some ⟨u.heap.size, 0, none⟩) 1 1) (u.alloc (.cells #[.int .i64 x] 3)) := by go_simp
set_option maxRecDepth 100000 in
theorem bswv_run (u : World) (A : Option Addr) (n c : Nat) : (Instr.buildSlice 23 1 #[(0, .slice A n c)]).run Try.prog u = .ok (.slice (some ⟨u.heap.size, 0, none⟩) 1 1) (u.alloc (.cells #[.slice A n c] 22)) := by go_simp
theorem lists_info : (Try.prog.info? 22).map (fun i => (i.zero, i.size, i.bytes)) = some (some (.slice none 0 0), 1, 24) := by kernel_rfl
/-- the beginnings that wait, in memory: the one that is next lies last -/
def WaitS (base : Nat) (w : World) (A : Option Addr) (n c : Nat) (S : List (List Int)) : Prop := ∃ us, OwV w base 22 1 A n c us ∧ RowsO w base us S.reverse
theorem WaitS.ext {base n c : Nat} {w w' : World} {A : Option Addr} {S : List (List Int)} (h : WaitS base w A n c S) (x : Ext w w') : WaitS base w' A n c S := by
  obtain ⟨us, h1, h2⟩ := h
  exact ⟨us, h1.ext x, h2.ext x⟩
theorem WaitS.len {base n c : Nat} {w : World} {A : Option Addr} {S : List (List Int)} (h : WaitS base w A n c S) : n = S.length ∧ n ≤ c := by
  obtain ⟨us, h1, h2⟩ := h
  have e := h1.len
  have e2 := h2.1
  rw [List.length_reverse] at e2
  exact ⟨by omega, h1.le.1⟩
theorem WaitS.first {base : Nat} {w : World} {g b : Nat} (hg : Blk w g 22 #[.slice (some ⟨b, 0, none⟩) 0 0]) (hb : Blk w b 3 #[]) (h1 : base ≤ g) (h2 : base ≤ b) : WaitS base w (some ⟨g, 0, none⟩) 1 1 [[]] :=
  ⟨_, OwV.full hg h1 rfl (by simp [maxLen]), (RowsO.nil w base).snoc (OwI.empty hb h2)⟩
/-- the one that is next, and the others -/
theorem WaitS.top {base n c : Nat} {w : World} {A : Option Addr} {S : List (List Int)} {p : List Int} (h : WaitS base w A n c (p :: S)) : ∃ (g : Nat) (PA : Option Addr) (pc : Nat) (us : List Value), n = S.length + 1 ∧ A = some ⟨g, 0, none⟩ ∧ w.cell? ⟨g, S.length, none⟩ = some (.slice PA p.length pc) ∧ OwI w base PA pc p ∧ RdC w A (us.take S.length) ∧ (us.take S.length).length = S.length ∧ RowsO w base (us.take S.length) S.reverse ∧ ∀ u ∈ us.take S.length, Value.oneCell' u = true := by
  obtain ⟨us, h1, h2⟩ := h
  have e := h1.len
  have e2 := h2.1
  rw [List.length_reverse] at e2
  simp only [List.length_cons] at e2
  rw [List.reverse_cons] at h2
  obtain ⟨PA, pc, k1, k2⟩ := h2.last
  have k3 := h2.init
  rw [List.length_reverse] at k1 k3
  rcases h1.cases with ⟨_, _, h0, _⟩ | ⟨g, cur, rfl, _⟩
  · omega
  · obtain ⟨b, off, v, hq, _, hc, hv⟩ := h1.read.at (j := S.length) (by omega)
    obtain ⟨rfl, rfl⟩ : g = b ∧ 0 = off := by simpa using hq
    have e4 := hv.out
    rw [k1] at e4
    obtain rfl := Option.some.inj e4
    refine ⟨g, PA, pc, us, by omega, rfl, by simpa using hc, k2, (h1.read.take S.length).rdC, by rw [List.length_take]; omega, k3, fun u hu => ?_⟩
    obtain ⟨z, hz⟩ := List.getElem?_of_mem hu
    have hz2 := (List.getElem?_eq_some_iff.1 hz).1
    rw [k3.1] at hz2
    obtain ⟨A9, c9, e9, _⟩ := k3.2 z _ (List.getElem?_eq_getElem hz2)
    rw [hz] at e9
    obtain rfl := Option.some.inj e9
    rfl
/-- what the document's Check answers -/
def checkD (i : InstP) (x : List Int) (v : Int) (tr : Wd) : Int := if (costG i x).2 ≠ 0 then (costG i x).2 else if ofG i (costG i x).1 ≠ v then 13 else stackC (depthI i) (kidsI i) (boundI i) (costG i x).1 tr [[]]
theorem cost_chk {i : InstP} {x : List Int} (h : (costG i x).2 = 0) : checkP i = 0 := by
  unfold costG at h
  by_cases hc : checkP i = 0
  · exact hc
  · rw [if_pos hc] at h
    exact absurd h hc
theorem cost_bd1 {i : InstP} {x : List Int} (h : (costG i x).2 = 0) (hk : i.kind = 1) : 0 ≤ (costG i x).1 ∧ (costG i x).1 ≤ (i.value.length : Int) * 2147483647 := by
  have hc := cost_chk h
  have ok := knap_ok hc hk
  have hl := leftL_in x i.value ok.sv
  unfold costG at h ⊢
  rw [if_neg (fun e => e hc), if_pos hk] at h ⊢
  split at h
  · rename_i h1
    rw [if_pos h1]
    unfold costP at h ⊢
    split at h
    · simp at h
    · rename_i h2
      rw [if_neg h2]
      exact hl
  · simp at h
/-- kids in order, of a beginning that has some -/
theorem rkidsI_any (i : InstP) (us : List Value) (P : Option Addr) (c : Nat) (p : List Int) (w : World) (H : RInst w us i) (hc : checkP i = 0) (hP : RdI w P p) (ho : okI i p) (hl : p.length < depthI i) (h64 : depthI i ≤ 64) :
    Calls Try.prog 24 #[.agg (List.toArray us), .slice P p.length c] w (OwnL (kidsI i p) w) := by
  have e := kids_rise hc ho hl
  have KL : (kidsI i p).length ≤ 64 := by
    have := kidsI_len hc p ho hl
    split at this <;> omega
  have h := rkids31_any i us P c p w H hc hP (by omega) (by rw [← rising_len, e]; omega)
  rw [e] at h
  exact h
theorem depth64 {i : InstP} (hc : checkP i = 0) : depthI i ≤ 64 := by
  unfold depthI
  rcases check_kind hc with h | h | h
  · have ok := knap_ok hc h
    have := ok.n2
    split <;> omega
  · have sq := square_ok hc (by omega)
    have := sq.n2
    split <;> omega
  · have sq := square_ok hc (by omega)
    have := sq.n2
    split <;> omega
set_option maxRecDepth 100000 in
set_option maxHeartbeats 8000000 in
theorem rcheck31_any (i : InstP) (us : List Value) (P : Option Addr) (c : Nat) (x : List Int) (v : Int) (tr : Wd) (w : World) (H : RInst w us i) (hP : RdI w P x) (lt : tr.length ≤ 1000) :
    Calls Try.prog 10 #[.agg (List.toArray us), .slice P x.length c, .int .i64 v, .string ⟨tr.toArray⟩] w fun e w' => e = .returned (.int .i64 (checkD i x v tr)) ∧ Ext w w' := by
  have CO := Lib.hid (fun (W : World) (y : Ext w W) => rcost_gen i us P c x W (H.ext y) (hP.ext y))
  have CK := Lib.hid (fun h : (costG i x).2 = 0 => cost_chk (x := x) h)
  have OF := Lib.hid (fun (h : (costG i x).2 = 0) (W : World) (y : Ext w W) => rof_any i us W (costG i x).1 (H.ext y) (cost_chk h) (fun hk => cost_bd1 h hk))
  have DE := Lib.hid (fun (hc : checkP i = 0) (W : World) (y : Ext w W) => rdepth14_any i us W (H.ext y) hc)
  have BO := Lib.hid (fun (hc : checkP i = 0) (W : World) (y : Ext w W) (Q : Option Addr) (qc : Nat) (q : List Int) (hq : RdI W Q q) (lq : q.length ≤ 1000000000) => rbound14_any i us Q qc q W (H.ext y) hc hq lq)
  have KI := Lib.hid (fun (hc : checkP i = 0) (W : World) (y : Ext w W) (Q : Option Addr) (qc : Nat) (q : List Int) (hq : RdI W Q q) (ho : okI i q) (hl : q.length < depthI i) => rkidsI_any i us Q qc q W (H.ext y) hc hq ho hl (depth64 hc))
  have KR := Lib.hid (fun hc : checkP i = 0 => krn_inst hc)
  have ON := Lib.hid (fun hc : checkP i = 0 => okI_nil hc)
  have D64 := Lib.hid (fun hc : checkP i = 0 => depth64 hc)
  have KN : Hid (∀ (hc : checkP i = 0) (q : List Int), okI i q → q.length < depthI i → (kidsI i q).length ≤ 64) := fun hc q ho hl => by
    have := kidsI_len hc q ho hl
    have h2 := depth64 hc
    split at this <;> omega
  have CD : Hid (checkD i x v tr = if (costG i x).2 ≠ 0 then (costG i x).2 else if ofG i (costG i x).1 ≠ v then 13 else stackC (depthI i) (kidsI i) (boundI i) (costG i x).1 tr [[]]) := rfl
  obtain ⟨RES, hR⟩ : ∃ RES, Hid (checkD i x v tr = RES) := ⟨_, rfl⟩
  rw [hR.out] at CD ⊢
  obtain ⟨cg, hcg⟩ : ∃ cg, Hid (costG i x = cg) := ⟨_, rfl⟩
  rw [hcg.out] at CD CO CK OF
  clear hR hcg hP
  obtain ⟨cc, ce⟩ := cg
  simp only at CD CO CK OF
  obtain ⟨vf, hvf⟩ : ∃ vf, Hid (ofG i cc = vf) := ⟨_, rfl⟩
  rw [hvf.out] at CD OF
  unfold Bound14 at BO
  unfold OwnL at KI
  obtain ⟨A, a, B, b, Dd, d, rfl, -, -, -⟩ := H
  obtain ⟨kind, hkd⟩ : ∃ q, Hid (q = i.kind) := ⟨_, rfl⟩
  obtain ⟨nn, hnn⟩ : ∃ q, Hid (q = i.n) := ⟨_, rfl⟩
  obtain ⟨cap, hcap⟩ : ∃ q, Hid (q = i.cap) := ⟨_, rfl⟩
  obtain ⟨lxw, hxw⟩ : ∃ q, Hid (q = i.weight.length) := ⟨_, rfl⟩
  obtain ⟨lxv, hxv⟩ : ∃ q, Hid (q = i.value.length) := ⟨_, rfl⟩
  obtain ⟨lco, hco⟩ : ∃ q, Hid (q = i.cost.length) := ⟨_, rfl⟩
  rw [← hkd.out, ← hnn.out, ← hcap.out, ← hxw.out, ← hxv.out, ← hco.out] at CO OF DE BO KI ⊢
  clear hkd hnn hcap hxw hxv hco hvf
  obtain ⟨i0, hi, hz0, hz1, hz2⟩ := info_parts lists_info
  replace hi := Lib.hid hi
  replace hz0 := Lib.hid hz0
  replace hz1 := Lib.hid hz1
  replace hz2 := Lib.hid hz2
  obtain ⟨wb, hwb⟩ : ∃ wb, Hid (wb = w.alloc (.cells #[.int .i64 kind, .int .i64 nn, .int .i64 cap, .slice A lxw a, .slice B lxv b, .slice Dd lco d] 25)) := ⟨_, rfl⟩
  have XB : Hid (Ext w wb) := by
    have h : Ext w wb := by rw [hwb.out]; exact (Ext.rf w).alloc _
    exact h
  have B1 : Hid (Blk wb w.heap.size 25 #[.int .i64 kind, .int .i64 nn, .int .i64 cap, .slice A lxw a, .slice B lxv b, .slice Dd lco d]) := by
    have h : Blk wb w.heap.size 25 #[.int .i64 kind, .int .i64 nn, .int .i64 cap, .slice A lxw a, .slice B lxv b, .slice Dd lco d] := by rw [hwb.out]; exact .new rfl
    exact h
  have TL : ∀ a, a < tr.length → tr.drop a = (tr[a]?).getD 0 :: tr.drop (a + 1) := fun a h => by rw [List.drop_eq_getElem_cons h, List.getElem?_eq_getElem h]; rfl
  replace TL := Lib.hid TL
  have slen : (⟨tr.toArray⟩ : ByteArray).size = tr.length := by simp [ByteArray.size]
  go_enter Try.func10, Try.ntmps10
  go_upto_region 1 with (fail)
  rw [← hwb.out]
  have d0 : wb.cell? ⟨w.heap.size, 0, none⟩ = some (.int .i64 kind) := B1.out.cell 0
  have d1 : wb.cell? ⟨w.heap.size, 1, none⟩ = some (.int .i64 nn) := B1.out.cell 1
  have d2 : wb.cell? ⟨w.heap.size, 2, none⟩ = some (.int .i64 cap) := B1.out.cell 2
  have d3 : wb.cell? ⟨w.heap.size, 3, none⟩ = some (.slice A lxw a) := B1.out.cell 3
  have d4 : wb.cell? ⟨w.heap.size, 4, none⟩ = some (.slice B lxv b) := B1.out.cell 4
  have d5 : wb.cell? ⟨w.heap.size, 5, none⟩ = some (.slice Dd lco d) := B1.out.cell 5
  go_wp2_with (fail)
  refine (CO.out _ (XB.out.tr (by (repeat (first | assumption | exact Ext.rf _ | apply Ext.drew | apply Ext.drewN | apply Ext.alloc))))).mono ?_
  rintro e w1 ⟨rfl, x1⟩
  have Y1 := Lib.hid (Ext.tr (a := wb) (by (repeat (first | assumption | exact Ext.rf _ | apply Ext.drew | apply Ext.drewN | apply Ext.alloc))) x1)
  have B11 := Lib.hid (B1.out.ext Y1.out)
  clear x1 d0 d1 d2 d3 d4 d5
  by_cases hce : ce = 0
  · subst hce
    have hc := CK.out rfl
    replace OF := Lib.hid (OF.out rfl)
    replace DE := Lib.hid (DE.out hc)
    replace BO := Lib.hid (BO.out hc)
    replace KI := Lib.hid (KI.out hc)
    replace KR := Lib.hid (KR.out hc)
    replace KN := Lib.hid (KN.out hc)
    have n64 := D64.out hc
    have okn := Lib.hid (ON.out hc)
    clear CK ON D64 hc CO
    have d0 : w1.cell? ⟨w.heap.size, 0, none⟩ = some (.int .i64 kind) := B11.out.cell 0
    have d1 : w1.cell? ⟨w.heap.size, 1, none⟩ = some (.int .i64 nn) := B11.out.cell 1
    have d2 : w1.cell? ⟨w.heap.size, 2, none⟩ = some (.int .i64 cap) := B11.out.cell 2
    have d3 : w1.cell? ⟨w.heap.size, 3, none⟩ = some (.slice A lxw a) := B11.out.cell 3
    have d4 : w1.cell? ⟨w.heap.size, 4, none⟩ = some (.slice B lxv b) := B11.out.cell 4
    have d5 : w1.cell? ⟨w.heap.size, 5, none⟩ = some (.slice Dd lco d) := B11.out.cell 5
    go_wp2_with (fail)
    refine (OF.out _ (XB.out.tr (Y1.out.tr (by (repeat (first | assumption | exact Ext.rf _ | apply Ext.drew | apply Ext.drewN | apply Ext.alloc)))))).mono ?_
    rintro e w2 ⟨rfl, x2⟩
    have Y2 := Lib.hid (Y1.out.tr (Ext.tr (by (repeat (first | assumption | exact Ext.rf _ | apply Ext.drew | apply Ext.drewN | apply Ext.alloc))) x2))
    clear x2 d0 d1 d2 d3 d4 d5 OF B11 Y1
    by_cases hv : vf = v
    · subst hv
      have C0 : Hid (stackC (depthI i) (kidsI i) (boundI i) cc (tr.drop 0) [[]] = RES) := by
        have h := CD.out
        rw [if_neg (by simp), if_neg (by simp)] at h
        exact h.symm
      clear CD
      have W0 : Hid (WaitS wb.heap.size ((w2.alloc (.cells #[] 3)).alloc (.cells #[.slice (some ⟨w2.heap.size, 0, none⟩) 0 0] 22)) (some ⟨w2.heap.size + 1, 0, none⟩) 1 1 [[]]) := WaitS.first (.new (by simp)) (.alloc (.new rfl) _) (by have := Y2.out.size; omega) Y2.out.size
      have O0 : Hid (∀ q ∈ ([[]] : List (List Int)), okI i q) := fun q hq => by rw [List.mem_singleton.1 hq]; exact okn.out
      have N0 : Hid (([[]] : List (List Int)) = [] → tr.drop 0 = []) := fun h => by cases h
      generalize depthI i = D at *
      generalize boundI i = bd at *
      generalize kidsI i = kd at *
      go_wp2_with (fail)
      go_loopw [8, 11, 12] (fun v8 v11 v12 wr => ∃ (a : Nat) (WA : Option Addr) (n wc : Nat) (S : List (List Int)), v12 = .int .i64 a ∧ v11 = .slice WA n wc ∧ v8 = .int .i64 0 ∧ a ≤ tr.length ∧ n ≤ 100 * a + 1 ∧ Hid (WaitS wb.heap.size wr WA n wc S) ∧ Hid (∀ q ∈ S, okI i q) ∧ Hid (stackC D kd bd cc (tr.drop a) S = RES) ∧ Hid (S = [] → tr.drop a = []) ∧ Hid (Ext wb wr)) (fun _ _ v12 _ => tr.length - (intOf v12).toNat)
      case atStart => exact ⟨0, _, 1, 1, [[]], rfl, rfl, rfl, by omega, by omega, W0.out.ext (by (repeat (first | assumption | exact Ext.rf _ | apply Ext.drew | apply Ext.drewN | apply Ext.alloc))), O0, C0, N0, Y2.out.tr (by (repeat (first | assumption | exact Ext.rf _ | apply Ext.drew | apply Ext.drewN | apply Ext.alloc)))⟩
      case round =>
        obtain ⟨wo, rfl⟩ : ∃ wo : World, wo = wr := ⟨_, rfl⟩
        clear W0 O0 C0 N0 Y2
        obtain ⟨at_, WA, n, wc, S, rfl, rfl, rfl, hat, hn9, WS, OS, CS, NS, YB⟩ := hrel
        cases S with
        | nil =>
          obtain rfl : n = 0 := (WS.out.len).1
          obtain rfl : RES = 0 := by
            have h := CS.out
            rw [NS.out rfl] at h
            exact h.symm
          go_wp2_with (fail)
          go_ret
          exact ⟨rfl, XB.out.tr (YB.out.tr (by (repeat (first | assumption | exact Ext.rf _ | apply Ext.drew | apply Ext.drewN | apply Ext.alloc))))⟩
        | cons p S' =>
          obtain ⟨gW, PA, pc, us, hnS, rfl, cW, oP, rU, lU, oU, kU⟩ := WS.out.top
          have WL := WS.out.len
          have zW := World.block_lt_of_cell? _ _ cW
          obtain ⟨k0, hk0⟩ : ∃ k0 : Nat, Hid (S'.length = k0) := ⟨_, rfl⟩
          rw [hk0.out] at cW rU lU oU kU hnS
          obtain rfl : n = k0 + 1 := hnS
          have hkc : k0 ≤ wc := by omega
          replace oP := Lib.hid oP
          replace rU := Lib.hid rU
          replace lU := Lib.hid lU
          replace oU := Lib.hid oU
          replace kU := Lib.hid kU
          have zo := YB.out.size
          have q1 : (0 : Int) < ((k0 + 1 : Nat) : Int) := by omega
          have q2 : ((k0 + 1 : Nat) : Int) - 1 = (k0 : Int) := by omega
          have q3 : (k0 : Int) < ((k0 + 1 : Nat) : Int) := by omega
          have q4 : (0 : Int) ≤ (k0 : Int) := by omega
          have q5 : (k0 : Int) ≤ (wc : Int) := by omega
          have k9 : (k0 : Int) ≤ 100000 := by omega
          clear WL
          have okp := OS.out p (by simp)
          have lpD := KR.out.len p okp
          have BB := Lib.hid (B1.out.ext YB.out)
          by_cases hal : at_ = tr.length
          · obtain rfl : RES = 6 := by
              have h := CS.out
              rw [hal, List.drop_length] at h
              exact h.symm
            have e1 : ((at_ : Int) == (tr.length : Int)) = true := by simp [hal]
            replace hal := Lib.hid hal
            clear CS NS
            go_wp2_with (fail)
            go_ret
            exact ⟨rfl, XB.out.tr (YB.out.tr (by (repeat (first | assumption | exact Ext.rf _ | apply Ext.drew | apply Ext.drewN | apply Ext.alloc))))⟩
          · have hal2 : at_ < tr.length := by omega
            have e1 : ((at_ : Int) == (tr.length : Int)) = false := by simp; omega
            have CT := CS.out
            rw [TL.out at_ hal2] at CT
            obtain ⟨ch, hch⟩ : ∃ ch, Hid ((tr[at_]?).getD 0 = ch) := ⟨_, rfl⟩
            rw [hch.out, stackC_cons] at CT
            replace CT := Lib.hid CT
            replace okp := Lib.hid okp
            replace hal := Lib.hid hal
            clear CS NS
            go_upto_region 14 with (at_builtin; refine wpl_app_v _ (e := 22) Try.underlying23 hi.out hz0.out hz1.out hz2.out (by simp [Value.cells]) (by omega) rfl _ _ rfl wb.heap.size (some ⟨wo.heap.size, 0, none⟩) 0 0 [] (some ⟨gW, 0, none⟩) k0 wc (us.take k0) rfl rfl (OwV.full (.new rfl) zo rfl (by simp [maxLen])) (rU.out.ext ((Ext.rf _).alloc _)) (by rw [lU.out]; simp) kU.out (by simp only [maxLen]; omega) (by omega) (by simp; omega) ?_; rintro WA2 wc2 w2 oW2 gW2 _)
            rw [Nat.zero_add] at oW2
            have Y2 : Ext wb w2 := Ext.grow (a := wb) (YB.out.alloc _) gW2 (fun z hz => by simp [bl] at hz; omega)
            have M2 : ModT wb.heap.size [22] (wo.alloc (.cells #[] 22)) w2 := (OwV.full (w := wo.alloc (.cells #[] 22)) (base := wb.heap.size) (n := 0) (size := 1) (e := 22) (g := wo.heap.size) (cs := #[]) (.new rfl) zo rfl (by simp [maxLen])).grownT gW2
            have WS2 : Hid (WaitS wb.heap.size w2 WA2 k0 wc2 S') := ⟨_, by simpa using oW2, ((oU.out.ext ((Ext.rf _).alloc _)).modT M2 (by decide))⟩
            have oP2 : Hid (OwI w2 wb.heap.size PA pc p) := (oP.out.ext ((Ext.rf _).alloc _)).modT M2 (by decide)
            replace Y2 := Lib.hid Y2
            clear oW2 gW2 M2 oU rU kU lU cW oP WS zW
            have BB2 := Lib.hid (B1.out.ext Y2.out)
            have d0 : w2.cell? ⟨w.heap.size, 0, none⟩ = some (.int .i64 kind) := BB2.out.cell 0
            have d1 : w2.cell? ⟨w.heap.size, 1, none⟩ = some (.int .i64 nn) := BB2.out.cell 1
            have d2 : w2.cell? ⟨w.heap.size, 2, none⟩ = some (.int .i64 cap) := BB2.out.cell 2
            have d3 : w2.cell? ⟨w.heap.size, 3, none⟩ = some (.slice A lxw a) := BB2.out.cell 3
            have d4 : w2.cell? ⟨w.heap.size, 4, none⟩ = some (.slice B lxv b) := BB2.out.cell 4
            have d5 : w2.cell? ⟨w.heap.size, 5, none⟩ = some (.slice Dd lco d) := BB2.out.cell 5
            go_wp2_with (fail)
            refine (BO.out _ (XB.out.tr (Y2.out.tr (by (repeat (first | assumption | exact Ext.rf _ | apply Ext.drew | apply Ext.drewN | apply Ext.alloc))))) PA pc p (oP2.out.read.ext (by (repeat (first | assumption | exact Ext.rf _ | apply Ext.drew | apply Ext.drewN | apply Ext.alloc)))) (by omega)).mono ?_
            rintro e w3 ⟨er, rfl, x3⟩
            have X3 := Lib.hid (Ext.tr (a := w2) (by (repeat (first | assumption | exact Ext.rf _ | apply Ext.drew | apply Ext.drewN | apply Ext.alloc))) x3)
            have Y3 := Lib.hid (Y2.out.tr X3.out)
            have WS3 := Lib.hid (WS2.out.ext X3.out)
            have oP3 := Lib.hid (oP2.out.ext X3.out)
            have BB3 := Lib.hid (B1.out.ext Y3.out)
            clear x3 X3 WS2 oP2 BB2 Y2 d0 d1 d2 d3 d4 d5
            have d0 : w3.cell? ⟨w.heap.size, 0, none⟩ = some (.int .i64 kind) := BB3.out.cell 0
            have d1 : w3.cell? ⟨w.heap.size, 1, none⟩ = some (.int .i64 nn) := BB3.out.cell 1
            have d2 : w3.cell? ⟨w.heap.size, 2, none⟩ = some (.int .i64 cap) := BB3.out.cell 2
            have d3 : w3.cell? ⟨w.heap.size, 3, none⟩ = some (.slice A lxw a) := BB3.out.cell 3
            have d4 : w3.cell? ⟨w.heap.size, 4, none⟩ = some (.slice B lxv b) := BB3.out.cell 4
            have d5 : w3.cell? ⟨w.heap.size, 5, none⟩ = some (.slice Dd lco d) := BB3.out.cell 5
            go_wp2_with (fail)
            refine (DE.out _ (XB.out.tr (Y3.out.tr (by (repeat (first | assumption | exact Ext.rf _ | apply Ext.drew | apply Ext.drewN | apply Ext.alloc)))))).mono ?_
            rintro e w4 ⟨rfl, x4⟩
            have X4 := Lib.hid (Ext.tr (a := w3) (by (repeat (first | assumption | exact Ext.rf _ | apply Ext.drew | apply Ext.drewN | apply Ext.alloc))) x4)
            have Y4 := Lib.hid (Y3.out.tr X4.out)
            have WS4 := Lib.hid (WS3.out.ext X4.out)
            have oP4 := Lib.hid (oP3.out.ext X4.out)
            have BB4 := Lib.hid (B1.out.ext Y4.out)
            clear x4 X4 WS3 oP3 BB3 Y3 d0 d1 d2 d3 d4 d5
            have hsz : at_ < (⟨tr.toArray⟩ : ByteArray).size := by rw [slen]; exact hal2
            have E0 : (⟨tr.toArray⟩ : ByteArray)[at_]'hsz = ch := by
              have h := hch.out
              rw [List.getElem?_eq_getElem hal2] at h
              exact h
            have i1 : (at_ : Int) < (tr.length : Int) := by omega
            by_cases h98 : ch = 98
            · subst h98
              by_cases hw : p.length = D
              · have e2 : ((p.length : Int) == (D : Int)) = true := by simp [hw]
                obtain rfl : RES = 8 := by
                  have h := CT.out
                  rw [if_pos rfl, if_pos hw] at h
                  exact h.symm
                go_wp2_with (fail)
                go_ret
                exact ⟨rfl, XB.out.tr (Y4.out.tr (by (repeat (first | assumption | exact Ext.rf _ | apply Ext.drew | apply Ext.drewN | apply Ext.alloc))))⟩
              · have e2 : ((p.length : Int) == (D : Int)) = false := by simp; omega
                have OS9 := OS
                have CT2 : Hid (stackC D kd bd cc (tr.drop (at_ + 1)) ((kd p).map (fun n => p ++ [n]) ++ S') = RES) := by
                  have h := CT.out
                  rw [if_pos rfl, if_neg hw] at h
                  exact h
                have hplt : p.length < D := by omega
                have KN1 := KN.out p okp.out hplt
                have KD : Hid (∀ n ∈ kd p, okI i (p ++ [n])) := fun n hn => KR.out.kid p okp.out hplt n hn
                have KI1 := Lib.hid (fun (W : World) (y : Ext w W) (Q : Option Addr) (qc : Nat) (hq : RdI W Q p) => KI.out W y Q qc p hq okp.out hplt)
                obtain ⟨l, hl⟩ : ∃ l, Hid (kd p = l) := ⟨_, rfl⟩
                rw [hl.out] at CT2 KN1 KD KI1
                replace hplt := Lib.hid hplt
                replace hw := Lib.hid hw
                clear CT hl
                have d0 : w4.cell? ⟨w.heap.size, 0, none⟩ = some (.int .i64 kind) := BB4.out.cell 0
                have d1 : w4.cell? ⟨w.heap.size, 1, none⟩ = some (.int .i64 nn) := BB4.out.cell 1
                have d2 : w4.cell? ⟨w.heap.size, 2, none⟩ = some (.int .i64 cap) := BB4.out.cell 2
                have d3 : w4.cell? ⟨w.heap.size, 3, none⟩ = some (.slice A lxw a) := BB4.out.cell 3
                have d4 : w4.cell? ⟨w.heap.size, 4, none⟩ = some (.slice B lxv b) := BB4.out.cell 4
                have d5 : w4.cell? ⟨w.heap.size, 5, none⟩ = some (.slice Dd lco d) := BB4.out.cell 5
                go_wp2_with (fail)
                refine (KI1.out _ (XB.out.tr (Y4.out.tr (by (repeat (first | assumption | exact Ext.rf _ | apply Ext.drew | apply Ext.drewN | apply Ext.alloc))))) PA pc (oP4.out.read.ext (by (repeat (first | assumption | exact Ext.rf _ | apply Ext.drew | apply Ext.drewN | apply Ext.alloc))))).mono ?_
                rintro e w5 ⟨LA, lc, rfl, oL, x5⟩
                have X5 := Lib.hid (Ext.tr (a := w4) (by (repeat (first | assumption | exact Ext.rf _ | apply Ext.drew | apply Ext.drewN | apply Ext.alloc))) x5)
                have z4 := Y4.out.size
                have Y5 := Lib.hid (Y4.out.tr X5.out)
                have WS5 : Hid (WaitS wb.heap.size w5 WA2 k0 wc2 ((l.drop l.length).map (fun x => p ++ [x]) ++ S')) := by
                  have h : WaitS wb.heap.size w5 WA2 k0 wc2 ((l.drop l.length).map (fun x => p ++ [x]) ++ S') := by
                    rw [List.drop_length]
                    exact WS4.out.ext X5.out
                  exact h
                have oP5 := Lib.hid (oP4.out.ext X5.out)
                have oL5 : Hid (OwI w5 wb.heap.size LA lc l) := oL.more (by first | exact z4 | (simp; exact z4))
                have J0 : Hid (((l.length : Int) - 1) = (l.length : Int) - 1) := rfl
                clear x5 X5 oL WS4 oP4 BB4 Y4 d0 d1 d2 d3 d4 d5 z4
                have ll64 : (l.length : Int) ≤ 64 := by omega
                go_wp2_with (fail)
                go_loopw [11, 18] (fun v11 v18 wr => ∃ (j : Int) (t : Nat) (WA' : Option Addr) (n' wc' : Nat), v18 = .int .i64 j ∧ v11 = .slice WA' n' wc' ∧ Hid (j = (t : Int) - 1) ∧ t ≤ l.length ∧ Hid (WaitS wb.heap.size wr WA' n' wc' ((l.drop t).map (fun x => p ++ [x]) ++ S')) ∧ Hid (OwI wr wb.heap.size PA pc p) ∧ Hid (OwI wr wb.heap.size LA lc l) ∧ Hid (Ext wb wr)) (fun _ v18 _ => (intOf v18 + 1).toNat)
                case atStart => exact ⟨(l.length : Int) - 1, l.length, WA2, k0, wc2, by go_num, rfl, rfl, by omega, WS5.out.ext (by (repeat (first | assumption | exact Ext.rf _ | apply Ext.drew | apply Ext.drewN | apply Ext.alloc))), oP5.out.ext (by (repeat (first | assumption | exact Ext.rf _ | apply Ext.drew | apply Ext.drewN | apply Ext.alloc))), oL5.out.ext (by (repeat (first | assumption | exact Ext.rf _ | apply Ext.drew | apply Ext.drewN | apply Ext.alloc))), Y5.out.tr (by (repeat (first | assumption | exact Ext.rf _ | apply Ext.drew | apply Ext.drewN | apply Ext.alloc)))⟩
                case round =>
                  obtain ⟨wi, rfl⟩ : ∃ wi : World, wi = wr := ⟨_, rfl⟩
                  clear WS5 oP5 oL5 J0 Y5
                  obtain ⟨j, t, WA', n', wc', rfl, rfl, hj, ht, WI, oP, oL, YB2⟩ := hrel
                  have LNI := (WI.out.len).1
                  rw [List.length_append, List.length_map, List.length_drop, hk0.out] at LNI
                  have hn9' : n' ≤ 100 * at_ + 65 := by omega
                  by_cases ht0 : t = 0
                  · subst ht0
                    obtain rfl : j = -1 := by have h := hj.out; simpa using h
                    have WI2 : Hid (WaitS wb.heap.size wi WA' n' wc' (l.map (fun x => p ++ [x]) ++ S')) := WI
                    have OS3 : Hid (∀ q ∈ l.map (fun n => p ++ [n]) ++ S', okI i q) := fun q hq => by
                      rcases List.mem_append.1 hq with h | h
                      · obtain ⟨n, hn, rfl⟩ := List.mem_map.1 h
                        exact KD.out n hn
                      · exact OS.out q (by simp [h])
                    have CT3 := CT2
                    obtain ⟨SS, hSS⟩ : ∃ SS, Hid (l.map (fun n => p ++ [n]) ++ S' = SS) := ⟨_, rfl⟩
                    rw [hSS.out] at WI2 OS3 CT3
                    clear WI CT2 hSS LNI
                    have LN := (WI2.out.len).1
                    cases SS with
                    | nil =>
                      obtain rfl : n' = 0 := LN
                      by_cases hr : at_ + 1 = tr.length
                      · have g1 : decide ((at_ : Int) < (tr.length : Int) - 1) = false := decide_eq_false (by omega)
                        replace hr := Lib.hid hr
                        go_wp2_with (fail)
                        go_roundw
                        case rel => exact ⟨at_ + 1, WA', 0, wc', [], by go_num, rfl, rfl, by omega, by omega, WI2.out.ext (by (repeat (first | assumption | exact Ext.rf _ | apply Ext.drew | apply Ext.drewN | apply Ext.alloc))), OS3, CT3, (fun _ => List.drop_of_length_le (by have := hr.out; omega)), YB2.out.tr (by (repeat (first | assumption | exact Ext.rf _ | apply Ext.drew | apply Ext.drewN | apply Ext.alloc)))⟩
                        case measure => simp [intOf]; omega
                      · have g1 : decide ((at_ : Int) < (tr.length : Int) - 1) = true := decide_eq_true (by omega)
                        obtain rfl : RES = 7 := by
                          have h := CT3.out
                          rw [TL.out (at_ + 1) (by omega)] at h
                          exact h.symm
                        go_wp2_with (fail)
                        go_ret
                        exact ⟨rfl, XB.out.tr (YB2.out.tr (by (repeat (first | assumption | exact Ext.rf _ | apply Ext.drew | apply Ext.drewN | apply Ext.alloc))))⟩
                    | cons p2 S2 =>
                      have hz : ((n' : Int) == 0) = false := by
                        have h : n' = S2.length + 1 := LN
                        simp; omega
                      have LN2 : n' ≤ 100 * (at_ + 1) + 1 := by omega
                      replace LN := Lib.hid LN
                      have NS2 : Hid (p2 :: S2 = [] → tr.drop (at_ + 1) = []) := fun h => by cases h
                      go_wp2_with (fail)
                      go_roundw
                      case rel => exact ⟨at_ + 1, WA', n', wc', p2 :: S2, by go_num, rfl, rfl, by omega, LN2, WI2.out.ext (by (repeat (first | assumption | exact Ext.rf _ | apply Ext.drew | apply Ext.drewN | apply Ext.alloc))), OS3, CT3, NS2, YB2.out.tr (by (repeat (first | assumption | exact Ext.rf _ | apply Ext.drew | apply Ext.drewN | apply Ext.alloc)))⟩
                      case measure => simp [intOf]; omega
                  · obtain ⟨t, rfl⟩ : ∃ s, t = s + 1 := ⟨t - 1, by omega⟩
                    obtain rfl : j = (t : Int) := by have h := hj.out; omega
                    have htl : t < l.length := by omega
                    obtain ⟨lb, lo, x, rfl, zl, cl, el, dl⟩ := oL.out.read.at (k := t) htl
                    have EQ : Hid ((p ++ [x]) :: ((l.drop (t + 1)).map (fun x => p ++ [x]) ++ S') = (l.drop t).map (fun x => p ++ [x]) ++ S') := by
                      have h : (p ++ [x]) :: ((l.drop (t + 1)).map (fun x => p ++ [x]) ++ S') = (l.drop t).map (fun x => p ++ [x]) ++ S' := by rw [dl.out]; rfl
                      exact h
                    have q1 : (t : Int) < (l.length : Int) := by omega
                    have q2 : (0 : Int) ≤ (t : Int) := by omega
                    have lp64 : p.length ≤ 64 := by omega
                    have YB := YB2
                    obtain ⟨SQ, hSQ⟩ : ∃ SQ, Hid ((l.drop (t + 1)).map (fun x => p ++ [x]) ++ S' = SQ) := ⟨_, rfl⟩
                    rw [hSQ.out] at WI EQ
                    clear el dl hSQ LNI hj ht0
                    obtain ⟨wus', RI, OI⟩ := WI.out
                    obtain ⟨r, hr⟩ : ∃ r, Hid (r = p ++ [x]) := ⟨p ++ [x], rfl⟩
                    have lr : r.length = p.length + 1 := by rw [hr.out]; simp
                    have zi := YB.out.size
                    replace RI := Lib.hid RI
                    replace OI := Lib.hid OI
                    go_upto_region 33 with (fail)
                    refine wp_region_any (by kernel_rfl) ?_
                    change wpAny _ _ _ _ _ _ _ (World.drew _)
                    refine wpAny_T (i := 0) (op := Op.move (Operand.tmp 11)) (t := 23) (d := some 96) (v := ?_) rfl (by decide +kernel) (by decide +kernel) (by decide +kernel) (fun _ _ _ h => h) ?_ ?_
                    case refine_2 => (intro _; unfold exec2; go_simp; try with_reducible rfl)
                    try simp only [Act.put, List.setIfInBounds_toArray, List.set_cons_zero, List.set_cons_succ]
                    refine wpAny_T (i := 2) (op := Op.move (Operand.tmp 13)) (t := 22) (d := some 98) (v := ?_) rfl (by decide +kernel) (by decide +kernel) (by decide +kernel) (fun _ _ _ h => h) ?_ ?_
                    case refine_2 => (intro _; unfold exec2; go_simp; try with_reducible rfl)
                    try simp only [Act.put, List.setIfInBounds_toArray, List.set_cons_zero, List.set_cons_succ]
                    refine wpAny_T (i := 4) (op := Op.move (Operand.tmp 17)) (t := 22) (d := some 100) (v := ?_) rfl (by decide +kernel) (by decide +kernel) (by decide +kernel) (fun _ _ _ h => h) ?_ ?_
                    case refine_2 => (intro _; unfold exec2; go_simp; try with_reducible rfl)
                    try simp only [Act.put, List.setIfInBounds_toArray, List.set_cons_zero, List.set_cons_succ]
                    refine wpAny_T (i := 5) (op := Op.move (Operand.tmp 18)) (t := 3) (d := some 101) (v := ?_) rfl (by decide +kernel) (by decide +kernel) (by decide +kernel) (fun _ _ _ h => h) ?_ ?_
                    case refine_2 => (intro _; unfold exec2; go_simp; try with_reducible rfl)
                    try simp only [Act.put, List.setIfInBounds_toArray, List.set_cons_zero, List.set_cons_succ]
                    refine wpAny_T (i := 6) (op := Op.indexAddr 22 (Operand.tmp 100) (Operand.tmp 101)) (t := 0) (d := some 102) (v := ?_) rfl (by decide +kernel) (by decide +kernel) (by decide +kernel) (fun _ _ _ h => h) ?_ ?_
                    case refine_2 => (intro _; unfold exec2; go_simp; try with_reducible rfl)
                    try simp only [Act.put, List.setIfInBounds_toArray, List.set_cons_zero, List.set_cons_succ]
                    refine wpAny_core3 (n := 2) [(1, some 97), (3, some 99), (7, some 103), (8, some 104), (9, some 105), (10, some 106)] (fun | 1 => [3] | 3 => [9] | 8 => [9] | 9 => [10] | _ => []) (Ext wi)
                      (VF (fun | 7 => some (.int .i64 x) | _ => none)
                        (fun j v W => (j = 1 → ∃ g, v = .slice (some ⟨g, 0, none⟩) 0 0 ∧ wi.heap.size ≤ g ∧ Blk W g 3 #[]) ∧ (j = 3 → ∃ A c, v = .slice A p.length c ∧ OwI W wi.heap.size A c p) ∧ (j = 8 → ∃ h, v = .slice (some ⟨h, 0, none⟩) 1 1 ∧ Blk W h 3 #[.int .i64 x]) ∧ (j = 9 → ∃ A c, v = .slice A r.length c ∧ OwI W wi.heap.size A c r) ∧ (j = 10 → ∃ h A c, v = .slice (some ⟨h, 0, none⟩) 1 1 ∧ Blk W h 22 #[.slice A r.length c] ∧ OwI W wi.heap.size A c r)))
                      (fun i W W' => if i = 9 then ModT wi.heap.size [3] W W' else Ext W W') #[true, true, true, true, true, true, true, true, true, true, true, false, false] (by kernel_rfl) (by kernel_rfl) ?_ ?_ ?_ ((Ext.rf _).drew)
                    · intro i j v W W' hkp hv hs
                      refine VF.stab1 (fun _ ⟨g1, g3, g8, g9, g10⟩ => ?_) hv
                      by_cases hi : i = 9
                      · subst hi
                        rw [if_pos rfl] at hs
                        refine ⟨fun h => ?_, fun h => ?_, fun h => ?_, fun h => ?_, fun h => ?_⟩
                        all_goals (subst h; exact absurd hkp (by decide +kernel))
                      · rw [if_neg hi] at hs
                        refine ⟨fun h => ?_, fun h => ?_, fun h => ?_, fun h => ?_, fun h => ?_⟩
                        · obtain ⟨g, q1, q2, q3⟩ := g1 h
                          exact ⟨g, q1, q2, q3.ext hs⟩
                        · obtain ⟨A', c', q1, q2⟩ := g3 h
                          exact ⟨A', c', q1, q2.ext hs⟩
                        · obtain ⟨h', q1, q2⟩ := g8 h
                          exact ⟨h', q1, q2.ext hs⟩
                        · obtain ⟨A', c', q1, q2⟩ := g9 h
                          exact ⟨A', c', q1, q2.ext hs⟩
                        · obtain ⟨h', A', c', q1, q2, q3⟩ := g10 h
                          exact ⟨h', A', c', q1, q2.ext hs, q3.ext hs⟩
                    · intro pq hpm u W hRW hD K hK
                      have z2 := hRW.size
                      simp only [List.mem_cons, List.not_mem_nil, or_false] at hpm
                      rcases hpm with rfl | rfl | rfl | rfl | rfl | rfl
                      · exact op_bs0 rfl _ (bsw0_run _) (hK _ _ (VF.mg rfl ⟨fun _ => ⟨_, rfl, z2, .new rfl⟩, (fun h => by cases h), (fun h => by cases h), (fun h => by cases h), (fun h => by cases h)⟩) (hRW.alloc _) (by rw [if_neg (by decide)]; exact (Ext.rf _).alloc _))
                      · obtain ⟨g, h1, zg, bg⟩ := ((hD 1 (depIn (by kernel_rfl))).g rfl).1 rfl
                        obtain ⟨A3, c3, w3, hr3, o3, x3⟩ := run_copy_i W wi.heap.size 22 g p PA pc bg zg (oP.out.read.ext hRW) (by omega)
                        exact op_app rfl (.slice (some ⟨g, 0, none⟩) 0 0) (.slice PA p.length pc) (Eq.trans (b := u 1) (by kernel_rfl) h1) (by kernel_rfl) _ hr3 (hK _ _ (VF.mg rfl ⟨(fun h => by cases h), fun _ => ⟨A3, c3, rfl, o3⟩, (fun h => by cases h), (fun h => by cases h), (fun h => by cases h)⟩) (hRW.tr x3) (by rw [if_neg (by decide)]; exact x3))
                      · have r1 := keepEL hRW zl cl
                        exact op_ld (T := 3) rfl (.pointer (some ⟨lb, lo + t, none⟩)) (by kernel_rfl) (.int .i64 x) (by go_simp) (hK _ _ (VF.mk rfl) hRW (by rw [if_neg (by decide)]; exact Ext.rf _))
                      · have h7 := (hD 7 (depIn (by kernel_rfl))).k rfl
                        exact op_bs1 rfl _ (Eq.trans (b := u 7) (by kernel_rfl) h7) _ (bsw1_run _ _) (hK _ _ (VF.mg rfl ⟨(fun h => by cases h), (fun h => by cases h), fun _ => ⟨_, rfl, .new rfl⟩, (fun h => by cases h), (fun h => by cases h)⟩) (hRW.alloc _) (by rw [if_neg (by decide)]; exact (Ext.rf _).alloc _))
                      · obtain ⟨A3, c3', h3, o3⟩ := ((hD 3 (depIn (by kernel_rfl))).g rfl).2.1 rfl
                        obtain ⟨g8, h8, b8⟩ := ((hD 8 (depIn (by kernel_rfl))).g rfl).2.2.1 rfl
                        obtain ⟨A7, c7, w7', hrun, o7, g7, -⟩ := run_app_i W wi.heap.size 22 A3 p.length c3' p [x] (some ⟨g8, 0, none⟩) 1 rfl o3 (.blk b8 rfl) (by simp; omega) hRW.size
                        have x7 : Ext wi w7' := hRW.grow g7 (fun k hk => (o3.lt k hk).1)
                        have M7 : ModT wi.heap.size [3] W w7' := OwV.grownT (n := p.length) (show OwV W wi.heap.size 3 1 A3 p.length c3' (p.map (Value.int .i64)) from o3) g7
                        rw [← hr.out] at hrun o7
                        exact op_app rfl (.slice A3 p.length c3') (.slice (some ⟨g8, 0, none⟩) 1 1) (Eq.trans (b := u 3) (by kernel_rfl) h3) (Eq.trans (b := u 8) (by kernel_rfl) h8) _ hrun (hK _ _ (VF.mg rfl ⟨(fun h => by cases h), (fun h => by cases h), (fun h => by cases h), fun _ => ⟨A7, c7, rfl, o7⟩, (fun h => by cases h)⟩) x7 (by rw [if_pos rfl]; exact M7))
                      · obtain ⟨A7, c7, h7, o7⟩ := ((hD 9 (depIn (by kernel_rfl))).g rfl).2.2.2.1 rfl
                        exact op_bs1 rfl _ (Eq.trans (b := u 9) (by kernel_rfl) h7) _ (bswv_run _ _ _ _) (hK _ _ (VF.mg rfl ⟨(fun h => by cases h), (fun h => by cases h), (fun h => by cases h), (fun h => by cases h), fun _ => ⟨_, A7, c7, rfl, .new rfl, o7.ext ((Ext.rf _).alloc _)⟩⟩) (hRW.alloc _) (by rw [if_neg (by decide)]; exact (Ext.rf _).alloc _))
                    · intro u w8 hRW hV
                      obtain ⟨h12, A7, c7, h12e, b12, o7⟩ := ((hV (10, some 106) (by simp) rfl).g rfl).2.2.2.2 rfl
                      simp only [putAll, h12e]
                      have o2 := RI.out.ext hRW
                      obtain ⟨A4, c4, w4, hrun, o4, g4, a4⟩ := run_app_v w8 (e := 22) Try.underlying23 hi.out hz0.out hz1.out hz2.out (by simp [Value.cells]) (by omega) wb.heap.size 23 WA' n' wc' wus' (some ⟨h12, 0, none⟩) 1 1 [.slice A7 r.length c7] o2 ((RdV.blk b12).rdC) (by simp) (by simp [Value.oneCell']) (by simp only [maxLen]; omega) (by omega) (YB.out.tr hRW).size
                      have M4 := o2.grownT g4
                      have X4 : Hid (Ext wb w4) := (YB.out.tr hRW).grow g4 (fun z hz => (o2.lt z hz).1)
                      have L4 : Hid (OwI w4 wb.heap.size (some ⟨lb, lo, none⟩) lc l) := (oL.out.ext hRW).modT M4 (by decide)
                      have P4 : Hid (OwI w4 wb.heap.size PA pc p) := (oP.out.ext hRW).modT M4 (by decide)
                      have HI2 : Hid (WaitS wb.heap.size w4 A4 (n' + 1) c4 ((p ++ [x]) :: SQ)) := by
                        refine ⟨_, o4, ?_⟩
                        rw [List.reverse_cons, ← hr.out]
                        exact ((OI.out.ext hRW).modT M4 (by decide)).snoc ((o7.modT M4 (by decide)).more (by omega))
                      clear h12e hV o7 b12 o2 g4 a4 o4 M4 hRW RI OI
                      refine wpAny_next 11 (by kernel_rfl) (op_app rfl (.slice WA' n' wc') (.slice (some ⟨h12, 0, none⟩) 1 1) (by kernel_rfl) (by kernel_rfl) _ hrun ?_)
                      clear hrun
                      try simp only [Act.put, List.setIfInBounds_toArray, List.set_cons_zero, List.set_cons_succ]
                      refine wpAny_T (i := 12) (op := Op.assign (Operand.tmp 107)) (t := 23) (d := some 11) (v := ?_) rfl (by decide +kernel) (by decide +kernel) (by decide +kernel) (fun _ _ _ h => h) ?_ ?_
                      case refine_2 => (intro _; unfold exec2; go_simp; try with_reducible rfl)
                      try simp only [Act.put, List.setIfInBounds_toArray, List.set_cons_zero, List.set_cons_succ]
                      refine wpAny_done (by kernel_rfl) ?_ _
                      clear cl
                      go_simp
                      rw [EQ.out] at HI2
                      clear YB2 YB
                      go_wp2_with (fail)
                      go_roundw
                      case rel => exact ⟨(t : Int) - 1, t, A4, n' + 1, c4, by go_num, rfl, rfl, by omega, HI2.out.ext (by (repeat (first | assumption | exact Ext.rf _ | apply Ext.drew | apply Ext.drewN | apply Ext.alloc))), P4.out.ext (by (repeat (first | assumption | exact Ext.rf _ | apply Ext.drew | apply Ext.drewN | apply Ext.alloc))), L4.out.ext (by (repeat (first | assumption | exact Ext.rf _ | apply Ext.drew | apply Ext.drewN | apply Ext.alloc))), X4.out.tr (by (repeat (first | assumption | exact Ext.rf _ | apply Ext.drew | apply Ext.drewN | apply Ext.alloc)))⟩
                      case measure => simp [intOf]
            · have n98 : ((ch.toNat : Int) == 98) = false := by
                have : ch.toNat ≠ 98 := fun h => h98 (UInt8.toNat_inj.1 h)
                simp; omega
              have OS2 : Hid (∀ q ∈ S', okI i q) := fun q hq => OS.out q (by simp [hq])
              by_cases h108 : ch = 108
              · subst h108
                by_cases hw : p.length = D
                · have e2 : ((p.length : Int) == (D : Int)) = true := by simp [hw]
                  by_cases hb : bd p < cc
                  · have hb1 : decide (bd p < cc) = true := decide_eq_true hb
                    obtain rfl : RES = 13 := by
                      have h := CT.out
                      rw [if_neg h98, if_pos rfl, if_pos hw, if_pos hb] at h
                      exact h.symm
                    go_wp2_with (fail)
                    go_ret
                    exact ⟨rfl, XB.out.tr (Y4.out.tr (by (repeat (first | assumption | exact Ext.rf _ | apply Ext.drew | apply Ext.drewN | apply Ext.alloc))))⟩
                  · have hb1 : decide (bd p < cc) = false := decide_eq_false hb
                    have CT2 : Hid (stackC D kd bd cc (tr.drop (at_ + 1)) S' = RES) := by
                      have h := CT.out
                      rw [if_neg h98, if_pos rfl, if_pos hw, if_neg hb] at h
                      exact h
                    clear CT
                    have LN := (WS4.out.len).1
                    cases S' with
                    | nil =>
                      obtain rfl : k0 = 0 := LN
                      by_cases hr : at_ + 1 = tr.length
                      · have g1 : decide ((at_ : Int) < (tr.length : Int) - 1) = false := decide_eq_false (by omega)
                        replace hr := Lib.hid hr
                        go_wp2_with (fail)
                        go_roundw
                        case rel => exact ⟨at_ + 1, WA2, 0, wc2, [], by go_num, rfl, rfl, by omega, by omega, WS4.out.ext (by (repeat (first | assumption | exact Ext.rf _ | apply Ext.drew | apply Ext.drewN | apply Ext.alloc))), OS2, CT2, (fun _ => List.drop_of_length_le (by have := hr.out; omega)), Y4.out.tr (by (repeat (first | assumption | exact Ext.rf _ | apply Ext.drew | apply Ext.drewN | apply Ext.alloc)))⟩
                        case measure => simp [intOf]; omega
                      · have g1 : decide ((at_ : Int) < (tr.length : Int) - 1) = true := decide_eq_true (by omega)
                        obtain rfl : RES = 7 := by
                          have h := CT2.out
                          rw [TL.out (at_ + 1) (by omega)] at h
                          exact h.symm
                        go_wp2_with (fail)
                        go_ret
                        exact ⟨rfl, XB.out.tr (Y4.out.tr (by (repeat (first | assumption | exact Ext.rf _ | apply Ext.drew | apply Ext.drewN | apply Ext.alloc))))⟩
                    | cons p2 S2 =>
                      have hz : ((k0 : Int) == 0) = false := by
                        have h : k0 = S2.length + 1 := LN
                        simp; omega
                      have LN2 : k0 ≤ 100 * (at_ + 1) + 1 := by omega
                      replace LN := Lib.hid LN
                      have NS2 : Hid (p2 :: S2 = [] → tr.drop (at_ + 1) = []) := fun h => by cases h
                      go_wp2_with (fail)
                      go_roundw
                      case rel => exact ⟨at_ + 1, WA2, k0, wc2, p2 :: S2, by go_num, rfl, rfl, by omega, LN2, WS4.out.ext (by (repeat (first | assumption | exact Ext.rf _ | apply Ext.drew | apply Ext.drewN | apply Ext.alloc))), OS2, CT2, NS2, Y4.out.tr (by (repeat (first | assumption | exact Ext.rf _ | apply Ext.drew | apply Ext.drewN | apply Ext.alloc)))⟩
                      case measure => simp [intOf]; omega
                · have e2 : ((p.length : Int) == (D : Int)) = false := by simp; omega
                  obtain rfl : RES = 8 := by
                    have h := CT.out
                    rw [if_neg h98, if_pos rfl, if_neg hw] at h
                    exact h.symm
                  go_wp2_with (fail)
                  go_ret
                  exact ⟨rfl, XB.out.tr (Y4.out.tr (by (repeat (first | assumption | exact Ext.rf _ | apply Ext.drew | apply Ext.drewN | apply Ext.alloc))))⟩
              · have n108 : ((ch.toNat : Int) == 108) = false := by
                  have : ch.toNat ≠ 108 := fun h => h108 (UInt8.toNat_inj.1 h)
                  simp; omega
                by_cases h112 : ch = 112
                · subst h112
                  by_cases hb : bd p < cc
                  · have hb1 : decide (bd p < cc) = true := decide_eq_true hb
                    obtain rfl : RES = 13 := by
                      have h := CT.out
                      rw [if_neg h98, if_neg h108, if_pos rfl, if_pos hb] at h
                      exact h.symm
                    go_wp2_with (fail)
                    go_ret
                    exact ⟨rfl, XB.out.tr (Y4.out.tr (by (repeat (first | assumption | exact Ext.rf _ | apply Ext.drew | apply Ext.drewN | apply Ext.alloc))))⟩
                  · have hb1 : decide (bd p < cc) = false := decide_eq_false hb
                    have CT2 : Hid (stackC D kd bd cc (tr.drop (at_ + 1)) S' = RES) := by
                      have h := CT.out
                      rw [if_neg h98, if_neg h108, if_pos rfl, if_neg hb] at h
                      exact h
                    clear CT
                    have LN := (WS4.out.len).1
                    cases S' with
                    | nil =>
                      obtain rfl : k0 = 0 := LN
                      by_cases hr : at_ + 1 = tr.length
                      · have g1 : decide ((at_ : Int) < (tr.length : Int) - 1) = false := decide_eq_false (by omega)
                        replace hr := Lib.hid hr
                        go_wp2_with (fail)
                        go_roundw
                        case rel => exact ⟨at_ + 1, WA2, 0, wc2, [], by go_num, rfl, rfl, by omega, by omega, WS4.out.ext (by (repeat (first | assumption | exact Ext.rf _ | apply Ext.drew | apply Ext.drewN | apply Ext.alloc))), OS2, CT2, (fun _ => List.drop_of_length_le (by have := hr.out; omega)), Y4.out.tr (by (repeat (first | assumption | exact Ext.rf _ | apply Ext.drew | apply Ext.drewN | apply Ext.alloc)))⟩
                        case measure => simp [intOf]; omega
                      · have g1 : decide ((at_ : Int) < (tr.length : Int) - 1) = true := decide_eq_true (by omega)
                        obtain rfl : RES = 7 := by
                          have h := CT2.out
                          rw [TL.out (at_ + 1) (by omega)] at h
                          exact h.symm
                        go_wp2_with (fail)
                        go_ret
                        exact ⟨rfl, XB.out.tr (Y4.out.tr (by (repeat (first | assumption | exact Ext.rf _ | apply Ext.drew | apply Ext.drewN | apply Ext.alloc))))⟩
                    | cons p2 S2 =>
                      have hz : ((k0 : Int) == 0) = false := by
                        have h : k0 = S2.length + 1 := LN
                        simp; omega
                      have LN2 : k0 ≤ 100 * (at_ + 1) + 1 := by omega
                      replace LN := Lib.hid LN
                      have NS2 : Hid (p2 :: S2 = [] → tr.drop (at_ + 1) = []) := fun h => by cases h
                      go_wp2_with (fail)
                      go_roundw
                      case rel => exact ⟨at_ + 1, WA2, k0, wc2, p2 :: S2, by go_num, rfl, rfl, by omega, LN2, WS4.out.ext (by (repeat (first | assumption | exact Ext.rf _ | apply Ext.drew | apply Ext.drewN | apply Ext.alloc))), OS2, CT2, NS2, Y4.out.tr (by (repeat (first | assumption | exact Ext.rf _ | apply Ext.drew | apply Ext.drewN | apply Ext.alloc)))⟩
                      case measure => simp [intOf]; omega
                · have n112 : ((ch.toNat : Int) == 112) = false := by
                    have : ch.toNat ≠ 112 := fun h => h112 (UInt8.toNat_inj.1 h)
                    simp; omega
                  obtain rfl : RES = 2 := by
                    have h := CT.out
                    rw [if_neg h98, if_neg h108, if_neg h112] at h
                    exact h.symm
                  go_wp2_with (fail)
                  go_ret
                  exact ⟨rfl, XB.out.tr (Y4.out.tr (by (repeat (first | assumption | exact Ext.rf _ | apply Ext.drew | apply Ext.drewN | apply Ext.alloc))))⟩
    · have E : Hid (RES = 13) := by
        have h := CD.out
        rw [if_neg (by simp), if_pos hv] at h
        exact h
      have hv1 : (vf == v) = false := by simpa using hv
      clear CD
      go_wp2_with (fail)
      go_ret
      exact ⟨ret_i E.out.symm, XB.out.tr (Y2.out.tr (by (repeat (first | assumption | exact Ext.rf _ | apply Ext.drew | apply Ext.drewN | apply Ext.alloc))))⟩
  · have E : Hid (RES = ce) := by
      have h := CD.out
      rw [if_pos hce] at h
      exact h
    have hce1 : (ce == 0) = false := by simpa using hce
    clear CD
    go_wp2_with (fail)
    go_ret
    exact ⟨ret_i E.out.symm, XB.out.tr (Y1.out.tr (by (repeat (first | assumption | exact Ext.rf _ | apply Ext.drew | apply Ext.drewN | apply Ext.alloc))))⟩
end Go.Proofs.Ytpapkofildcdiaa
