/-
  The library's stable sort of records: a merge in place where one of the two is a single one.
-/
import Derived.Test.YtpngflmngnjjoaaRecB
namespace Go.Proofs.Ytpngflmngnjjoaa
open Go.RowKit Go.ChangeShapes Go.WideShapes Go.ChangeAt Go.Deep

theorem OwN.pair {w : World} {base : RB} {g c k : Nat} {P Q : List Nat} {y x : Nat} (h : OwN w base g c (P ++ (y :: (x :: Q)))) (hk : P.length = k) :
    CellR w base g (k) y ∧ FrzR w g (k) ∧ CellR w base g (k + 1) x ∧ FrzR w g (k + 1) ∧
      Hid (∀ w2, Ext w w2 → OwN (setR (setR w2 base g (k) x) base g (k + 1) y) base g c (P ++ (x :: (y :: Q)))) ∧
      Hid (∀ w2, Ext w w2 → OwN (setR (setR w2 base g (k + 1) y) base g (k) x) base g c (P ++ (x :: (y :: Q)))) := by
  subst hk
  obtain ⟨g1, g2⟩ := at_pair P Q y x
  obtain ⟨c1, f1, _⟩ := h.cell g1
  obtain ⟨c2, f2, _⟩ := h.cell g2
  refine ⟨c1, f1, c2, f2, fun w2 x2 => ?_, fun w2 x2 => ?_⟩
  · have := ((((h.ext x2).cell g1).2.2.out x).cell (k := P.length + 1) (n := x) (by rw [List.getElem?_set_ne (by omega)]; exact g2)).2.2.out y
    rwa [set_pair'] at this
  · have := ((((h.ext x2).cell g2).2.2.out y).cell (k := P.length) (n := y) (by rw [List.getElem?_set_ne (by omega)]; exact g1)).2.2.out x
    rwa [set_pair] at this
/-- one number's cell, wherever it stands -/
theorem OwN.at {w : World} {base : RB} {g c k : Nat} {P Q : List Nat} {j y : Nat} (h : OwN w base g c (P ++ Q)) (hj : Q[j]? = some y) (hk : P.length + j = k) : CellR w base g (k) y := (h.cell (by rw [at_in P Q k j hk]; exact hj)).1
theorem mid_val (i j : Nat) (h : i + j ≤ 4000000000) : IntKind.i64.wrap (IntKind.u64.wrap (IntKind.i64.wrap ((i : Int) + (j : Int))) / 2) = (((i + j) / 2 : Nat) : Int) := by
  rw [IntKind.wrap_i64, IntKind.wrap_u64, IntKind.wrap_i64]; omega
/-- the search by halves: what is known of the two ends -/
def BsR (good : Nat → Bool) (R : List Nat) (p q : Nat) : Prop := p ≤ q ∧ q ≤ R.length ∧ (∀ y, (R.take p).getLast? = some y → good y = true) ∧ (∀ y, (R.drop q).head? = some y → good y = false)
theorem BsR.start (good : Nat → Bool) (R : List Nat) : BsR good R 0 R.length := ⟨by omega, by omega, by simp, by simp⟩
theorem BsR.mid {good : Nat → Bool} {R : List Nat} {p q : Nat} (h : BsR good R p q) (hlt : p < q) : ∃ y, R[(p + q) / 2]? = some y ∧ y ∈ R ∧ p ≤ (p + q) / 2 ∧ (p + q) / 2 < q ∧ Hid (good y = true → BsR good R ((p + q) / 2 + 1) q) ∧ Hid (good y = false → BsR good R p ((p + q) / 2)) := by
  obtain ⟨h1, h2, h3, h4⟩ := h
  have ht : (p + q) / 2 < R.length := by omega
  have e : R[(p + q) / 2]? = some R[(p + q) / 2] := List.getElem?_eq_getElem ht
  refine ⟨_, e, List.getElem_mem _, by omega, by omega, fun hg => ⟨by omega, h2, fun y hy => ?_, h4⟩, fun hg => ⟨by omega, by omega, h3, fun y hy => ?_⟩⟩
  · rw [take_last e] at hy
    obtain rfl := Option.some.inj hy
    exact hg
  · rw [drop_head e] at hy
    obtain rfl := Option.some.inj hy
    exact hg

/-- x stands behind so many of B -/
def UpS (base : RB) (g c : Nat) (P B : List Nat) (x : Nat) (T : List Nat) (s : Nat) (w w' : World) : Prop := OwN w' base g c (P ++ (B.take s ++ (x :: (B.drop s ++ T)))) ∧ Mod (fun k => k = g) w w'
theorem UpS.ext {base : RB} {g c : Nat} {P B : List Nat} {x : Nat} {T : List Nat} {s : Nat} {w w' w2 : World} (h : UpS base g c P B x T s w w') (x2 : Ext w' w2) : UpS base g c P B x T s w w2 := ⟨h.1.ext x2, h.2.ext x2⟩
theorem UpS.up {base : RB} {g c a : Nat} {P B : List Nat} {x : Nat} {T : List Nat} {s : Nat} {w w' : World} (h : UpS base g c P B x T s w w') (hs : s < B.length) (ha : P.length = a) :
    ∃ y, CellR w' base g (a + s) x ∧ FrzR w' g (a + s) ∧ CellR w' base g (a + s + 1) y ∧ FrzR w' g (a + s + 1) ∧
      Hid (UpS base g c P B x T (s + 1) w (setR (setR w' base g (a + s) y) base g (a + s + 1) x)) := by
  obtain ⟨hO, hM⟩ := h
  have e : B[s]? = some B[s] := List.getElem?_eq_getElem hs
  have hd : B.drop s = B[s] :: B.drop (s + 1) := List.drop_eq_getElem_cons hs
  have ht : B.take (s + 1) = B.take s ++ [B[s]] := by rw [List.take_add_one, e]; rfl
  have e2 : P ++ (B.take s ++ (x :: (B.drop s ++ T))) = (P ++ B.take s) ++ (x :: (B[s] :: (B.drop (s + 1) ++ T))) := by rw [hd]; simp only [List.append_assoc, List.cons_append]
  have e3 : P ++ (B.take (s + 1) ++ (x :: (B.drop (s + 1) ++ T))) = (P ++ B.take s) ++ (B[s] :: (x :: (B.drop (s + 1) ++ T))) := by rw [ht]; simp only [List.append_assoc, List.singleton_append]
  rw [e2] at hO
  obtain ⟨c1, f1, c2, f2, u1, _⟩ := hO.pair (k := a + s) (by rw [List.length_append, List.length_take]; omega)
  refine ⟨_, c1, f1, c2, f2, ?_, (hM.setR rfl).setR rfl⟩
  have := u1.out _ (Ext.rf _)
  rw [← e3] at this
  exact this
theorem UpS.down {base : RB} {g c a : Nat} {P B : List Nat} {x : Nat} {T : List Nat} {s : Nat} {w w' : World} (h : UpS base g c P B x T (s + 1) w w') (hs : s < B.length) (ha : P.length = a) :
    ∃ y, CellR w' base g (a + s) y ∧ FrzR w' g (a + s) ∧ CellR w' base g (a + s + 1) x ∧ FrzR w' g (a + s + 1) ∧
      Hid (UpS base g c P B x T s w (setR (setR w' base g (a + s + 1) y) base g (a + s) x)) := by
  obtain ⟨hO, hM⟩ := h
  have e : B[s]? = some B[s] := List.getElem?_eq_getElem hs
  have hd : B.drop s = B[s] :: B.drop (s + 1) := List.drop_eq_getElem_cons hs
  have ht : B.take (s + 1) = B.take s ++ [B[s]] := by rw [List.take_add_one, e]; rfl
  have e2 : P ++ (B.take (s + 1) ++ (x :: (B.drop (s + 1) ++ T))) = (P ++ B.take s) ++ (B[s] :: (x :: (B.drop (s + 1) ++ T))) := by rw [ht]; simp only [List.append_assoc, List.singleton_append]
  have e3 : P ++ (B.take s ++ (x :: (B.drop s ++ T))) = (P ++ B.take s) ++ (x :: (B[s] :: (B.drop (s + 1) ++ T))) := by rw [hd]; simp only [List.append_assoc, List.cons_append]
  rw [e2] at hO
  obtain ⟨c1, f1, c2, f2, _, u2⟩ := hO.pair (k := a + s) (by rw [List.length_append, List.length_take]; omega)
  refine ⟨_, c1, f1, c2, f2, ?_, (hM.setR rfl).setR rfl⟩
  have := u2.out _ (Ext.rf _)
  rw [← e3] at this
  exact this

set_option maxRecDepth 100000 in
set_option maxHeartbeats 4000000 in
theorem sym_left (base : RB) (g c : Nat) (f : Nat) (lb : Array Value) (cf : Nat → Nat → Int) (nn a m b N x : Nat) (P R Q : List Nat) (w : World) (hw : Weak (ltC cf)) (eg : ∀ args w, (callFunc f args).run Try.prog w = .ok (.enter f args) w) (hcmp : CmpOk base f lb cf nn g w)
    (h : OwN w base g c (P ++ (x :: (R ++ Q)))) (hN : (P ++ (x :: (R ++ Q))).length = N) (ha : P.length = a) (hL : a + 1 = m) (hR : m + R.length = b) (sr : Srt (ltC cf) R) (hlt : Apart (· < ·) [x] R) (hx : x < nn) (hn : ∀ y ∈ R, y < nn) (hl : N ≤ 1000000000) :
    Calls Try.prog 23 #[.slice (some ⟨g, 0, none⟩) N c, .int .i64 a, .int .i64 m, .int .i64 b, .func (.func f) #[] lb] w (SortedPost base g c (ltC cf) P (x :: R) Q w) := by
  have hbN : b ≤ N := by simp only [List.length_append, List.length_cons] at hN; omega
  have hm1 : Hid (m = a + 1) := hL.symm
  have d1 : ((m : Int) - (a : Int) == 1) = true := by rw [beq_iff_eq]; omega
  have hmb : m ≤ b := by omega
  replace hN := Lib.hid hN
  replace hcmp := Lib.hid hcmp
  replace hw := Lib.hid hw
  replace ha := Lib.hid ha
  replace hn := Lib.hid hn
  replace h := Lib.hid h
  replace hR := Lib.hid hR
  replace sr := Lib.hid sr
  have hax : a < N := by have := hm1.out; omega
  clear hL
  go_enter Try.func23, Try.ntmps23
  go_wp2_with (fail)
  go_loopw [10, 11] (fun iv jv wr => ∃ (i j p q : Nat), iv = .int .i64 i ∧ jv = .int .i64 j ∧ Hid (i = m + p) ∧ Hid (j = m + q) ∧ Hid (BsR (fun y => ltC cf y x) R p q) ∧ Hid (Ext w wr)) (fun iv jv _ => (intOf jv).toNat - (intOf iv).toNat)
  case atStart => exact ⟨m, b, 0, R.length, rfl, rfl, rfl, hR.out.symm, BsR.start _ _, Ext.rf _⟩
  case round =>
    obtain ⟨wo, rfl⟩ : ∃ wo : World, wo = wr := ⟨_, rfl⟩
    obtain ⟨i, j, p, q, rfl, rfl, hi, hj, HB, Y⟩ := hrel
    by_cases hpq : p < q
    · obtain ⟨y, ey, hyR, t1, t2, st1, st2⟩ := HB.out.mid hpq
      have hq := HB.out.2.1
      have hij : i < j := by rw [hi.out, hj.out]; omega
      have hjb : j ≤ b := by rw [hj.out, ← hR.out]; omega
      have hyn := hn.out y hyR
      obtain ⟨t, ht⟩ : ∃ t, Hid (t = (p + q) / 2) := ⟨_, rfl⟩
      obtain ⟨hh, hhh⟩ : ∃ hh, Hid (hh = (i + j) / 2) := ⟨_, rfl⟩
      rw [← ht.out] at ey t1 t2 st1 st2
      have eh : hh = m + t := by rw [hhh.out, hi.out, hj.out, ht.out]; omega
      have h1 : i ≤ hh := by rw [hhh.out]; omega
      have h2 : hh < j := by rw [hhh.out]; omega
      have mv : ((i : Int) + (j : Int)) / 2 = (hh : Int) := by rw [hhh.out]; omega
      have ch : CellR wo base g (hh) y := (h.out.ext Y.out).at (P := P) (j := t + 1) (by rw [List.getElem?_cons_succ, List.getElem?_append_left (by have := (List.getElem?_eq_some_iff.1 ey).1; omega)]; exact ey) (by have := ha.out; have := hm1.out; omega)
      have ca : CellR wo base g (a) x := (h.out.ext Y.out).at (P := P) (j := 0) rfl (by have := ha.out; omega)
      have hg : g < wo.heap.size := (h.out.ext Y.out).lt.2
      have hhN : (hh : Int) < (N : Int) := by omega
      have hh0 : (0 : Int) ≤ (hh : Int) := by omega
      have hM := Lib.hid (Mod.of_ext (S := fun k => k = g) Y.out)
      have hc : ∀ W, Ext wo W → Calls Try.prog f (#[base.v y, base.v x] ++ lb) W fun e W' => e = .returned (.int .i64 (cf y x)) ∧ Ext W W' := fun W hW => hcmp.out _ y x hyn hx (hM.out.ext hW)
      obtain ⟨ch, ch'⟩ := ch
      obtain ⟨ca, ca'⟩ := ca
      replace eh := Lib.hid eh
      replace ht := Lib.hid ht
      clear ey hyR
      by_cases hlv : cf y x < 0
      · replace st1 := Lib.hid (st1.out (decide_eq_true hlv))
        clear st2
        go_wp2_with (fail)
        go_region_held3 (fun W => W.cell? ⟨g, hh * 2, none⟩ = some (.int .i64 (base.kd y)) ∧ W.cell? ⟨g, hh * 2 + 1, none⟩ = some (.slice (base.ad y) (base.ln y) (base.cp y)) ∧ W.cell? ⟨g, a * 2, none⟩ = some (.int .i64 (base.kd x)) ∧ W.cell? ⟨g, a * 2 + 1, none⟩ = some (.slice (base.ad x) (base.ln x) (base.cp x))) (go_keep)
          (first | (go_at_fn f; refine (hc _ (by (repeat (first | assumption | exact Ext.rf _ | apply Ext.drew | apply Ext.drewN | apply Ext.alloc)))).mono ?_; rintro e w2 ⟨rfl, x2⟩; have y2 := Ext.tr (a := wo) (by (repeat (first | assumption | exact Ext.rf _ | apply Ext.drew | apply Ext.drewN | apply Ext.alloc))) x2; have s1 := keepEL y2 hg ch; have s2 := keepEL y2 hg ch'; have s3 := keepEL y2 hg ca; have s4 := keepEL y2 hg ca'))
        go_wp2_with (fail)
        go_roundw
        case rel => exact ⟨hh + 1, j, t + 1, q, by go_num, rfl, by have := eh.out; show hh + 1 = _ + (t + 1); omega, hj, st1.out, Y.out.tr (by assumption)⟩
        case measure => simp [intOf] <;> omega
      · replace st2 := Lib.hid (st2.out (decide_eq_false hlv))
        clear st1
        go_wp2_with (fail)
        go_region_held3 (fun W => W.cell? ⟨g, hh * 2, none⟩ = some (.int .i64 (base.kd y)) ∧ W.cell? ⟨g, hh * 2 + 1, none⟩ = some (.slice (base.ad y) (base.ln y) (base.cp y)) ∧ W.cell? ⟨g, a * 2, none⟩ = some (.int .i64 (base.kd x)) ∧ W.cell? ⟨g, a * 2 + 1, none⟩ = some (.slice (base.ad x) (base.ln x) (base.cp x))) (go_keep)
          (first | (go_at_fn f; refine (hc _ (by (repeat (first | assumption | exact Ext.rf _ | apply Ext.drew | apply Ext.drewN | apply Ext.alloc)))).mono ?_; rintro e w2 ⟨rfl, x2⟩; have y2 := Ext.tr (a := wo) (by (repeat (first | assumption | exact Ext.rf _ | apply Ext.drew | apply Ext.drewN | apply Ext.alloc))) x2; have s1 := keepEL y2 hg ch; have s2 := keepEL y2 hg ch'; have s3 := keepEL y2 hg ca; have s4 := keepEL y2 hg ca'))
        go_wp2_with (fail)
        go_roundw
        case rel => exact ⟨i, hh, p, t, rfl, rfl, hi, eh, st2.out, Y.out.tr (by assumption)⟩
        case measure => simp [intOf] <;> omega
    · obtain ⟨b1, b2, b3, b4⟩ := HB.out
      obtain rfl : p = q := by omega
      obtain ⟨ip, hip⟩ : ∃ ip, Hid (ip = a + p) := ⟨_, rfl⟩
      obtain rfl : i = ip + 1 := by rw [hi.out, hip.out, hm1.out]; omega
      obtain rfl : j = ip + 1 := by rw [hj.out, hip.out, hm1.out]; omega
      have ipN : ip + 1 ≤ N := by rw [hip.out]; have := hR.out; have := hm1.out; omega
      have START : Hid (UpS base g c P (R.take p) x (R.drop p ++ Q) 0 w wo) := by
        refine ⟨?_, Mod.of_ext Y.out⟩
        have h1 := h.out.ext Y.out
        rw [List.take_zero, List.nil_append, List.drop_zero, ← List.append_assoc (R.take p), List.take_append_drop]
        exact h1
      have HF : Hid (Is (ltC cf) (x :: R) (R.take p ++ (x :: R.drop p))) := by
        refine ⟨?_, one_left hw.out (by rw [List.take_append_drop]; exact sr.out) (by rw [List.take_append_drop]; exact hlt) b3 b4⟩
        have := List.take_append_drop p R
        refine List.perm_middle.trans ?_
        rw [this]
      have hRl : (R.take p).length = p := by rw [List.length_take]; omega
      generalize R.take p = R1 at *
      generalize R.drop p = R2 at *
      replace hRl := Lib.hid hRl
      have hwp : IntKind.i64.wrap (ip : Int) = (ip : Int) := IntWalk.i64_in _ (by omega)
      clear HB b1 b2 b3 b4 hi hj hlt hR
      go_wp2_with (fail)
      go_loopw [13] (fun kv wr => ∃ (k s : Nat), kv = .int .i64 k ∧ Hid (k = a + s) ∧ s ≤ p ∧ Hid (UpS base g c P R1 x (R2 ++ Q) s w wr)) (fun kv _ => ip - (intOf kv).toNat)
      case atStart => exact ⟨a, 0, rfl, rfl, by omega, START⟩
      case round =>
        obtain ⟨wi, rfl⟩ : ∃ wi : World, wi = wr := ⟨_, rfl⟩
        obtain ⟨k, s, rfl, hk, hs, HU⟩ := hrel
        clear START
        by_cases hsp : s < p
        · obtain ⟨y, c1, f1, c2, f2, NX⟩ := HU.out.up (by rw [hRl.out]; exact hsp) ha.out
          have hk' := hk.out
          rw [← hk'] at c1 f1 c2 f2 NX
          have l1 : (k : Int) < (ip : Int) := by rw [hip.out]; omega
          have l2 : (k : Int) + 1 < (N : Int) := by omega
          have l3 : (k : Int) < (N : Int) := by omega
          obtain ⟨c1, c1'⟩ := c1
          obtain ⟨c2, c2'⟩ := c2
          obtain ⟨f1, f1'⟩ := f1
          obtain ⟨f2, f2'⟩ := f2
          clear hk' HU
          go_wp2_with (fail)
          go_region
          all_goals go_wp2
          go_roundw
          case rel => exact ⟨k + 1, s + 1, by go_num, by have := hk.out; show k + 1 = _ + (s + 1); omega, by omega, NX.out.ext ((Ext.rf _).drew)⟩
          case measure => simp [intOf] <;> omega
        · obtain rfl : s = p := by omega
          have l1 : ¬ (k : Int) < (ip : Int) := by rw [hip.out, hk.out]; omega
          have FIN : Hid (SortedPost base g c (ltC cf) P (x :: R) Q w (.returned (.tuple #[])) wi) := by
            refine ⟨_, HF.out, rfl, ?_, HU.out.2⟩
            have := HU.out.1
            rw [← hRl.out, List.take_length, List.drop_length] at this
            simpa only [List.append_assoc, List.cons_append, List.nil_append] using this
          clear HU
          go_wp2_with (fail)
          go_end0
          exact FIN.out
end Go.Proofs.Ytpngflmngnjjoaa
