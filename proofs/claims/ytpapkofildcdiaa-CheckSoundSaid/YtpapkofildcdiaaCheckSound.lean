/-
  CheckSound: whoever made a certificate: if it is taken, its answer has its value, and no answer is better.
-/
import Derived.Test.YtpapkofildcdiaaCheckSoundP5
import Derived.Test.YtpapkofildcdiaaRows
import Derived.Test.YtpapkofildcdiaaChecked
namespace Go.Proofs.Ytpapkofildcdiaa.checkSound
open Go.RowKit Go.ChangeShapes Go.WideShapes Go.ChangeAt Go.Deep

/-- what is taken: an answer with its value, that no other one is better than -/
theorem check_zero {i : InstP} {x : List Int} {v : Int} {tr : Wd} (h : checkR i x v tr = 0) : checkP i = 0 ∧ (costG i x).2 = 0 ∧ ofG i (costG i x).1 = v ∧ (costG i x).1 = bestI i := by
  unfold checkR at h
  by_cases hc : checkP i = 0
  · rw [if_neg (fun e => e hc)] at h
    unfold answR at h
    by_cases he : (costG i x).2 = 0
    · rw [if_pos he] at h
      simp only [ne_eq, not_true, if_false] at h
      by_cases hv : ofG i (costG i x).1 = v
      · rw [if_neg (fun e => e hv)] at h
        have K := krn_inst hc
        have h1 := whole_sound K (okI_nil hc) h
        rw [bx_best hc] at h1
        have h2 := best_low hc he
        exact ⟨hc, he, hv, by omega⟩
      · rw [if_pos hv] at h
        cases h
    · rw [if_neg he] at h
      simp only [ne_eq, he, not_false_eq_true, if_true] at h
  · rw [if_pos hc] at h
    exact absurd h hc
/-- what stays: the problem and the certificate in their places -/
structure StC (w : World) (vs ds : List Value) (j : InstP) (gd : Nat) (A : Option Addr) (dx : List Int) (wr : World) : Prop where
  x : Ext w wr
  b : Blk wr w.heap.size 25 (List.toArray vs)
  r : RInst wr vs j
  d : Blk wr gd 29 (List.toArray ds)
  l : RdI wr A dx
theorem StC.ext {w : World} {vs ds : List Value} {j : InstP} {gd : Nat} {A : Option Addr} {dx : List Int} {wr wr' : World} (h : StC w vs ds j gd A dx wr) (x : Ext wr wr') : StC w vs ds j gd A dx wr' := ⟨h.x.tr x, h.b.ext x, h.r.ext x, h.d.ext x, h.l.ext x⟩
set_option maxRecDepth 100000 in
set_option maxHeartbeats 4000000 in
theorem walk_all (i j : InstP) (hj : j = copyP i) (vs : List Value) (cs : List Value) (c d : CertP) (hd : d = tameP c) (w : World) (H : RInst w vs i) (HC : RCert w cs c) (hok : CertOk c) :
    Calls Try.prog 4 #[.agg (List.toArray vs), .agg (List.toArray cs)] w fun e w' => e = .returned (.bool true) ∧ Ext w w' := by
  have CP := fun (W : World) (x : Ext w W) => copy_to hj vs W (H.ext x)
  have TM := fun (W : World) (x : RCert W cs c) => tame_any c cs W x hok
  rw [← hd] at TM
  have hI : InstInts j := hj ▸ H.ints.copy
  have LW : j.weight.length ≤ 70 := by have := (copyP_lens i).1; rw [← hj] at this; omega
  have LV : j.value.length ≤ 70 := by have := (copyP_lens i).2.1; rw [← hj] at this; omega
  have LT : d.tree.length ≤ 1000 := by rw [hd]; show (c.tree.take 400).length ≤ 1000; rw [List.length_take]; omega
  obtain ⟨dv, dx, dt⟩ := d
  simp only at LT
  unfold TamePost at TM
  simp only at TM
  obtain ⟨R, hR⟩ : ∃ R, Hid (checkR j dx dv dt = R) := ⟨_, rfl⟩
  have CK : Hid (∀ (us : List Value) (A : Option Addr) (a : Nat) (W : World), RInst W us j → RdI W A dx → dx.length ≤ a → a ≤ maxLen → Calls Try.prog 9 #[.agg (List.toArray us), .agg #[.int .i64 dv, .slice A dx.length a, .string ⟨dt.toArray⟩]] W fun e w' => e = .returned (.int .i64 R) ∧ Ext W w') := fun us A a W h1 h2 h3 h4 => by
    have h := checkc_any j us dv A a dx dt W h1 (by omega) (by omega) h2 h3 h4 LT
    rw [hR.out] at h
    exact h
  have CO : Hid (∀ (us : List Value) (A : Option Addr) (a : Nat) (W : World), RInst W us j → RdI W A dx → Calls Try.prog 12 #[.agg (List.toArray us), .slice A dx.length a] W fun e w' => e = .returned (.tuple #[.int .i64 (costG j dx).1, .int .i64 (costG j dx).2]) ∧ Ext W w') := fun us A a W h1 h2 => rcost_gen j us A a dx W h1 h2
  have CZ : Hid (R = 0 → checkP j = 0 ∧ (costG j dx).2 = 0 ∧ ofG j (costG j dx).1 = dv ∧ (costG j dx).1 = bestI j) := fun h => check_zero (by rw [hR.out]; exact h)
  have OF : Hid (∀ (_ : (costG j dx).2 = 0) (us : List Value) (W : World), RInst W us j → Calls Try.prog 13 #[.agg (List.toArray us), .int .i64 (costG j dx).1] W fun e w' => e = .returned (.int .i64 (ofG j (costG j dx).1)) ∧ Ext W w') := fun h us W h1 => rof_any j us W (costG j dx).1 h1 (cost_chk h) (fun hk => cost_bd1 h hk)
  have BE : Hid (∀ (_ : checkP j = 0) (us : List Value) (W : World), RInst W us j → Calls Try.prog 14 #[.agg (List.toArray us), .slice none 0 0] W fun e w' => e = .returned (.int .i64 (bestI j)) ∧ Ext W w') := fun h us W h1 => rbestI_any j us W h1 h
  have SM : Hid (∀ (us : List Value) (W : World), RInst W us j → Calls Try.prog 11 #[.agg (List.toArray us)] W fun e w' => e = .returned (.bool (smallP j)) ∧ Ext W w') := fun us W h1 => rsmall j us W h1
  obtain ⟨sm, hsm⟩ : ∃ sm, Hid (smallP j = sm) := ⟨_, rfl⟩
  rw [hsm.out] at SM
  clear hj hd LW LV LT hR hsm
  obtain ⟨A, a, B, b, C, cc, rfl, -, -, -⟩ := H
  obtain ⟨XA, xa, rfl, hXA, iXA, lXA, mXA⟩ := HC
  have TM2 : Hid (∀ (W : World), Ext w W → Calls Try.prog 7 #[.agg #[.int .i64 c.value, .slice XA c.x.length xa, .string ⟨c.tree.toArray⟩]] W fun e w' => ∃ (A : Option Addr) (a : Nat), e = .returned (.agg #[.int .i64 dv, .slice A dx.length a, .string ⟨dt.toArray⟩]) ∧ OwI w' W.heap.size A a dx ∧ Ext W w') := fun W x => TM W ⟨XA, xa, rfl, hXA.ext x, iXA, lXA, mXA⟩
  have B1 : Hid (Blk ((w.alloc (.cells #[.int .i64 i.kind, .int .i64 i.n, .int .i64 i.cap, .slice A i.weight.length a, .slice B i.value.length b, .slice C i.cost.length cc] 25)).alloc (.cells #[.int .i64 c.value, .slice XA c.x.length xa, .string ⟨c.tree.toArray⟩] 27)) w.heap.size 25 #[.int .i64 i.kind, .int .i64 i.n, .int .i64 i.cap, .slice A i.weight.length a, .slice B i.value.length b, .slice C i.cost.length cc]) := .alloc (.new rfl) _
  have BC : Hid (Blk ((w.alloc (.cells #[.int .i64 i.kind, .int .i64 i.n, .int .i64 i.cap, .slice A i.weight.length a, .slice B i.value.length b, .slice C i.cost.length cc] 25)).alloc (.cells #[.int .i64 c.value, .slice XA c.x.length xa, .string ⟨c.tree.toArray⟩] 27)) (w.heap.size + 1) 27 #[.int .i64 c.value, .slice XA c.x.length xa, .string ⟨c.tree.toArray⟩]) := .new (by simp)
  replace CP := Lib.hid CP
  clear TM hXA iXA lXA mXA
  go_enter Try.func4, Try.ntmps4
  go_wp2_with (fail)
  refine (CP.out _ (by (repeat (first | assumption | exact Ext.rf _ | apply Ext.drew | apply Ext.drewN | apply Ext.alloc)))).mono ?_
  rintro e w2 ⟨us, rfl, O2, x2⟩
  obtain ⟨A3, l3, d3, A4, l4, d4, A5, l5, d5, rfl⟩ := O2.six
  have X2 := Ext.tr (a := w) (by (repeat (first | assumption | exact Ext.rf _ | apply Ext.drew | apply Ext.drewN | apply Ext.alloc))) x2
  have B2 := B1.out.ext x2
  have BC2 := BC.out.ext x2
  obtain ⟨X3, B3, O3⟩ := put_copy B2 X2 O2
  have hne : w.heap.size + 1 ≠ w.heap.size := by omega
  have BC3 := Lib.hid ((((((BC2.far (p := ⟨w.heap.size, 0, none⟩) hne (.int .i64 j.kind)).far (p := ⟨w.heap.size, 1, none⟩) hne (.int .i64 j.n)).far (p := ⟨w.heap.size, 2, none⟩) hne (.int .i64 j.cap)).far (p := ⟨w.heap.size, 3, none⟩) hne (.slice A3 l3 d3)).far (p := ⟨w.heap.size, 4, none⟩) hne (.slice A4 l4 d4)).far (p := ⟨w.heap.size, 5, none⟩) hne (.slice A5 l5 d5))
  have R3 := Lib.hid (O3.rinst hI)
  have t0 : w2.cell? ⟨w.heap.size, 0, none⟩ = some (.int .i64 i.kind) := B2.cell 0
  have t1 : w2.cell? ⟨w.heap.size, 1, none⟩ = some (.int .i64 i.n) := B2.cell 1
  have t2 : w2.cell? ⟨w.heap.size, 2, none⟩ = some (.int .i64 i.cap) := B2.cell 2
  have t3 : w2.cell? ⟨w.heap.size, 3, none⟩ = some (.slice A i.weight.length a) := B2.cell 3
  have t4 : w2.cell? ⟨w.heap.size, 4, none⟩ = some (.slice B i.value.length b) := B2.cell 4
  have t5 : w2.cell? ⟨w.heap.size, 5, none⟩ = some (.slice C i.cost.length cc) := B2.cell 5
  have f0 := B2.free 0
  have f1 := B2.free 1
  have f2 := B2.free 2
  have f3 := B2.free 3
  have f4 := B2.free 4
  have f5 := B2.free 5
  replace X3 := Lib.hid X3
  replace B3 := Lib.hid B3
  clear O2 x2 X2 B2 O3 BC2 hne
  go_upto_region 2 with (fail)
  generalize ((((((w2.setCell ⟨w.heap.size, 0, none⟩ (.int .i64 j.kind)).setCell ⟨w.heap.size, 1, none⟩ (.int .i64 j.n)).setCell ⟨w.heap.size, 2, none⟩ (.int .i64 j.cap)).setCell ⟨w.heap.size, 3, none⟩ (.slice A3 l3 d3)).setCell ⟨w.heap.size, 4, none⟩ (.slice A4 l4 d4)).setCell ⟨w.heap.size, 5, none⟩ (.slice A5 l5 d5)) = w3 at *
  clear t0 t1 t2 t3 t4 t5 f0 f1 f2 f3 f4 f5
  have k0 : w3.cell? ⟨w.heap.size + 1, 0, none⟩ = some (.int .i64 c.value) := BC3.out.cell 0
  have k1 : w3.cell? ⟨w.heap.size + 1, 1, none⟩ = some (.slice XA c.x.length xa) := BC3.out.cell 1
  have k2 : w3.cell? ⟨w.heap.size + 1, 2, none⟩ = some (.string ⟨c.tree.toArray⟩) := BC3.out.cell 2
  go_wp2_with (fail)
  refine (TM2.out _ (X3.out.tr (by (repeat (first | assumption | exact Ext.rf _ | apply Ext.drew | apply Ext.drewN | apply Ext.alloc))))).mono ?_
  rintro e w4 ⟨DA, da, rfl, oD, x4⟩
  have Y4 := Ext.tr (a := w3) (by (repeat (first | assumption | exact Ext.rf _ | apply Ext.drew | apply Ext.drewN | apply Ext.alloc))) x4
  have S5 : Hid (StC w [.int .i64 j.kind, .int .i64 j.n, .int .i64 j.cap, .slice A3 l3 d3, .slice A4 l4 d4, .slice A5 l5 d5] [.int .i64 dv, .slice DA dx.length da, .string ⟨dt.toArray⟩] j w4.heap.size DA dx (w4.alloc (.cells #[.int .i64 dv, .slice DA dx.length da, .string ⟨dt.toArray⟩] 29))) :=
    ⟨(X3.out.tr Y4).alloc _, (B3.out.ext Y4).alloc _, (R3.out.ext Y4).ext ((Ext.rf _).alloc _), .new rfl, oD.read.ext ((Ext.rf _).alloc _)⟩
  have ld := oD.le
  clear x4 Y4 oD k0 k1 k2 BC3 B3 R3 X3 TM2 CP BC B1
  obtain ⟨gd, hgd⟩ : ∃ gd, gd = w4.heap.size := ⟨_, rfl⟩
  go_upto_region 3 with (fail)
  generalize (w4.alloc (.cells #[.int .i64 dv, .slice DA dx.length da, .string ⟨dt.toArray⟩] 29)) = w5 at *
  rw [← hgd] at S5 ⊢
  clear hgd
  go_wp2_with (fail)
  refine (checks_any _).mono ?_
  rintro e w6 ⟨rfl, x6⟩
  have S6 := Lib.hid (S5.out.ext (Ext.tr (by (repeat (first | assumption | exact Ext.rf _ | apply Ext.drew | apply Ext.drewN | apply Ext.alloc))) x6))
  clear x6 S5
  have t0 : w6.cell? ⟨w.heap.size, 0, none⟩ = some (.int .i64 j.kind) := S6.out.b.cell 0
  have t1 : w6.cell? ⟨w.heap.size, 1, none⟩ = some (.int .i64 j.n) := S6.out.b.cell 1
  have t2 : w6.cell? ⟨w.heap.size, 2, none⟩ = some (.int .i64 j.cap) := S6.out.b.cell 2
  have t3 : w6.cell? ⟨w.heap.size, 3, none⟩ = some (.slice A3 l3 d3) := S6.out.b.cell 3
  have t4 : w6.cell? ⟨w.heap.size, 4, none⟩ = some (.slice A4 l4 d4) := S6.out.b.cell 4
  have t5 : w6.cell? ⟨w.heap.size, 5, none⟩ = some (.slice A5 l5 d5) := S6.out.b.cell 5
  go_wp2_with (fail)
  refine (SM.out _ _ (S6.out.r.ext (by (repeat (first | assumption | exact Ext.rf _ | apply Ext.drew | apply Ext.drewN | apply Ext.alloc))))).mono ?_
  rintro e w7 ⟨rfl, x7⟩
  have S7 := Lib.hid (S6.out.ext (Ext.tr (by (repeat (first | assumption | exact Ext.rf _ | apply Ext.drew | apply Ext.drewN | apply Ext.alloc))) x7))
  clear x7 S6 SM t0 t1 t2 t3 t4 t5
  cases sm with
  | false =>
    go_wp2_with (fail)
    refine (checks_any _).mono ?_
    rintro e wz ⟨rfl, xz⟩
    have Xz := Lib.hid (S7.out.x.tr (Ext.tr (by (repeat (first | assumption | exact Ext.rf _ | apply Ext.drew | apply Ext.drewN | apply Ext.alloc))) xz))
    clear xz
    go_wp2_with (fail)
    go_ret
    exact ⟨rfl, Xz.out.tr (by (repeat (first | assumption | exact Ext.rf _ | apply Ext.drew | apply Ext.drewN | apply Ext.alloc)))⟩
  | true =>
    have t0 : w7.cell? ⟨w.heap.size, 0, none⟩ = some (.int .i64 j.kind) := S7.out.b.cell 0
    have t1 : w7.cell? ⟨w.heap.size, 1, none⟩ = some (.int .i64 j.n) := S7.out.b.cell 1
    have t2 : w7.cell? ⟨w.heap.size, 2, none⟩ = some (.int .i64 j.cap) := S7.out.b.cell 2
    have t3 : w7.cell? ⟨w.heap.size, 3, none⟩ = some (.slice A3 l3 d3) := S7.out.b.cell 3
    have t4 : w7.cell? ⟨w.heap.size, 4, none⟩ = some (.slice A4 l4 d4) := S7.out.b.cell 4
    have t5 : w7.cell? ⟨w.heap.size, 5, none⟩ = some (.slice A5 l5 d5) := S7.out.b.cell 5
    have k0 : w7.cell? ⟨gd, 0, none⟩ = some (.int .i64 dv) := S7.out.d.cell 0
    have k1 : w7.cell? ⟨gd, 1, none⟩ = some (.slice DA dx.length da) := S7.out.d.cell 1
    have k2 : w7.cell? ⟨gd, 2, none⟩ = some (.string ⟨dt.toArray⟩) := S7.out.d.cell 2
    go_wp2_with (fail)
    refine (CK.out _ DA da _ (S7.out.r.ext (by (repeat (first | assumption | exact Ext.rf _ | apply Ext.drew | apply Ext.drewN | apply Ext.alloc)))) (S7.out.l.ext (by (repeat (first | assumption | exact Ext.rf _ | apply Ext.drew | apply Ext.drewN | apply Ext.alloc)))) ld.1 ld.2).mono ?_
    rintro e w8 ⟨rfl, x8⟩
    have S8 := Lib.hid (S7.out.ext (Ext.tr (by (repeat (first | assumption | exact Ext.rf _ | apply Ext.drew | apply Ext.drewN | apply Ext.alloc))) x8))
    clear x8 S7 CK t0 t1 t2 t3 t4 t5 k0 k1 k2
    by_cases hz : R = 0
    · obtain ⟨hc, he, hv, hb⟩ := CZ.out hz
      replace OF := Lib.hid (OF.out he)
      replace BE := Lib.hid (BE.out hc)
      rw [he] at CO
      rw [hv, hb] at OF
      rw [hb] at CO
      subst hz
      generalize bestI j = bc at *
      clear CZ hc he hv hb
      have t0 : w8.cell? ⟨w.heap.size, 0, none⟩ = some (.int .i64 j.kind) := S8.out.b.cell 0
      have t1 : w8.cell? ⟨w.heap.size, 1, none⟩ = some (.int .i64 j.n) := S8.out.b.cell 1
      have t2 : w8.cell? ⟨w.heap.size, 2, none⟩ = some (.int .i64 j.cap) := S8.out.b.cell 2
      have t3 : w8.cell? ⟨w.heap.size, 3, none⟩ = some (.slice A3 l3 d3) := S8.out.b.cell 3
      have t4 : w8.cell? ⟨w.heap.size, 4, none⟩ = some (.slice A4 l4 d4) := S8.out.b.cell 4
      have t5 : w8.cell? ⟨w.heap.size, 5, none⟩ = some (.slice A5 l5 d5) := S8.out.b.cell 5
      have k0 : w8.cell? ⟨gd, 0, none⟩ = some (.int .i64 dv) := S8.out.d.cell 0
      have k1 : w8.cell? ⟨gd, 1, none⟩ = some (.slice DA dx.length da) := S8.out.d.cell 1
      have k2 : w8.cell? ⟨gd, 2, none⟩ = some (.string ⟨dt.toArray⟩) := S8.out.d.cell 2
      go_wp2_with (fail)
      refine (CO.out _ DA da _ (S8.out.r.ext (by (repeat (first | assumption | exact Ext.rf _ | apply Ext.drew | apply Ext.drewN | apply Ext.alloc)))) (S8.out.l.ext (by (repeat (first | assumption | exact Ext.rf _ | apply Ext.drew | apply Ext.drewN | apply Ext.alloc))))).mono ?_
      rintro e w9 ⟨rfl, x9⟩
      have S9 := Lib.hid (S8.out.ext (Ext.tr (by (repeat (first | assumption | exact Ext.rf _ | apply Ext.drew | apply Ext.drewN | apply Ext.alloc))) x9))
      clear x9 S8 CO t0 t1 t2 t3 t4 t5 k0 k1 k2
      have t0 : w9.cell? ⟨w.heap.size, 0, none⟩ = some (.int .i64 j.kind) := S9.out.b.cell 0
      have t1 : w9.cell? ⟨w.heap.size, 1, none⟩ = some (.int .i64 j.n) := S9.out.b.cell 1
      have t2 : w9.cell? ⟨w.heap.size, 2, none⟩ = some (.int .i64 j.cap) := S9.out.b.cell 2
      have t3 : w9.cell? ⟨w.heap.size, 3, none⟩ = some (.slice A3 l3 d3) := S9.out.b.cell 3
      have t4 : w9.cell? ⟨w.heap.size, 4, none⟩ = some (.slice A4 l4 d4) := S9.out.b.cell 4
      have t5 : w9.cell? ⟨w.heap.size, 5, none⟩ = some (.slice A5 l5 d5) := S9.out.b.cell 5
      have k0 : w9.cell? ⟨gd, 0, none⟩ = some (.int .i64 dv) := S9.out.d.cell 0
      have zw := S9.out.b.lt
      have zg := S9.out.d.lt
      go_wp2_with (fail)
      go_region_held3 (fun w' => w'.cell? ⟨w.heap.size, 0, none⟩ = some (.int .i64 j.kind) ∧ w'.cell? ⟨w.heap.size, 1, none⟩ = some (.int .i64 j.n) ∧ w'.cell? ⟨w.heap.size, 2, none⟩ = some (.int .i64 j.cap) ∧ w'.cell? ⟨w.heap.size, 3, none⟩ = some (.slice A3 l3 d3) ∧ w'.cell? ⟨w.heap.size, 4, none⟩ = some (.slice A4 l4 d4) ∧ w'.cell? ⟨w.heap.size, 5, none⟩ = some (.slice A5 l5 d5) ∧ w'.cell? ⟨gd, 0, none⟩ = some (.int .i64 dv)) (go_keep)
        (first
          | (go_at_call 13; refine (OF.out _ _ (S9.out.r.ext (by (repeat (first | assumption | exact Ext.rf _ | apply Ext.drew | apply Ext.drewN | apply Ext.alloc))))).mono ?_; rintro e wx ⟨rfl, xx⟩; have Yx := Ext.tr (a := w9) (by (repeat (first | assumption | exact Ext.rf _ | apply Ext.drew | apply Ext.drewN | apply Ext.alloc))) xx; have s0 := keepEL Yx zw t0; have s1 := keepEL Yx zw t1; have s2 := keepEL Yx zw t2; have s3 := keepEL Yx zw t3; have s4 := keepEL Yx zw t4; have s5 := keepEL Yx zw t5; have s6 := keepEL Yx zg k0)
          | (go_at_call 14; refine (BE.out _ _ (S9.out.r.ext (Ext.tr Yx (by (repeat (first | assumption | exact Ext.rf _ | apply Ext.drew | apply Ext.drewN | apply Ext.alloc)))))).mono ?_; rintro e wy ⟨rfl, xy⟩; have Yy := Ext.tr (a := w9) (Ext.tr Yx (by (repeat (first | assumption | exact Ext.rf _ | apply Ext.drew | apply Ext.drewN | apply Ext.alloc)))) xy; have s0 := keepEL Yy zw t0; have s1 := keepEL Yy zw t1; have s2 := keepEL Yy zw t2; have s3 := keepEL Yy zw t3; have s4 := keepEL Yy zw t4; have s5 := keepEL Yy zw t5; have s6 := keepEL Yy zg k0))
      all_goals
        have X8 := Lib.hid (S9.out.x.tr Yy)
        go_wp2_with (fail)
        go_ret
        exact ⟨rfl, X8.out.tr (by (repeat (first | assumption | exact Ext.rf _ | apply Ext.drew | apply Ext.drewN | apply Ext.alloc)))⟩
    · have hz1 : (R == 0) = false := by simpa using hz
      go_wp2_with (fail)
      refine (checks_any _).mono ?_
      rintro e wz ⟨rfl, xz⟩
      have Xz := Lib.hid (S8.out.x.tr (Ext.tr (by (repeat (first | assumption | exact Ext.rf _ | apply Ext.drew | apply Ext.drewN | apply Ext.alloc))) xz))
      clear xz
      go_wp2_with (fail)
      go_ret
      exact ⟨rfl, Xz.out.tr (by (repeat (first | assumption | exact Ext.rf _ | apply Ext.drew | apply Ext.drewN | apply Ext.alloc)))⟩
theorem walk (vs : List Value) (i : InstP) (cs : List Value) (c : CertP) (w : World) (H : RInst w vs i) (_ : InstOk i) (HC : RCert w cs c) (hok : CertOk c) :
    Calls Try.prog 4 #[.agg (List.toArray vs), .agg (List.toArray cs)] w fun e w' => e = .returned (.bool true) ∧ Ext w w' := walk_all i (copyP i) rfl vs cs c (tameP c) rfl w H HC hok
set_option maxRecDepth 100000 in
theorem lifted (os : Os) (started : os.Started) (H : Type) (enc : TypeId × Value → H) :
    ReturnsInHanded {} Try.checked os 4 .any (Rows.checkSoundSpec.pre6 enc Try.prog Try.f4 Rows.checkSoundRow.domain false) (Rows.checkSoundSpec.post enc Try.prog Try.f4 false true false false) := by
  refine returnsInHanded_of_change (C := Try.checked) own started (by kernel_rfl) Try.func4
    (ChangeSpec.witness6 (enc := enc) (C := Try.checked) false ⟨#[], #[.agg #[.int .i64 0, .int .i64 0, .int .i64 0, .slice none 0 0, .slice none 0 0, .slice none 0 0], .agg #[.int .i64 0, .slice none 0 0, .string ⟨#[]⟩]], []⟩ 8 (by kernel_rfl) (by kernel_rfl) (by kernel_rfl) (by kernel_rfl)) ?_
  intro W base args ds gs before hval0 hW _ _
  have hval : ∀ (j : Nat) t v, Try.f4.params[j]? = some t → args[j]? = some v → Value.okWide Try.prog W .any base t v := hval0
  have hW' := hW
  obtain ⟨p, q, hA0, hV, rfl, hfz, hnd⟩ := hW
  have hA : DataW.TrodAll enc Try.prog W 0 (fun _ => true) true Try.f4.params.toList args.toList ds p := hA0
  rw [Try.params4] at hA hval
  obtain ⟨v0, vs0, d0, ds0, p0, q0, hargs, rfl, rfl, h0, r0⟩ := trodAll_cons hA
  obtain ⟨v1, vs1, d1, ds1, p1, q1, rfl, rfl, rfl, h1, r1⟩ := trodAll_cons r0
  obtain ⟨rfl, rfl, rfl⟩ := trodAll_nil r1
  obtain rfl : args = #[v0, v1] := by cases args; simp_all
  obtain ⟨rfl, rfl⟩ := trodVars_none hV
  obtain ⟨y0, x0, rfl, hx0, ix0⟩ := open_Inst h0 (hval 0 _ v0 rfl rfl)
  obtain ⟨y1, x1, rfl, hx1, ix1⟩ := open_Cert h1 (hval 1 _ v1 rfl rfl)
  refine (walk y0 x0 y1 x1 W hx0 ix0 hx1 ix1).mono fun e W' ⟨he, hg⟩ => ?_
  subst he
  exact ⟨_, rfl, post_law hW' rfl rfl rfl rfl rfl (readable_of (by kernel_rfl)) hg⟩
theorem proved : Rows.CheckSoundSaid :=
  OpenClaim.holds_of_wide 4 Try.f4 rfl rfl rfl rfl rfl rfl rfl ⟨rfl, rfl, rfl, rfl, rfl⟩ rfl rfl rfl rfl rfl (by kernel_rfl) Try.func4 (by kernel_rfl)
    (of_decide_eq_true (by kernel_rfl)) (by unfold Func.isWrapper; first | (rw [if_pos (by decide +kernel)]; kernel_rfl) | (rw [if_neg (by decide +kernel)]; exact ⟨rfl, rfl⟩))
    (fun os started H enc _ => lifted os started H enc)
end Go.Proofs.Ytpapkofildcdiaa.checkSound
