/-
  The library's stable sort of records: a merge in place where the second of the two is a single one.
-/
import Derived.Test.YtpngflmngnjjoaaRecC
namespace Go.Proofs.Ytpngflmngnjjoaa
open Go.RowKit Go.ChangeShapes Go.WideShapes Go.ChangeAt Go.Deep

set_option maxRecDepth 100000 in
set_option maxHeartbeats 4000000 in
theorem sym_right (base : RB) (g c : Nat) (f : Nat) (lb : Array Value) (cf : Nat → Nat → Int) (nn a m b N y : Nat) (P L Q : List Nat) (w : World) (hw : Weak (ltC cf)) (eg : ∀ args w, (callFunc f args).run Try.prog w = .ok (.enter f args) w) (hcmp : CmpOk base f lb cf nn g w)
    (h : OwN w base g c (P ++ (L ++ (y :: Q)))) (hN : (P ++ (L ++ (y :: Q))).length = N) (ha : P.length = a) (hL : a + L.length = m) (hR : m + 1 = b) (h2 : 2 ≤ L.length) (sl : Srt (ltC cf) L) (hlt : Apart (· < ·) L [y]) (hy : y < nn) (hn : ∀ x ∈ L, x < nn) (hl : N ≤ 1000000000) :
    Calls Try.prog 23 #[.slice (some ⟨g, 0, none⟩) N c, .int .i64 a, .int .i64 m, .int .i64 b, .func (.func f) #[] lb] w (SortedPost base g c (ltC cf) P (L ++ [y]) Q w) := by
  have hbN : b ≤ N := by simp only [List.length_append, List.length_cons] at hN; omega
  have d0 : ((m : Int) - (a : Int) == 1) = false := by rw [beq_eq_false_iff_ne]; omega
  have d1 : ((b : Int) - (m : Int) == 1) = true := by rw [beq_iff_eq]; omega
  have hmN : m < N := by omega
  have ham : a ≤ m := by omega
  replace hN := Lib.hid hN
  replace hcmp := Lib.hid hcmp
  replace hw := Lib.hid hw
  replace ha := Lib.hid ha
  replace hn := Lib.hid hn
  replace h := Lib.hid h
  replace hL := Lib.hid hL
  replace sl := Lib.hid sl
  clear hR h2
  go_enter Try.func23, Try.ntmps23
  go_wp2_with (fail)
  go_loopw [14, 15] (fun iv jv wr => ∃ (i j p q : Nat), iv = .int .i64 i ∧ jv = .int .i64 j ∧ Hid (i = a + p) ∧ Hid (j = a + q) ∧ Hid (BsR (fun z => !ltC cf y z) L p q) ∧ Hid (Ext w wr)) (fun iv jv _ => (intOf jv).toNat - (intOf iv).toNat)
  case atStart => exact ⟨a, m, 0, L.length, rfl, rfl, rfl, hL.out.symm, BsR.start _ _, Ext.rf _⟩
  case round =>
    obtain ⟨wo, rfl⟩ : ∃ wo : World, wo = wr := ⟨_, rfl⟩
    obtain ⟨i, j, p, q, rfl, rfl, hi, hj, HB, Y⟩ := hrel
    by_cases hpq : p < q
    · obtain ⟨z, ez, hzL, t1, t2, st1, st2⟩ := HB.out.mid hpq
      have hq := HB.out.2.1
      have hij : i < j := by rw [hi.out, hj.out]; omega
      have hjm : j ≤ m := by rw [hj.out, ← hL.out]; omega
      have hzn := hn.out z hzL
      obtain ⟨t, ht⟩ : ∃ t, Hid (t = (p + q) / 2) := ⟨_, rfl⟩
      obtain ⟨hh, hhh⟩ : ∃ hh, Hid (hh = (i + j) / 2) := ⟨_, rfl⟩
      rw [← ht.out] at ez t1 t2 st1 st2
      have eh : hh = a + t := by rw [hhh.out, hi.out, hj.out, ht.out]; omega
      have h1 : i ≤ hh := by rw [hhh.out]; omega
      have h2 : hh < j := by rw [hhh.out]; omega
      have mv : ((i : Int) + (j : Int)) / 2 = (hh : Int) := by rw [hhh.out]; omega
      have ch : CellR wo base g (hh) z := (h.out.ext Y.out).at (P := P) (j := t) (by rw [List.getElem?_append_left (by have := (List.getElem?_eq_some_iff.1 ez).1; omega)]; exact ez) (by have := ha.out; omega)
      have cm : CellR wo base g (m) y := (h.out.ext Y.out).at (P := P) (j := L.length) (by rw [List.getElem?_append_right (by omega), Nat.sub_self]; rfl) (by have := ha.out; have := hL.out; omega)
      have hg : g < wo.heap.size := (h.out.ext Y.out).lt.2
      have hhN : (hh : Int) < (N : Int) := by omega
      have hh0 : (0 : Int) ≤ (hh : Int) := by omega
      have hM := Lib.hid (Mod.of_ext (S := fun k => k = g) Y.out)
      have hc : ∀ W, Ext wo W → Calls Try.prog f (#[base.v y, base.v z] ++ lb) W fun e W' => e = .returned (.int .i64 (cf y z)) ∧ Ext W W' := fun W hW => hcmp.out _ y z hy hzn (hM.out.ext hW)
      obtain ⟨ch, ch'⟩ := ch
      obtain ⟨cm, cm'⟩ := cm
      replace eh := Lib.hid eh
      replace ht := Lib.hid ht
      clear ez hzL
      by_cases hlv : cf y z < 0
      · replace st2 := Lib.hid (st2.out (by show (!decide (cf y z < 0)) = false; rw [decide_eq_true hlv]; rfl))
        have hlb : decide (cf y z < 0) = true := decide_eq_true hlv
        clear st1
        go_wp2_with (fail)
        go_region_held3 (fun W => W.cell? ⟨g, hh * 2, none⟩ = some (.int .i64 (base.kd z)) ∧ W.cell? ⟨g, hh * 2 + 1, none⟩ = some (.slice (base.ad z) (base.ln z) (base.cp z)) ∧ W.cell? ⟨g, m * 2, none⟩ = some (.int .i64 (base.kd y)) ∧ W.cell? ⟨g, m * 2 + 1, none⟩ = some (.slice (base.ad y) (base.ln y) (base.cp y))) (go_keep)
          (first | (go_at_fn f; refine (hc _ (by (repeat (first | assumption | exact Ext.rf _ | apply Ext.drew | apply Ext.drewN | apply Ext.alloc)))).mono ?_; rintro e w2 ⟨rfl, x2⟩; have y2 := Ext.tr (a := wo) (by (repeat (first | assumption | exact Ext.rf _ | apply Ext.drew | apply Ext.drewN | apply Ext.alloc))) x2; have s1 := keepEL y2 hg ch; have s2 := keepEL y2 hg ch'; have s3 := keepEL y2 hg cm; have s4 := keepEL y2 hg cm'))
        go_wp2_with (fail)
        go_roundw
        case rel => exact ⟨i, hh, p, t, rfl, rfl, hi, eh, st2.out, Y.out.tr (by assumption)⟩
        case measure => simp [intOf] <;> omega
      · replace st1 := Lib.hid (st1.out (by show (!decide (cf y z < 0)) = true; rw [decide_eq_false hlv]; rfl))
        have hlb : decide (cf y z < 0) = false := decide_eq_false hlv
        clear st2
        go_wp2_with (fail)
        go_region_held3 (fun W => W.cell? ⟨g, hh * 2, none⟩ = some (.int .i64 (base.kd z)) ∧ W.cell? ⟨g, hh * 2 + 1, none⟩ = some (.slice (base.ad z) (base.ln z) (base.cp z)) ∧ W.cell? ⟨g, m * 2, none⟩ = some (.int .i64 (base.kd y)) ∧ W.cell? ⟨g, m * 2 + 1, none⟩ = some (.slice (base.ad y) (base.ln y) (base.cp y))) (go_keep)
          (first | (go_at_fn f; refine (hc _ (by (repeat (first | assumption | exact Ext.rf _ | apply Ext.drew | apply Ext.drewN | apply Ext.alloc)))).mono ?_; rintro e w2 ⟨rfl, x2⟩; have y2 := Ext.tr (a := wo) (by (repeat (first | assumption | exact Ext.rf _ | apply Ext.drew | apply Ext.drewN | apply Ext.alloc))) x2; have s1 := keepEL y2 hg ch; have s2 := keepEL y2 hg ch'; have s3 := keepEL y2 hg cm; have s4 := keepEL y2 hg cm'))
        go_wp2_with (fail)
        go_roundw
        case rel => exact ⟨hh + 1, j, t + 1, q, by go_num, rfl, by have := eh.out; show hh + 1 = _ + (t + 1); omega, hj, st1.out, Y.out.tr (by assumption)⟩
        case measure => simp [intOf] <;> omega
    · obtain ⟨b1, b2, b3, b4⟩ := HB.out
      obtain rfl : p = q := by omega
      obtain rfl : i = j := by rw [hi.out, hj.out]
      have iN : i ≤ m := by rw [hi.out, ← hL.out]; omega
      have b3' : ∀ z, (L.take p).getLast? = some z → ltC cf y z = false := fun z hz => by simpa using b3 z hz
      have b4' : ∀ z, (L.drop p).head? = some z → ltC cf y z = true := fun z hz => by simpa using b4 z hz
      have START : Hid (UpS base g c (P ++ L.take p) (L.drop p) y Q (L.drop p).length w wo) := by
        refine ⟨?_, Mod.of_ext Y.out⟩
        have h1 := h.out.ext Y.out
        rw [List.take_length, List.drop_length, List.append_assoc, ← List.append_assoc (L.take p), List.take_append_drop]
        exact h1
      have HF : Hid (Is (ltC cf) (L ++ [y]) (L.take p ++ (y :: L.drop p))) := by
        refine ⟨?_, one_right hw.out (by rw [List.take_append_drop]; exact sl.out) (by rw [List.take_append_drop]; exact hlt) b3' b4'⟩
        have := List.take_append_drop p L
        refine List.perm_middle.trans ?_
        rw [this]
        exact List.perm_append_comm (l₁ := [y]) (l₂ := L)
      have hi2 : Hid ((P ++ L.take p).length = i) := by
        have : (P ++ L.take p).length = i := by rw [List.length_append, List.length_take, ha.out, hi.out]; omega
        exact this
      have hLm : Hid (m = i + (L.drop p).length) := by
        have : m = i + (L.drop p).length := by rw [List.length_drop, hi.out]; have := hL.out; omega
        exact this
      generalize L.take p = L1 at *
      generalize L.drop p = L2 at *
      clear HB b1 b2 b3 b4 b3' b4' hj hlt hL
      go_wp2_with (fail)
      go_loopw [17] (fun kv wr => ∃ (k s : Nat), kv = .int .i64 k ∧ Hid (k = i + s) ∧ s ≤ L2.length ∧ Hid (UpS base g c (P ++ L1) L2 y Q s w wr)) (fun kv _ => (intOf kv).toNat)
      case atStart => exact ⟨m, L2.length, rfl, hLm, by omega, START⟩
      case round =>
        obtain ⟨wi, rfl⟩ : ∃ wi : World, wi = wr := ⟨_, rfl⟩
        obtain ⟨k, s, rfl, hk, hs, HU⟩ := hrel
        clear START
        cases s with
        | succ s =>
          obtain ⟨z, c1, f1, c2, f2, NX⟩ := HU.out.down (by omega) hi2.out
          obtain ⟨kp, hkp⟩ : ∃ kp, Hid (kp = i + s) := ⟨_, rfl⟩
          rw [← hkp.out] at c1 f1 c2 f2 NX
          obtain rfl : k = kp + 1 := by rw [hk.out, hkp.out]; omega
          have kpm : kp < m := by rw [hkp.out, hLm.out]; omega
          have hwp : IntKind.i64.wrap (kp : Int) = (kp : Int) := IntWalk.i64_in _ (by omega)
          have jz : (kp : Int) + 1 < (N : Int) := by omega
          have jz1 : (kp : Int) < (N : Int) := by omega
          have hjaz : (i : Int) < (kp : Int) + 1 := by rw [hkp.out]; omega
          have p0 : (0 : Int) ≤ (kp : Int) + 1 := by omega
          have e0 : ((kp : Int) + 1).toNat = kp + 1 := by omega
          obtain ⟨c1, c1'⟩ := c1
          obtain ⟨c2, c2'⟩ := c2
          obtain ⟨f1, f1'⟩ := f1
          obtain ⟨f2, f2'⟩ := f2
          clear HU
          go_wp2_with (fail)
          go_region
          all_goals go_wp2
          go_roundw
          case rel => exact ⟨kp, s, by first | rfl | go_num, hkp, by omega, NX.out.ext ((Ext.rf _).drew)⟩
          case measure => simp [intOf] <;> omega
        | zero =>
          obtain rfl : k = i := hk.out
          have FIN : Hid (SortedPost base g c (ltC cf) P (L ++ [y]) Q w (.returned (.tuple #[])) wi) := by
            refine ⟨_, HF.out, rfl, ?_, HU.out.2⟩
            have := HU.out.1
            rw [List.take_zero, List.drop_zero] at this
            simpa only [List.append_assoc, List.cons_append, List.nil_append] using this
          clear HU
          go_wp2_with (fail)
          go_end0
          exact FIN.out
end Go.Proofs.Ytpngflmngnjjoaa
