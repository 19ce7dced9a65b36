/-
  The document's word on which of two items stands ahead.
-/
import Derived.Test.YtpfdkocelmmllaaBigG
namespace Go.Proofs.Ytpfdkocelmmllaa
open Go.RowKit Go.ChangeShapes Go.WideShapes Go.ChangeAt Go.Deep

set_option maxRecDepth 100000 in
set_option maxHeartbeats 4000000 in
theorem better_any (A B : Option Addr) (c d : Nat) (vs ws : List Int) (a b : Nat) (w : World) (hv : RdI w A vs) (hw : RdI w B ws) (sv : Small31 vs) (sw : Small31 ws) (ha : a < vs.length) (hb : b < vs.length) (ha' : a < ws.length) (hb' : b < ws.length) (lv : vs.length ≤ 1000000) (lw : ws.length ≤ 1000000) :
    Calls Try.prog 132 #[.slice A vs.length c, .slice B ws.length d, .int .i64 a, .int .i64 b] w fun e w' => e = .returned (.bool (betterB vs ws a b)) ∧ Ext w w' := by
  obtain ⟨g1, o1, va, rfl, z1, c1, e1, _⟩ := hv.at ha
  obtain ⟨g1', o1', vb, h1', z1', c2, e2, _⟩ := hv.at hb
  obtain ⟨rfl, rfl⟩ : g1 = g1' ∧ o1 = o1' := by injection h1' with h; injection h with h3 h4; exact ⟨h3, h4⟩
  obtain ⟨g2, o2, wa, rfl, z2, c3, e3, _⟩ := hw.at ha'
  obtain ⟨g2', o2', wb, h2', z2', c4, e4, _⟩ := hw.at hb'
  obtain ⟨rfl, rfl⟩ : g2 = g2' ∧ o2 = o2' := by injection h2' with h; injection h with h3 h4; exact ⟨h3, h4⟩
  have bva := sv.get e1.out
  have bvb := sv.get e2.out
  have bwa := sw.get e3.out
  have bwb := sw.get e4.out
  obtain ⟨res, hres⟩ : ∃ res, Hid (res = betterB vs ws a b) := ⟨_, rfl⟩
  rw [← hres.out]
  have HA : Hid (res = if wa = 0 ∨ wb = 0 then decide (wa = 0) && (decide (wb ≠ 0) || decide (a < b)) else decide (vb * wa < va * wb) || (decide (va * wb = vb * wa) && decide (a < b))) := by
    have h : res = if wa = 0 ∨ wb = 0 then decide (wa = 0) && (decide (wb ≠ 0) || decide (a < b)) else decide (vb * wa < va * wb) || (decide (va * wb = vb * wa) && decide (a < b)) := by
      rw [hres.out]
      unfold betterB
      rw [getD_some e1.out, getD_some e2.out, getD_some e3.out, getD_some e4.out]
    exact h
  clear h1' h2' hv hw sv sw e1 e2 e3 e4 hres
  by_cases hwa : wa = 0
  · subst hwa
    by_cases hwb : wb = 0
    · subst hwb
      have HR : Hid (res = decide (a < b)) := by
        have h := HA.out
        rw [if_pos (by simp)] at h
        exact (by simpa using h : res = decide (a < b))
      clear HA
      go_enter Try.func132, Try.ntmps132
      go_wp2
      all_goals go_ret
      all_goals exact ⟨ret_b HR.out.symm, Ext.rf _⟩
    · have hwb' : (wb != 0) = true := by simpa using hwb
      have HR : Hid (res = true) := by
        have h := HA.out
        rw [if_pos (by simp)] at h
        exact (by simpa [hwb] using h : res = true)
      clear HA hwb
      go_enter Try.func132, Try.ntmps132
      go_wp2
      all_goals go_ret
      all_goals exact ⟨ret_b HR.out.symm, Ext.rf _⟩
  · have hwa' : (wa == 0) = false := by simpa using hwa
    by_cases hwb : wb = 0
    · subst hwb
      have HR : Hid (res = false) := by
        have h := HA.out
        rw [if_pos (by simp)] at h
        exact (by simpa [hwa] using h : res = false)
      clear HA hwa
      go_enter Try.func132, Try.ntmps132
      go_wp2
      all_goals go_ret
      all_goals exact ⟨ret_b HR.out.symm, Ext.rf _⟩
    · have hwb' : (wb == 0) = false := by simpa using hwb
      have HR0 : Hid (res = (decide (vb * wa < va * wb) || (decide (va * wb = vb * wa) && decide (a < b)))) := by
        have h := HA.out
        rw [if_neg (by simp [hwa, hwb])] at h
        exact h
      obtain ⟨p, hp⟩ : ∃ p, Hid (p = va * wb) := ⟨_, rfl⟩
      obtain ⟨q, hq⟩ : ∃ q, Hid (q = vb * wa) := ⟨_, rfl⟩
      have bp : 0 ≤ p ∧ p ≤ 4611686014132420609 := by rw [hp.out]; exact mul_bd bva.1 bva.2 bwb.1 bwb.2
      have bq : 0 ≤ q ∧ q ≤ 4611686014132420609 := by rw [hq.out]; exact mul_bd bvb.1 bvb.2 bwa.1 bwa.2
      rw [← hp.out, ← hq.out] at HR0
      have hR : res = (decide (0 < cmpI p q) || ((cmpI p q == 0) && decide (a < b))) := by
        have h := HR0.out
        unfold cmpI
        by_cases h1 : p = q
        · have h2 : ¬ q < p := by omega
          simp [h1, h]
        · by_cases h2 : p < q
          · have h3 : ¬ q < p := by omega
            simp [h1, h2, h3, h]
          · have h3 : q < p := by omega
            simp [h1, h2, h3, h]
      have HR := Lib.hid hR
      clear hR
      have CM := Lib.hid (fun W => cmp_any p q W bp bq)
      have bc : -1 ≤ cmpI p q ∧ cmpI p q ≤ 1 := by unfold cmpI; split <;> (try split) <;> omega
      have M1 := Lib.hid (fun W => mul_any va wb p W bva bwb hp.out)
      have M2 := Lib.hid (fun W => mul_any vb wa q W bvb bwa hq.out)
      generalize cmpI p q = cc at *
      clear HA hwa hwb HR0 bp bq
      go_enter Try.func132, Try.ntmps132
      go_wp2_with (fail)
      go_region_held3 (fun w' => w'.cell? ⟨g1, o1 + a, none⟩ = some (.int .i64 va) ∧ w'.cell? ⟨g1, o1 + b, none⟩ = some (.int .i64 vb) ∧ w'.cell? ⟨g2, o2 + a, none⟩ = some (.int .i64 wa) ∧ w'.cell? ⟨g2, o2 + b, none⟩ = some (.int .i64 wb)) (go_keep)
        (first
        | (go_at_call_of 152 (Value.int .i64 va); refine (num_any va _ bva.1 bva.2).mono ?_; rintro e w2 ⟨rfl, x2⟩; have y := Ext.tr (a := w) (by (repeat (first | assumption | exact Ext.rf _ | apply Ext.drew | apply Ext.drewN | apply Ext.alloc))) x2; have s1 := keepEL y z1 c1; have s2 := keepEL y z1 c2; have s3 := keepEL y z2 c3; have s4 := keepEL y z2 c4)
        | (go_at_call_of 152 (Value.int .i64 wb); refine (num_any wb _ bwb.1 bwb.2).mono ?_; rintro e w3 ⟨rfl, x3⟩; have y := Ext.tr (a := w) (by (repeat (first | assumption | exact Ext.rf _ | apply Ext.drew | apply Ext.drewN | apply Ext.alloc))) x3; have s1 := keepEL y z1 c1; have s2 := keepEL y z1 c2; have s3 := keepEL y z2 c3; have s4 := keepEL y z2 c4)
        | (go_at_call_of 152 (Value.int .i64 vb); refine (num_any vb _ bvb.1 bvb.2).mono ?_; rintro e w4 ⟨rfl, x4⟩; have y := Ext.tr (a := w) (by (repeat (first | assumption | exact Ext.rf _ | apply Ext.drew | apply Ext.drewN | apply Ext.alloc))) x4; have s1 := keepEL y z1 c1; have s2 := keepEL y z1 c2; have s3 := keepEL y z2 c3; have s4 := keepEL y z2 c4)
        | (go_at_call_of 152 (Value.int .i64 wa); refine (num_any wa _ bwa.1 bwa.2).mono ?_; rintro e w5 ⟨rfl, x5⟩; have y := Ext.tr (a := w) (by (repeat (first | assumption | exact Ext.rf _ | apply Ext.drew | apply Ext.drewN | apply Ext.alloc))) x5; have s1 := keepEL y z1 c1; have s2 := keepEL y z1 c2; have s3 := keepEL y z2 c3; have s4 := keepEL y z2 c4)
        | (go_at_call_of 151 (sgnV false va 0); refine (M1.out _).mono ?_; rintro e w6 ⟨rfl, x6⟩; have y := Ext.tr (a := w) (by (repeat (first | assumption | exact Ext.rf _ | apply Ext.drew | apply Ext.drewN | apply Ext.alloc))) x6; have s1 := keepEL y z1 c1; have s2 := keepEL y z1 c2; have s3 := keepEL y z2 c3; have s4 := keepEL y z2 c4)
        | (go_at_call_of 151 (sgnV false vb 0); refine (M2.out _).mono ?_; rintro e w7 ⟨rfl, x7⟩; have y := Ext.tr (a := w) (by (repeat (first | assumption | exact Ext.rf _ | apply Ext.drew | apply Ext.drewN | apply Ext.alloc))) x7; have s1 := keepEL y z1 c1; have s2 := keepEL y z1 c2; have s3 := keepEL y z2 c3; have s4 := keepEL y z2 c4)
        | (go_at_call 150; refine (CM.out _).mono ?_; rintro e w8 ⟨rfl, x8⟩; have y := Ext.tr (a := w) (by (repeat (first | assumption | exact Ext.rf _ | apply Ext.drew | apply Ext.drewN | apply Ext.alloc))) x8; have s1 := keepEL y z1 c1; have s2 := keepEL y z1 c2; have s3 := keepEL y z2 c3; have s4 := keepEL y z2 c4))
      obtain rfl | rfl | rfl : cc = -1 ∨ cc = 0 ∨ cc = 1 := by omega
      · have HF : Hid (res = false) := HR.out
        go_wp2
        all_goals go_ret
        all_goals exact ⟨ret_b HF.out.symm, by (repeat (first | assumption | exact Ext.rf _ | apply Ext.drew | apply Ext.drewN | apply Ext.alloc))⟩
      · have HF : Hid (res = decide (a < b)) := HR.out
        go_wp2
        all_goals go_ret
        all_goals exact ⟨ret_b HF.out.symm, by (repeat (first | assumption | exact Ext.rf _ | apply Ext.drew | apply Ext.drewN | apply Ext.alloc))⟩
      · have HF : Hid (res = true) := HR.out
        go_wp2
        all_goals go_ret
        all_goals exact ⟨ret_b HF.out.symm, by (repeat (first | assumption | exact Ext.rf _ | apply Ext.drew | apply Ext.drewN | apply Ext.alloc))⟩
end Go.Proofs.Ytpfdkocelmmllaa
