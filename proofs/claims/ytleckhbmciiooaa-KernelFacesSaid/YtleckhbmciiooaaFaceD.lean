/-
  kernel: three items have fifteen beginnings.
-/
import Derived.Test.YtleckhbmciiooaaFaceC
namespace Go.Proofs.Ytleckhbmciiooaa
open Go.RowKit Go.ChangeShapes Go.WideShapes Go.ChangeAt Go.Deep

def exK : InstP := ⟨1, 3, 0, [1, 1, 1], [1, 1, 1], []⟩
theorem exK_check : checkP exK = 0 := by decide
/-- so many beginnings of less than so many numbers -/
def CntR (k : Nat) (s p : Int) : Prop := (k = 0 ∧ s = 1 ∧ p = 1) ∨ (k = 1 ∧ s = 3 ∧ p = 2) ∨ (k = 2 ∧ s = 7 ∧ p = 4) ∨ (k = 3 ∧ s = 15 ∧ p = 8)
set_option maxRecDepth 100000 in
set_option maxHeartbeats 2000000 in
theorem count3_any (vs : List Value) (w : World) (H : RInst w vs exK) : Calls Try.prog 94 #[.agg (List.toArray vs)] w fun e w' => e = .returned (.int .i64 15) ∧ Ext w w' := by
  have OF := fun (W : World) (x : Ext w W) => of_1 exK vs W (H.ext x) exK_check rfl
  have rl : (ratioP exK.value exK.weight).length = 3 := by rw [ratioP_len]; rfl
  obtain ⟨A, a, B, b, D, d, rfl, -, -, -⟩ := H
  generalize inOrder (ratioP exK.value exK.weight) exK.weight = ws at *
  generalize inOrder (ratioP exK.value exK.weight) exK.value = us at *
  generalize ratioP exK.value exK.weight = l at *
  generalize sumsL us 0 = bs at *
  simp only [show exK.kind = 1 from rfl, show exK.n = 3 from rfl, show exK.cap = 0 from rfl, show exK.weight.length = 3 from rfl, show exK.value.length = 3 from rfl, show exK.cost.length = 0 from rfl] at OF ⊢
  have B1 : Hid (Blk (w.alloc (.cells #[.int .i64 1, .int .i64 3, .int .i64 0, .slice A 3 a, .slice B 3 b, .slice D 0 d] 25)) w.heap.size 25 #[.int .i64 1, .int .i64 3, .int .i64 0, .slice A 3 a, .slice B 3 b, .slice D 0 d]) := .new rfl
  replace OF := Lib.hid OF
  replace rl := Lib.hid rl
  go_enter Try.func94, Try.ntmps94
  go_wp2_with (fail)
  refine (OF.out _ (by (repeat (first | assumption | exact Ext.rf _ | apply Ext.drew | apply Ext.drewN | apply Ext.alloc)))).mono ?_
  rintro e w1 ⟨⟨g, gk, base, rfl, FB, K⟩, x1⟩
  have X1 := Lib.hid (Ext.tr (a := w) (by (repeat (first | assumption | exact Ext.rf _ | apply Ext.drew | apply Ext.drewN | apply Ext.alloc))) x1)
  have b1 := Lib.hid (B1.out.ext x1)
  have DE := fdepth1_any FB K
  rw [rl.out] at DE
  replace DE := Lib.hid DE
  clear x1 B1 FB K OF
  go_wp2_with (fail)
  refine DE.out.mono ?_
  rintro e w2 ⟨rfl, x2⟩
  have X2 := Lib.hid (X1.out.tr x2)
  have b2 := Lib.hid (b1.out.ext x2)
  clear DE x2 X1 b1
  go_wp2_with (fail)
  go_loopw [6, 7, 21] (fun v6 v7 v21 wr => ∃ (k : Nat) (s p : Int), v6 = .int .i64 s ∧ v7 = .int .i64 p ∧ v21 = .int .i64 k ∧ k ≤ 3 ∧ Hid (CntR k s p) ∧ Hid (Ext w2 wr)) (fun _ _ v21 _ => 3 - (intOf v21).toNat)
  case atStart => exact ⟨0, 1, 1, rfl, rfl, rfl, by omega, .inl ⟨rfl, rfl, rfl⟩, Ext.rf _⟩
  case round =>
    obtain ⟨wo, rfl⟩ : ∃ wo : World, wo = wr := ⟨_, rfl⟩
    obtain ⟨k, s, p, rfl, rfl, rfl, hk, HC, Y⟩ := hrel
    by_cases hlt : k < 3
    · have q1 : (k : Int) < 3 := by omega
      have t0 : wo.cell? ⟨w.heap.size, 0, none⟩ = some (.int .i64 1) := (b2.out.ext Y.out).cell 0
      have bd : 0 ≤ s ∧ s ≤ 100 ∧ 0 ≤ p ∧ p ≤ 100 := by
        rcases HC.out with h | h | h | h <;> omega
      have HN : Hid (CntR (k + 1) (s + p * 2) (p * 2)) := by
        rcases HC.out with h | h | h | h
        · exact .inr (.inl (by omega))
        · exact .inr (.inr (.inl (by omega)))
        · exact .inr (.inr (.inr (by omega)))
        · omega
      go_wp2_with (fail)
      refine (amul_any p 2 bd.2.2.1 (by omega) (by omega) (by omega) _).mono ?_
      rintro e w3 ⟨rfl, x3⟩
      clear t0
      obtain ⟨p2, hp2⟩ : ∃ p2, p2 = p * 2 := ⟨_, rfl⟩
      rw [← hp2] at HN ⊢
      replace hp2 := Lib.hid hp2
      go_wp2_with (fail)
      refine (aup_any s p2 (by omega) (by omega) (by have := hp2.out; omega) (by have := hp2.out; omega) _).mono ?_
      rintro e w4 ⟨rfl, x4⟩
      have Y4 := Lib.hid ((Y.out.tr x3).tr x4)
      obtain ⟨s2, hs2⟩ : ∃ s2, s2 = s + p2 := ⟨_, rfl⟩
      rw [← hs2] at HN ⊢
      replace hs2 := Lib.hid hs2
      clear x3 x4 Y
      go_wp2_with (fail)
      go_roundw
      case rel => exact ⟨k + 1, s2, p2, rfl, rfl, by go_num, by omega, HN, Y4⟩
      case measure => simp [intOf]; omega
    · obtain rfl : k = 3 := by omega
      obtain rfl : s = 15 := by rcases HC.out with h | h | h | h <;> omega
      go_wp2_with (fail)
      go_ret
      exact ⟨rfl, X2.out.tr Y.out⟩
set_option maxRecDepth 100000 in
set_option maxHeartbeats 2000000 in
theorem kernels_any (w : World) : Calls Try.prog 54 #[] w fun e w' => e = .returned (.bool true) ∧ Ext w w' := by
  have OF := fun (vs : List Value) (W : World) (H : RInst W vs exK) => of_1 exK vs W H exK_check rfl
  have CN := fun (vs : List Value) (W : World) (H : RInst W vs exK) => count3_any vs W H
  replace OF := Lib.hid OF
  replace CN := Lib.hid CN
  have R1 : Hid (RInst (((w.alloc (.cells #[.int .i64 1, .int .i64 1, .int .i64 1] 3)).alloc (.cells #[.int .i64 1, .int .i64 1, .int .i64 1] 3)).alloc (.cells #[.int .i64 1, .int .i64 3, .int .i64 0, .slice (some ⟨w.heap.size, 0, none⟩) 3 3, .slice (some ⟨w.heap.size + 1, 0, none⟩) 3 3, .slice none 0 0] 25)) [.int .i64 1, .int .i64 3, .int .i64 0, .slice (some ⟨w.heap.size, 0, none⟩) 3 3, .slice (some ⟨w.heap.size + 1, 0, none⟩) 3 3, .slice none 0 0] exK) :=
    ⟨some ⟨w.heap.size, 0, none⟩, 3, some ⟨w.heap.size + 1, 0, none⟩, 3, none, 0, rfl, ⟨.blk (.alloc (.alloc (.new rfl) _) _) rfl, by intro x hx; simp [exK] at hx; omega, by simp [exK], by simp [maxLen]⟩, ⟨.blk (.alloc (.new (by simp)) _) rfl, by intro x hx; simp [exK] at hx; omega, by simp [exK], by simp [maxLen]⟩, ⟨.inl rfl, by simp [exK], zero_le_maxLen⟩⟩
  have B1 : Hid (Blk (((w.alloc (.cells #[.int .i64 1, .int .i64 1, .int .i64 1] 3)).alloc (.cells #[.int .i64 1, .int .i64 1, .int .i64 1] 3)).alloc (.cells #[.int .i64 1, .int .i64 3, .int .i64 0, .slice (some ⟨w.heap.size, 0, none⟩) 3 3, .slice (some ⟨w.heap.size + 1, 0, none⟩) 3 3, .slice none 0 0] 25)) (w.heap.size + 1 + 1) 25 #[.int .i64 1, .int .i64 3, .int .i64 0, .slice (some ⟨w.heap.size, 0, none⟩) 3 3, .slice (some ⟨w.heap.size + 1, 0, none⟩) 3 3, .slice none 0 0]) := .new (by simp)
  go_enter Try.func54, Try.ntmps54
  go_wp2_with (fail)
  refine (OF.out _ _ R1.out).mono ?_
  rintro e w1 ⟨⟨g, gk, base, rfl, FB, K⟩, x1⟩
  have X1 := Lib.hid (Ext.tr (a := w) (by (repeat (first | assumption | exact Ext.rf _ | apply Ext.drew | apply Ext.drewN | apply Ext.alloc))) x1)
  have b1 := Lib.hid (B1.out.ext x1)
  have R2 := Lib.hid (R1.out.ext x1)
  replace FB := Lib.hid FB
  have t0 : w1.cell? ⟨w.heap.size + 1 + 1, 0, none⟩ = some (.int .i64 1) := b1.out.cell 0
  have t1 : w1.cell? ⟨w.heap.size + 1 + 1, 1, none⟩ = some (.int .i64 3) := b1.out.cell 1
  have t2 : w1.cell? ⟨w.heap.size + 1 + 1, 2, none⟩ = some (.int .i64 0) := b1.out.cell 2
  have t3 : w1.cell? ⟨w.heap.size + 1 + 1, 3, none⟩ = some (.slice (some ⟨w.heap.size, 0, none⟩) 3 3) := b1.out.cell 3
  have t4 : w1.cell? ⟨w.heap.size + 1 + 1, 4, none⟩ = some (.slice (some ⟨w.heap.size + 1, 0, none⟩) 3 3) := b1.out.cell 4
  have t5 : w1.cell? ⟨w.heap.size + 1 + 1, 5, none⟩ = some (.slice none 0 0) := b1.out.cell 5
  clear x1 B1 K OF R1
  go_wp2_with (fail)
  refine (CN.out _ _ R2.out).mono ?_
  rintro e w2 ⟨rfl, x2⟩
  have X2 := Lib.hid (X1.out.tr x2)
  have F2 := Lib.hid (FB.out.ext x2)
  clear x2 X1 FB b1 R2 t0 t1 t2 t3 t4 t5 CN
  go_wp2_with (fail)
  refine (kind1_any _ g gk F2.out).mono ?_
  rintro e w3 ⟨rfl, x3⟩
  have X3 := Lib.hid (X2.out.tr x3)
  clear x3 X2
  go_wp2_with (fail)
  refine (kindn_any _).mono ?_
  rintro e w4 ⟨rfl, x4⟩
  have X4 := Lib.hid (X3.out.tr x4)
  clear x4 X3
  go_wp2_with (fail)
  go_ret
  exact ⟨rfl, X4.out⟩
end Go.Proofs.Ytleckhbmciiooaa
