/-
  The document's Times, of small numbers.
-/
import Derived.Test.YtpfdkocelmmllaaBigB
namespace Go.Proofs.Ytpfdkocelmmllaa
open Go.RowKit Go.ChangeShapes Go.WideShapes Go.ChangeAt Go.Deep

set_option maxRecDepth 100000 in
set_option maxHeartbeats 4000000 in
theorem times_any (a b p : Int) (w : World) (ha : 0 ≤ a ∧ a ≤ 2147483647) (hb : 0 ≤ b ∧ b ≤ 2147483647) (hp : p = a * b) :
    Calls Try.prog 157 #[bigV a 0, bigV b 0] w fun e w' => e = .returned (bigV (lowP p) (highP p)) ∧ Ext w w' := by
  have bp : 0 ≤ p ∧ p ≤ 4611686014132420609 := by rw [hp]; exact mul_bd ha.1 ha.2 hb.1 hb.2
  have hpb := parts_bd bp
  replace hp := Lib.hid hp
  have Y0 : Ext w ((((w.alloc (.cells (bigC a 0) 162)).alloc (.cells (bigC b 0) 162)).alloc (.cells (bigC 0 0) 162)).alloc (.cells (bigC 0 0) 162)) := ((((Ext.rf _).alloc _).alloc _).alloc _).alloc _
  have BA : Blk ((((w.alloc (.cells (bigC a 0) 162)).alloc (.cells (bigC b 0) 162)).alloc (.cells (bigC 0 0) 162)).alloc (.cells (bigC 0 0) 162)) w.heap.size 162 (bigC a 0) := .alloc (.alloc (.alloc (.new rfl) _) _) _
  have BB : Blk ((((w.alloc (.cells (bigC a 0) 162)).alloc (.cells (bigC b 0) 162)).alloc (.cells (bigC 0 0) 162)).alloc (.cells (bigC 0 0) 162)) (w.heap.size + 1) 162 (bigC b 0) := .alloc (.alloc (.new (by simp)) _) _
  have BR : Blk ((((w.alloc (.cells (bigC a 0) 162)).alloc (.cells (bigC b 0) 162)).alloc (.cells (bigC 0 0) 162)).alloc (.cells (bigC 0 0) 162)) (w.heap.size + 1 + 1) 162 (bigC 0 0) := .alloc (.new (by simp)) _
  have BC : Blk ((((w.alloc (.cells (bigC a 0) 162)).alloc (.cells (bigC b 0) 162)).alloc (.cells (bigC 0 0) 162)).alloc (.cells (bigC 0 0) 162)) (w.heap.size + 1 + 1 + 1) 162 (bigC 0 0) := .new (by simp)
  replace Y0 := Lib.hid Y0
  replace BA := Lib.hid BA
  replace BB := Lib.hid BB
  replace BR := Lib.hid BR
  replace BC := Lib.hid BC
  unfold bigV
  go_enter Try.func157, Try.ntmps157
  go_wp2_with (fail)
  go_loopw [6] (fun i wr => ∃ (n : Nat) (x y : Int), i = .int .i64 n ∧ n ≤ 4 ∧ Hid ((n = 0 ∧ x = 0 ∧ y = 0) ∨ (1 ≤ n ∧ x = lowP p ∧ y = highP p)) ∧ Ext w wr ∧ Hid (Blk wr w.heap.size 162 (bigC a 0)) ∧ Hid (Blk wr (w.heap.size + 1) 162 (bigC b 0)) ∧ Hid (Blk wr (w.heap.size + 1 + 1) 162 (bigC 0 0)) ∧ Hid (Blk wr (w.heap.size + 1 + 1 + 1) 162 (bigC x y))) (fun i _ => 4 - (intOf i).toNat)
  case atStart => exact ⟨0, 0, 0, rfl, by omega, .inl ⟨rfl, rfl, rfl⟩, Y0.out, BA, BB, BR, BC⟩
  case round =>
    obtain ⟨wo, rfl⟩ : ∃ wo : World, wo = wr := ⟨_, rfl⟩
    obtain ⟨n, x, y, rfl, hn, HS, Y, A1, B1, R1, C1⟩ := hrel
    by_cases hlt : n < 4
    · go_wp2_with (fail)
      go_loopw [7, 8] (fun o i wr => ∃ (k : Nat) (x y ov : Int), i = .int .i64 k ∧ o = .int .i64 ov ∧ k ≤ 4 ∧ Hid (MulAt p n k x y ov) ∧ Ext w wr ∧ Hid (Blk wr w.heap.size 162 (bigC a 0)) ∧ Hid (Blk wr (w.heap.size + 1) 162 (bigC b 0)) ∧ Hid (Blk wr (w.heap.size + 1 + 1) 162 (bigC 0 0)) ∧ Hid (Blk wr (w.heap.size + 1 + 1 + 1) 162 (bigC x y))) (fun _ i _ => 4 - (intOf i).toNat)
      case atStart =>
        refine ⟨0, x, y, 0, rfl, rfl, by omega, ?_, Y, A1, B1, R1, C1⟩
        rcases HS.out with ⟨h1, h2, h3⟩ | ⟨h1, h2, h3⟩
        · exact .inl ⟨h1, rfl, h2, h3, rfl⟩
        · exact .inr (.inr ⟨.inl h1, h2, h3, rfl⟩)
      case round =>
        obtain ⟨wq, rfl⟩ : ∃ wq : World, wq = wr := ⟨_, rfl⟩
        obtain ⟨k, x, y, ov, rfl, rfl, hk, HM, Y2, A2, B2, R2, C2⟩ := hrel
        by_cases hlk : k < 4
        · obtain ⟨c, m, s, sl, sh, x', y', hc, hm, hs, hsl, hsh, bc, bm, bo, hset, HM2⟩ := mul_step hp.out bp hlt hlk HM.out
          have gC := C2.out.cell (n + k)
          have gA := A2.out.cell n
          have gB := B2.out.cell k
          rw [bigC_get _ _ _ (by omega)] at gC gA gB
          rw [← hc] at gC
          have fC := C2.out.free (n + k)
          obtain ⟨av, hav⟩ : ∃ av, Hid (av = (if n = 0 then a else if n = 1 then 0 else 0)) := ⟨_, rfl⟩
          obtain ⟨bv, hbv⟩ : ∃ bv, Hid (bv = (if k = 0 then b else if k = 1 then 0 else 0)) := ⟨_, rfl⟩
          rw [← hav.out] at gA hm
          rw [← hbv.out] at gB hm
          have wm : Hid (IntKind.i64.wrap (av * bv) = m) := by
            have h : IntKind.i64.wrap (av * bv) = m := by rw [← hm]; exact IntWalk.i64_in _ (by omega)
            exact h
          have w1 : Hid (IntKind.i64.wrap (c + m) = c + m) := IntWalk.i64_in _ (by omega)
          have w2 : Hid (IntKind.i64.wrap (c + m + ov) = s) := by
            have h : IntKind.i64.wrap (c + m + ov) = s := by rw [hs]; exact IntWalk.i64_in _ (by omega)
            exact h
          have wn : Hid (IntKind.i64.wrap ((n : Int) + (k : Int)) = (n : Int) + (k : Int)) := IntWalk.i64_in _ (by omega)
          have ea : Hid (bits .and .i64 s 2147483647 = sl) := by
            have h : bits .and .i64 s 2147483647 = sl := by rw [i64_and31 s (by omega) (by omega), hsl]
            exact h
          have es : Hid (s / 2147483648 = sh) := hsh.symm
          have bs : 0 ≤ s ∧ s ≤ 9223372036854775807 := by omega
          have bsh : 0 ≤ sh ∧ sh ≤ 9223372036854775807 := by omega
          have q1 : (0 : Int) ≤ (n : Int) + (k : Int) := by omega
          have q2 : (n : Int) + (k : Int) < 9 := by omega
          have q3 : (n : Int) < 9 := by omega
          have q4 : (k : Int) < 9 := by omega
          replace hset := Lib.hid hset
          replace HM2 := Lib.hid HM2
          have zA := A2.out.lt
          have zB := B2.out.lt
          have zC := C2.out.lt
          clear hc hm hs hsl hsh bm bo
          have wn' := wn.out
          have wm' := wm.out
          have w1' := w1.out
          have w2' := w2.out
          have ea' := ea.out
          have es' := es.out
          go_wp2_with (go_quiet (fail))
          go_roundw
          case rel => exact ⟨k + 1, x', y', sh, by go_num, rfl, by omega, HM2, (Y2.drewN _).setNew (by simp <;> omega) _, (A2.out.drewN _).far (by simp <;> omega) _, (B2.out.drewN _).far (by simp <;> omega) _, (R2.out.drewN _).far (by simp <;> omega) _, by rw [← hset.out]; exact (C2.out.drewN _).set (n + k) _⟩
          case measure => simp [intOf]; omega
        · obtain rfl : k = 4 := by omega
          have HM4 : Hid (x = lowP p ∧ y = highP p ∧ ov = 0) := by
            rcases HM.out with ⟨_, h, _⟩ | ⟨_, h, _⟩ | ⟨_, h1, h2, h3⟩
            · omega
            · omega
            · exact ⟨h1, h2, h3⟩
          obtain ⟨rfl, rfl, rfl⟩ := HM4.out
          have gC := C2.out.cell (n + 4)
          rw [bigC_get _ _ _ (by omega), if_neg (by omega), if_neg (by omega)] at gC
          have fC := C2.out.free (n + 4)
          have q1 : (0 : Int) ≤ (n : Int) + 4 := by omega
          have q2 : (n : Int) + 4 < 9 := by omega
          have wn' : IntKind.i64.wrap ((n : Int) + 4) = (n : Int) + 4 := IntWalk.i64_in _ (by omega)
          have hset : Hid ((bigC (lowP p) (highP p)).setIfInBounds (n + 4) (.int .i64 0) = bigC (lowP p) (highP p)) := by
            have h := bigC_same (lowP p) (highP p) (n + 4) (by omega)
            rw [if_neg (by omega), if_neg (by omega)] at h
            exact h
          clear HM HM4
          go_wp2_with (fail)
          go_roundw
          case rel => exact ⟨n + 1, lowP p, highP p, by go_num, by omega, .inr ⟨by omega, rfl, rfl⟩, Y2.setNew (by simp <;> omega) _, A2.out.far (by simp <;> omega) _, B2.out.far (by simp <;> omega) _, R2.out.far (by simp <;> omega) _, by rw [← hset.out]; exact C2.out.set (n + 4) _⟩
          case measure => simp [intOf]; omega
    · obtain rfl : n = 4 := by omega
      have HS4 : Hid (x = lowP p ∧ y = highP p) := by
        rcases HS.out with ⟨h, _⟩ | ⟨_, h1, h2⟩
        · omega
        · exact ⟨h1, h2⟩
      obtain ⟨rfl, rfl⟩ := HS4.out
      clear HS HS4
      have c0 : wo.cell? ⟨w.heap.size + 1 + 1 + 1, 0, none⟩ = some (.int .i64 (lowP p)) := C1.out.cell 0
      have c1 : wo.cell? ⟨w.heap.size + 1 + 1 + 1, 1, none⟩ = some (.int .i64 (highP p)) := C1.out.cell 1
      have c2 : wo.cell? ⟨w.heap.size + 1 + 1 + 1, 2, none⟩ = some (.int .i64 0) := C1.out.cell 2
      have c3 : wo.cell? ⟨w.heap.size + 1 + 1 + 1, 3, none⟩ = some (.int .i64 0) := C1.out.cell 3
      have c4 : wo.cell? ⟨w.heap.size + 1 + 1 + 1, 4, none⟩ = some (.int .i64 0) := C1.out.cell 4
      have c5 : wo.cell? ⟨w.heap.size + 1 + 1 + 1, 5, none⟩ = some (.int .i64 0) := C1.out.cell 5
      have c6 : wo.cell? ⟨w.heap.size + 1 + 1 + 1, 6, none⟩ = some (.int .i64 0) := C1.out.cell 6
      have c7 : wo.cell? ⟨w.heap.size + 1 + 1 + 1, 7, none⟩ = some (.int .i64 0) := C1.out.cell 7
      have c8 : wo.cell? ⟨w.heap.size + 1 + 1 + 1, 8, none⟩ = some (.int .i64 0) := C1.out.cell 8
      have z0 : wo.cell? ⟨w.heap.size + 1 + 1, 0, none⟩ = some (.int .i64 0) := R1.out.cell 0
      have z1 : wo.cell? ⟨w.heap.size + 1 + 1, 1, none⟩ = some (.int .i64 0) := R1.out.cell 1
      have z2 : wo.cell? ⟨w.heap.size + 1 + 1, 2, none⟩ = some (.int .i64 0) := R1.out.cell 2
      have z3 : wo.cell? ⟨w.heap.size + 1 + 1, 3, none⟩ = some (.int .i64 0) := R1.out.cell 3
      have z4 : wo.cell? ⟨w.heap.size + 1 + 1, 4, none⟩ = some (.int .i64 0) := R1.out.cell 4
      have z5 : wo.cell? ⟨w.heap.size + 1 + 1, 5, none⟩ = some (.int .i64 0) := R1.out.cell 5
      have z6 : wo.cell? ⟨w.heap.size + 1 + 1, 6, none⟩ = some (.int .i64 0) := R1.out.cell 6
      have z7 : wo.cell? ⟨w.heap.size + 1 + 1, 7, none⟩ = some (.int .i64 0) := R1.out.cell 7
      have z8 : wo.cell? ⟨w.heap.size + 1 + 1, 8, none⟩ = some (.int .i64 0) := R1.out.cell 8
      have f0 : wo.frozen? ⟨w.heap.size + 1 + 1, 0, none⟩ = false := R1.out.free 0
      have f1 : wo.frozen? ⟨w.heap.size + 1 + 1, 1, none⟩ = false := R1.out.free 1
      have f2 : wo.frozen? ⟨w.heap.size + 1 + 1, 2, none⟩ = false := R1.out.free 2
      have f3 : wo.frozen? ⟨w.heap.size + 1 + 1, 3, none⟩ = false := R1.out.free 3
      have f4 : wo.frozen? ⟨w.heap.size + 1 + 1, 4, none⟩ = false := R1.out.free 4
      have f5 : wo.frozen? ⟨w.heap.size + 1 + 1, 5, none⟩ = false := R1.out.free 5
      have f6 : wo.frozen? ⟨w.heap.size + 1 + 1, 6, none⟩ = false := R1.out.free 6
      have f7 : wo.frozen? ⟨w.heap.size + 1 + 1, 7, none⟩ = false := R1.out.free 7
      have f8 : wo.frozen? ⟨w.heap.size + 1 + 1, 8, none⟩ = false := R1.out.free 8
      have Y9 := Lib.hid (setNine Y (g := w.heap.size + 1 + 1) (by omega) (.int .i64 (lowP p)) (.int .i64 (highP p)) (.int .i64 0) (.int .i64 0) (.int .i64 0) (.int .i64 0) (.int .i64 0) (.int .i64 0) (.int .i64 0))
      go_wp2_with (fail)
      exact bodyPost_ret (v := bigV (lowP p) (highP p)) (by simp [results, Try.results157, go_sem, bigV, *]) rfl ⟨rfl, Y9.out⟩
end Go.Proofs.Ytpfdkocelmmllaa
