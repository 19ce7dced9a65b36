/-
  The document's great numbers, of two parts: a number's size, a product, which is less, a difference.
  The document's great numbers: products of small numbers.
  The document's Times, of small numbers.
-/
import Derived.Test.YtpfdkocelmmllaaKnapLaw
namespace Go.Proofs.Ytpfdkocelmmllaa
open Go.RowKit Go.ChangeShapes Go.WideShapes Go.ChangeAt Go.Deep

/-- nine parts, of which but the two lowest are nought -/
def bigC (lo hi : Int) : Array Value := #[.int .i64 lo, .int .i64 hi, .int .i64 0, .int .i64 0, .int .i64 0, .int .i64 0, .int .i64 0, .int .i64 0, .int .i64 0]
def bigV (lo hi : Int) : Value := .agg #[.int .i64 lo, .int .i64 hi, .int .i64 0, .int .i64 0, .int .i64 0, .int .i64 0, .int .i64 0, .int .i64 0, .int .i64 0]
theorem bigC_get (lo hi : Int) (i : Nat) (hi9 : i < 9) : (bigC lo hi)[i]? = some (.int .i64 (if i = 0 then lo else if i = 1 then hi else 0)) := by
  unfold bigC
  match i, hi9 with
  | 0, _ => rfl
  | 1, _ => rfl
  | 2, _ => rfl
  | 3, _ => rfl
  | 4, _ => rfl
  | 5, _ => rfl
  | 6, _ => rfl
  | 7, _ => rfl
  | 8, _ => rfl
theorem setNine {w0 w : World} (x : Ext w0 w) {g : Nat} (hg : w0.heap.size ≤ g) (u0 u1 u2 u3 u4 u5 u6 u7 u8 : Value) :
    Ext w0 (((((((((w.setCell ⟨g, 0, none⟩ u0).setCell ⟨g, 1, none⟩ u1).setCell ⟨g, 2, none⟩ u2).setCell ⟨g, 3, none⟩ u3).setCell ⟨g, 4, none⟩ u4).setCell ⟨g, 5, none⟩ u5).setCell ⟨g, 6, none⟩ u6).setCell ⟨g, 7, none⟩ u7).setCell ⟨g, 8, none⟩ u8) :=
  ((((((((x.setNew (p := ⟨g, 0, none⟩) hg u0).setNew (p := ⟨g, 1, none⟩) hg u1).setNew (p := ⟨g, 2, none⟩) hg u2).setNew (p := ⟨g, 3, none⟩) hg u3).setNew (p := ⟨g, 4, none⟩) hg u4).setNew (p := ⟨g, 5, none⟩) hg u5).setNew (p := ⟨g, 6, none⟩) hg u6).setNew (p := ⟨g, 7, none⟩) hg u7).setNew (p := ⟨g, 8, none⟩) hg u8
theorem u64_and31 (x : Int) (h₀ : 0 ≤ x) (h₁ : x ≤ 2147483647) : bits .and .u64 x 2147483647 = x := by
  have h := bits_mask .u64 64 (by decide) wraps_u64 31 (by decide) x h₀ (by omega)
  have h' : bits .and .u64 x 2147483647 = x % 2147483648 := h
  rw [h']
  omega
set_option maxRecDepth 100000 in
set_option maxHeartbeats 2000000 in
theorem of_any (a : Int) (w : World) (h0 : 0 ≤ a) (h1 : a ≤ 2147483647) : Calls Try.prog 158 #[.int .i64 a] w fun e w' => e = .returned (bigV a 0) ∧ Ext w w' := by
  have na : decide (a < 0) = false := by simpa using h0
  have wa : IntKind.u64.wrap a = a := wraps_u64 _ h0 (by omega)
  have wi : IntKind.i64.wrap a = a := IntWalk.i64_in _ (by omega)
  have ba : bits .and .u64 a 2147483647 = a := u64_and31 a h0 h1
  have b0 : bits .and .u64 0 2147483647 = 0 := u64_and31 0 (by omega) (by omega)
  have da : a / 2147483648 = 0 := by omega
  replace wa := Lib.hid wa
  replace wi := Lib.hid wi
  replace ba := Lib.hid ba
  replace b0 := Lib.hid b0
  replace da := Lib.hid da
  have B1 : Hid (Blk ((w.alloc (.cells (bigC 0 0) 162)).alloc (.cells (bigC 0 0) 162)) (w.heap.size + 1) 162 (bigC 0 0)) := .new (by simp)
  have B0 : Hid (Blk ((w.alloc (.cells (bigC 0 0) 162)).alloc (.cells (bigC 0 0) 162)) w.heap.size 162 (bigC 0 0)) := .alloc (.new rfl) _
  have wa' := wa.out
  go_enter Try.func158, Try.ntmps158
  go_wp2_with (fail)
  have Y0 : Ext w ((w.alloc (.cells (bigC 0 0) 162)).alloc (.cells (bigC 0 0) 162)) := ((Ext.rf _).alloc _).alloc _
  go_loopw [4, 5] (fun u i wr => ∃ (k : Nat), i = .int .i64 k ∧ k ≤ 3 ∧ (k = 0 ∧ u = .int .u64 a ∧ Hid (Blk wr (w.heap.size + 1) 162 (bigC 0 0)) ∨ 1 ≤ k ∧ u = .int .u64 0 ∧ Hid (Blk wr (w.heap.size + 1) 162 (bigC a 0))) ∧ Hid (Blk wr w.heap.size 162 (bigC 0 0)) ∧ Ext w wr) (fun _ i _ => 3 - (intOf i).toNat)
  case atStart => exact ⟨0, rfl, by omega, .inl ⟨rfl, rfl, B1⟩, B0, Y0⟩
  case round =>
    obtain ⟨k, rfl, hk, hu, hZ, Y⟩ := hrel
    obtain ⟨rfl, rfl, hB⟩ | ⟨rfl, rfl, hB⟩ | ⟨rfl, rfl, hB⟩ | ⟨rfl, rfl, hB⟩ : (k = 0 ∧ _ = Value.int .u64 a ∧ Hid (Blk wr (w.heap.size + 1) 162 (bigC 0 0))) ∨ (k = 1 ∧ _ = Value.int .u64 0 ∧ Hid (Blk wr (w.heap.size + 1) 162 (bigC a 0))) ∨ (k = 2 ∧ _ = Value.int .u64 0 ∧ Hid (Blk wr (w.heap.size + 1) 162 (bigC a 0))) ∨ (k = 3 ∧ _ = Value.int .u64 0 ∧ Hid (Blk wr (w.heap.size + 1) 162 (bigC a 0))) := by
      rcases hu with h | ⟨h1, h2, h3⟩
      · exact .inl h
      · obtain rfl | rfl | rfl : k = 1 ∨ k = 2 ∨ k = 3 := by omega
        · exact .inr (.inl ⟨rfl, h2, h3⟩)
        · exact .inr (.inr (.inl ⟨rfl, h2, h3⟩))
        · exact .inr (.inr (.inr ⟨rfl, h2, h3⟩))
    · -- round 0
      have c := hB.out.cell 0
      have f := hB.out.free 0
      have zg := hB.out.lt
      have c' : wr.cell? ⟨w.heap.size + 1, 0, none⟩ = some (.int .i64 0) := c
      have hN : Hid (Blk (wr.setCell ⟨w.heap.size + 1, 0, none⟩ (.int .i64 a)) (w.heap.size + 1) 162 (bigC a 0)) := hB.out.set 0 _
      have hN0 : Hid (Blk (wr.setCell ⟨w.heap.size + 1, 0, none⟩ (.int .i64 a)) w.heap.size 162 (bigC 0 0)) := hZ.out.far (by simp) _
      have yN := Lib.hid (Y.setNew (p := ⟨w.heap.size + 1, 0, none⟩) (by simp) (.int .i64 a))
      clear c
      have wi' := wi.out
      have ba' := ba.out
      have da' := da.out
      go_wp2
      go_roundw
      case rel => exact ⟨1, by go_num, by omega, .inr ⟨by omega, rfl, hN⟩, hN0, yN.out⟩
      case measure => simp [intOf]
    · -- round 1
      have c := hB.out.cell 1
      have f := hB.out.free 1
      have zg := hB.out.lt
      have c' : wr.cell? ⟨w.heap.size + 1, 1, none⟩ = some (.int .i64 0) := c
      have hN : Hid (Blk (wr.setCell ⟨w.heap.size + 1, 1, none⟩ (.int .i64 0)) (w.heap.size + 1) 162 (bigC a 0)) := hB.out.set 1 _
      have hN0 : Hid (Blk (wr.setCell ⟨w.heap.size + 1, 1, none⟩ (.int .i64 0)) w.heap.size 162 (bigC 0 0)) := hZ.out.far (by simp) _
      have yN := Lib.hid (Y.setNew (p := ⟨w.heap.size + 1, 1, none⟩) (by simp) (.int .i64 0))
      clear c
      have b0' := b0.out
      have w0' : IntKind.i64.wrap 0 = 0 := IntWalk.i64_in _ (by omega)
      go_wp2
      go_roundw
      case rel => exact ⟨2, by go_num, by omega, .inr ⟨by omega, rfl, hN⟩, hN0, yN.out⟩
      case measure => simp [intOf]
    · -- round 2
      have c := hB.out.cell 2
      have f := hB.out.free 2
      have zg := hB.out.lt
      have c' : wr.cell? ⟨w.heap.size + 1, 2, none⟩ = some (.int .i64 0) := c
      have hN : Hid (Blk (wr.setCell ⟨w.heap.size + 1, 2, none⟩ (.int .i64 0)) (w.heap.size + 1) 162 (bigC a 0)) := hB.out.set 2 _
      have hN0 : Hid (Blk (wr.setCell ⟨w.heap.size + 1, 2, none⟩ (.int .i64 0)) w.heap.size 162 (bigC 0 0)) := hZ.out.far (by simp) _
      have yN := Lib.hid (Y.setNew (p := ⟨w.heap.size + 1, 2, none⟩) (by simp) (.int .i64 0))
      clear c
      have b0' := b0.out
      have w0' : IntKind.i64.wrap 0 = 0 := IntWalk.i64_in _ (by omega)
      go_wp2
      go_roundw
      case rel => exact ⟨3, by go_num, by omega, .inr ⟨by omega, rfl, hN⟩, hN0, yN.out⟩
      case measure => simp [intOf]
    · have c0 : wr.cell? ⟨w.heap.size + 1, 0, none⟩ = some (.int .i64 a) := hB.out.cell 0
      have c1 : wr.cell? ⟨w.heap.size + 1, 1, none⟩ = some (.int .i64 0) := hB.out.cell 1
      have c2 : wr.cell? ⟨w.heap.size + 1, 2, none⟩ = some (.int .i64 0) := hB.out.cell 2
      have c3 : wr.cell? ⟨w.heap.size + 1, 3, none⟩ = some (.int .i64 0) := hB.out.cell 3
      have c4 : wr.cell? ⟨w.heap.size + 1, 4, none⟩ = some (.int .i64 0) := hB.out.cell 4
      have c5 : wr.cell? ⟨w.heap.size + 1, 5, none⟩ = some (.int .i64 0) := hB.out.cell 5
      have c6 : wr.cell? ⟨w.heap.size + 1, 6, none⟩ = some (.int .i64 0) := hB.out.cell 6
      have c7 : wr.cell? ⟨w.heap.size + 1, 7, none⟩ = some (.int .i64 0) := hB.out.cell 7
      have c8 : wr.cell? ⟨w.heap.size + 1, 8, none⟩ = some (.int .i64 0) := hB.out.cell 8
      have z0 : wr.cell? ⟨w.heap.size, 0, none⟩ = some (.int .i64 0) := hZ.out.cell 0
      have z1 : wr.cell? ⟨w.heap.size, 1, none⟩ = some (.int .i64 0) := hZ.out.cell 1
      have z2 : wr.cell? ⟨w.heap.size, 2, none⟩ = some (.int .i64 0) := hZ.out.cell 2
      have z3 : wr.cell? ⟨w.heap.size, 3, none⟩ = some (.int .i64 0) := hZ.out.cell 3
      have z4 : wr.cell? ⟨w.heap.size, 4, none⟩ = some (.int .i64 0) := hZ.out.cell 4
      have z5 : wr.cell? ⟨w.heap.size, 5, none⟩ = some (.int .i64 0) := hZ.out.cell 5
      have z6 : wr.cell? ⟨w.heap.size, 6, none⟩ = some (.int .i64 0) := hZ.out.cell 6
      have z7 : wr.cell? ⟨w.heap.size, 7, none⟩ = some (.int .i64 0) := hZ.out.cell 7
      have z8 : wr.cell? ⟨w.heap.size, 8, none⟩ = some (.int .i64 0) := hZ.out.cell 8
      have f0 : wr.frozen? ⟨w.heap.size, 0, none⟩ = false := hZ.out.free 0
      have f1 : wr.frozen? ⟨w.heap.size, 1, none⟩ = false := hZ.out.free 1
      have f2 : wr.frozen? ⟨w.heap.size, 2, none⟩ = false := hZ.out.free 2
      have f3 : wr.frozen? ⟨w.heap.size, 3, none⟩ = false := hZ.out.free 3
      have f4 : wr.frozen? ⟨w.heap.size, 4, none⟩ = false := hZ.out.free 4
      have f5 : wr.frozen? ⟨w.heap.size, 5, none⟩ = false := hZ.out.free 5
      have f6 : wr.frozen? ⟨w.heap.size, 6, none⟩ = false := hZ.out.free 6
      have f7 : wr.frozen? ⟨w.heap.size, 7, none⟩ = false := hZ.out.free 7
      have f8 : wr.frozen? ⟨w.heap.size, 8, none⟩ = false := hZ.out.free 8
      have Y9 := Lib.hid (setNine Y (g := w.heap.size) (Nat.le_refl _) (.int .i64 a) (.int .i64 0) (.int .i64 0) (.int .i64 0) (.int .i64 0) (.int .i64 0) (.int .i64 0) (.int .i64 0) (.int .i64 0))
      go_wp2
      exact bodyPost_ret (v := bigV a 0) (by simp [results, Try.results158, go_sem, bigV, *]) rfl ⟨rfl, Y9.out⟩
end Go.Proofs.Ytpfdkocelmmllaa
namespace Go.Proofs.Ytpfdkocelmmllaa
open Go.RowKit Go.ChangeShapes Go.WideShapes Go.ChangeAt Go.Deep

theorem i64_and31 (x : Int) (h₀ : 0 ≤ x) (h₁ : x ≤ 9223372036854775807) : bits .and .i64 x 2147483647 = x % 2147483648 :=
  bits_mask .i64 63 (by decide) (fun n h0 h1 => IntWalk.i64_in n (by omega)) 31 (by decide) x h₀ (by omega)
/-- what a product's parts are -/
def lowP (p : Int) : Int := p % 2147483648
def highP (p : Int) : Int := p / 2147483648
theorem parts_bd {p : Int} (h : 0 ≤ p ∧ p ≤ 4611686014132420609) : 0 ≤ lowP p ∧ lowP p ≤ 2147483647 ∧ 0 ≤ highP p ∧ highP p ≤ 2147483647 := by
  unfold lowP highP; omega
theorem bigC_same (x y : Int) (i : Nat) (h : i < 9) : (bigC x y).setIfInBounds i (.int .i64 (if i = 0 then x else if i = 1 then y else 0)) = bigC x y := by
  match i, h with
  | 0, _ => rfl
  | 1, _ => rfl
  | 2, _ => rfl
  | 3, _ => rfl
  | 4, _ => rfl
  | 5, _ => rfl
  | 6, _ => rfl
  | 7, _ => rfl
  | 8, _ => rfl
/-- where the multiplying stands -/
def MulAt (p : Int) (i k : Nat) (x y ov : Int) : Prop := (i = 0 ∧ k = 0 ∧ x = 0 ∧ y = 0 ∧ ov = 0) ∨ (i = 0 ∧ k = 1 ∧ x = lowP p ∧ y = 0 ∧ ov = highP p) ∨ ((1 ≤ i ∨ 2 ≤ k) ∧ x = lowP p ∧ y = highP p ∧ ov = 0)
/-- one step of it -/
theorem mul_step {a b p : Int} (hp : p = a * b) (bp : 0 ≤ p ∧ p ≤ 4611686014132420609) {i k : Nat} {x y ov : Int} (hi : i < 4) (hk : k < 4) (h : MulAt p i k x y ov) :
    ∃ c m s sl sh x' y' : Int, c = (if i + k = 0 then x else if i + k = 1 then y else 0) ∧ m = (if i = 0 then a else if i = 1 then 0 else 0) * (if k = 0 then b else if k = 1 then 0 else 0) ∧ s = c + m + ov ∧ sl = s % 2147483648 ∧ sh = s / 2147483648 ∧
      (0 ≤ c ∧ c ≤ 2147483647) ∧ (0 ≤ m ∧ m ≤ 4611686014132420609) ∧ (0 ≤ ov ∧ ov ≤ 2147483647) ∧ (bigC x y).setIfInBounds (i + k) (.int .i64 sl) = bigC x' y' ∧ MulAt p i (k + 1) x' y' sh := by
  have hb := parts_bd bp
  rcases h with ⟨rfl, rfl, rfl, rfl, rfl⟩ | ⟨rfl, rfl, rfl, rfl, rfl⟩ | ⟨h, rfl, rfl, rfl⟩
  · refine ⟨0, p, p, lowP p, highP p, lowP p, 0, rfl, by simpa using hp, by omega, rfl, rfl, by omega, bp, by omega, rfl, .inr (.inl ⟨rfl, rfl, rfl, rfl, rfl⟩)⟩
  · refine ⟨0, 0, highP p, highP p, 0, lowP p, highP p, rfl, by simp, by omega, by omega, by omega, by omega, by omega, by omega, rfl, .inr (.inr ⟨by omega, rfl, rfl, rfl⟩)⟩
  · refine ⟨(if i + k = 0 then lowP p else if i + k = 1 then highP p else 0), 0, _, (if i + k = 0 then lowP p else if i + k = 1 then highP p else 0), 0, lowP p, highP p, rfl, ?_, rfl, ?_, ?_, ?_, by omega, by omega, bigC_same _ _ _ (by omega), .inr (.inr ⟨by omega, rfl, rfl, rfl⟩)⟩
    · rcases h with h | h
      · rw [if_neg (show ¬ i = 0 by omega)]
        split <;> simp
      · rw [if_neg (show ¬ k = 0 by omega)]
        split <;> (split <;> simp)
    · split
      · omega
      · split <;> omega
    · split
      · omega
      · split <;> omega
    · split
      · omega
      · split <;> omega
end Go.Proofs.Ytpfdkocelmmllaa
namespace Go.Proofs.Ytpfdkocelmmllaa
open Go.RowKit Go.ChangeShapes Go.WideShapes Go.ChangeAt Go.Deep

set_option maxRecDepth 100000 in
set_option maxHeartbeats 4000000 in
theorem times_any (a b p : Int) (w : World) (ha : 0 ≤ a ∧ a ≤ 2147483647) (hb : 0 ≤ b ∧ b ≤ 2147483647) (hp : p = a * b) :
    Calls Try.prog 157 #[bigV a 0, bigV b 0] w fun e w' => e = .returned (bigV (lowP p) (highP p)) ∧ Ext w w' := by
  have bp : 0 ≤ p ∧ p ≤ 4611686014132420609 := by rw [hp]; exact mul_bd ha.1 ha.2 hb.1 hb.2
  have hpb := parts_bd bp
  replace hp := Lib.hid hp
  have Y0 : Ext w ((((w.alloc (.cells (bigC a 0) 162)).alloc (.cells (bigC b 0) 162)).alloc (.cells (bigC 0 0) 162)).alloc (.cells (bigC 0 0) 162)) := ((((Ext.rf _).alloc _).alloc _).alloc _).alloc _
  have BA : Blk ((((w.alloc (.cells (bigC a 0) 162)).alloc (.cells (bigC b 0) 162)).alloc (.cells (bigC 0 0) 162)).alloc (.cells (bigC 0 0) 162)) w.heap.size 162 (bigC a 0) := .alloc (.alloc (.alloc (.new rfl) _) _) _
  have BB : Blk ((((w.alloc (.cells (bigC a 0) 162)).alloc (.cells (bigC b 0) 162)).alloc (.cells (bigC 0 0) 162)).alloc (.cells (bigC 0 0) 162)) (w.heap.size + 1) 162 (bigC b 0) := .alloc (.alloc (.new (by simp)) _) _
  have BR : Blk ((((w.alloc (.cells (bigC a 0) 162)).alloc (.cells (bigC b 0) 162)).alloc (.cells (bigC 0 0) 162)).alloc (.cells (bigC 0 0) 162)) (w.heap.size + 1 + 1) 162 (bigC 0 0) := .alloc (.new (by simp)) _
  have BC : Blk ((((w.alloc (.cells (bigC a 0) 162)).alloc (.cells (bigC b 0) 162)).alloc (.cells (bigC 0 0) 162)).alloc (.cells (bigC 0 0) 162)) (w.heap.size + 1 + 1 + 1) 162 (bigC 0 0) := .new (by simp)
  replace Y0 := Lib.hid Y0
  replace BA := Lib.hid BA
  replace BB := Lib.hid BB
  replace BR := Lib.hid BR
  replace BC := Lib.hid BC
  unfold bigV
  go_enter Try.func157, Try.ntmps157
  go_wp2_with (fail)
  go_loopw [6] (fun i wr => ∃ (n : Nat) (x y : Int), i = .int .i64 n ∧ n ≤ 4 ∧ Hid ((n = 0 ∧ x = 0 ∧ y = 0) ∨ (1 ≤ n ∧ x = lowP p ∧ y = highP p)) ∧ Ext w wr ∧ Hid (Blk wr w.heap.size 162 (bigC a 0)) ∧ Hid (Blk wr (w.heap.size + 1) 162 (bigC b 0)) ∧ Hid (Blk wr (w.heap.size + 1 + 1) 162 (bigC 0 0)) ∧ Hid (Blk wr (w.heap.size + 1 + 1 + 1) 162 (bigC x y))) (fun i _ => 4 - (intOf i).toNat)
  case atStart => exact ⟨0, 0, 0, rfl, by omega, .inl ⟨rfl, rfl, rfl⟩, Y0.out, BA, BB, BR, BC⟩
  case round =>
    obtain ⟨wo, rfl⟩ : ∃ wo : World, wo = wr := ⟨_, rfl⟩
    obtain ⟨n, x, y, rfl, hn, HS, Y, A1, B1, R1, C1⟩ := hrel
    by_cases hlt : n < 4
    · go_wp2_with (fail)
      go_loopw [7, 8] (fun o i wr => ∃ (k : Nat) (x y ov : Int), i = .int .i64 k ∧ o = .int .i64 ov ∧ k ≤ 4 ∧ Hid (MulAt p n k x y ov) ∧ Ext w wr ∧ Hid (Blk wr w.heap.size 162 (bigC a 0)) ∧ Hid (Blk wr (w.heap.size + 1) 162 (bigC b 0)) ∧ Hid (Blk wr (w.heap.size + 1 + 1) 162 (bigC 0 0)) ∧ Hid (Blk wr (w.heap.size + 1 + 1 + 1) 162 (bigC x y))) (fun _ i _ => 4 - (intOf i).toNat)
      case atStart =>
        refine ⟨0, x, y, 0, rfl, rfl, by omega, ?_, Y, A1, B1, R1, C1⟩
        rcases HS.out with ⟨h1, h2, h3⟩ | ⟨h1, h2, h3⟩
        · exact .inl ⟨h1, rfl, h2, h3, rfl⟩
        · exact .inr (.inr ⟨.inl h1, h2, h3, rfl⟩)
      case round =>
        obtain ⟨wq, rfl⟩ : ∃ wq : World, wq = wr := ⟨_, rfl⟩
        obtain ⟨k, x, y, ov, rfl, rfl, hk, HM, Y2, A2, B2, R2, C2⟩ := hrel
        by_cases hlk : k < 4
        · obtain ⟨c, m, s, sl, sh, x', y', hc, hm, hs, hsl, hsh, bc, bm, bo, hset, HM2⟩ := mul_step hp.out bp hlt hlk HM.out
          have gC := C2.out.cell (n + k)
          have gA := A2.out.cell n
          have gB := B2.out.cell k
          rw [bigC_get _ _ _ (by omega)] at gC gA gB
          rw [← hc] at gC
          have fC := C2.out.free (n + k)
          obtain ⟨av, hav⟩ : ∃ av, Hid (av = (if n = 0 then a else if n = 1 then 0 else 0)) := ⟨_, rfl⟩
          obtain ⟨bv, hbv⟩ : ∃ bv, Hid (bv = (if k = 0 then b else if k = 1 then 0 else 0)) := ⟨_, rfl⟩
          rw [← hav.out] at gA hm
          rw [← hbv.out] at gB hm
          have wm : Hid (IntKind.i64.wrap (av * bv) = m) := by
            have h : IntKind.i64.wrap (av * bv) = m := by rw [← hm]; exact IntWalk.i64_in _ (by omega)
            exact h
          have w1 : Hid (IntKind.i64.wrap (c + m) = c + m) := IntWalk.i64_in _ (by omega)
          have w2 : Hid (IntKind.i64.wrap (c + m + ov) = s) := by
            have h : IntKind.i64.wrap (c + m + ov) = s := by rw [hs]; exact IntWalk.i64_in _ (by omega)
            exact h
          have wn : Hid (IntKind.i64.wrap ((n : Int) + (k : Int)) = (n : Int) + (k : Int)) := IntWalk.i64_in _ (by omega)
          have ea : Hid (bits .and .i64 s 2147483647 = sl) := by
            have h : bits .and .i64 s 2147483647 = sl := by rw [i64_and31 s (by omega) (by omega), hsl]
            exact h
          have es : Hid (s / 2147483648 = sh) := hsh.symm
          have bs : 0 ≤ s ∧ s ≤ 9223372036854775807 := by omega
          have bsh : 0 ≤ sh ∧ sh ≤ 9223372036854775807 := by omega
          have q1 : (0 : Int) ≤ (n : Int) + (k : Int) := by omega
          have q2 : (n : Int) + (k : Int) < 9 := by omega
          have q3 : (n : Int) < 9 := by omega
          have q4 : (k : Int) < 9 := by omega
          replace hset := Lib.hid hset
          replace HM2 := Lib.hid HM2
          have zA := A2.out.lt
          have zB := B2.out.lt
          have zC := C2.out.lt
          clear hc hm hs hsl hsh bm bo
          have wn' := wn.out
          have wm' := wm.out
          have w1' := w1.out
          have w2' := w2.out
          have ea' := ea.out
          have es' := es.out
          go_wp2_with (go_quiet (fail))
          go_roundw
          case rel => exact ⟨k + 1, x', y', sh, by go_num, rfl, by omega, HM2, (Y2.drewN _).setNew (by simp <;> omega) _, (A2.out.drewN _).far (by simp <;> omega) _, (B2.out.drewN _).far (by simp <;> omega) _, (R2.out.drewN _).far (by simp <;> omega) _, by rw [← hset.out]; exact (C2.out.drewN _).set (n + k) _⟩
          case measure => simp [intOf]; omega
        · obtain rfl : k = 4 := by omega
          have HM4 : Hid (x = lowP p ∧ y = highP p ∧ ov = 0) := by
            rcases HM.out with ⟨_, h, _⟩ | ⟨_, h, _⟩ | ⟨_, h1, h2, h3⟩
            · omega
            · omega
            · exact ⟨h1, h2, h3⟩
          obtain ⟨rfl, rfl, rfl⟩ := HM4.out
          have gC := C2.out.cell (n + 4)
          rw [bigC_get _ _ _ (by omega), if_neg (by omega), if_neg (by omega)] at gC
          have fC := C2.out.free (n + 4)
          have q1 : (0 : Int) ≤ (n : Int) + 4 := by omega
          have q2 : (n : Int) + 4 < 9 := by omega
          have wn' : IntKind.i64.wrap ((n : Int) + 4) = (n : Int) + 4 := IntWalk.i64_in _ (by omega)
          have hset : Hid ((bigC (lowP p) (highP p)).setIfInBounds (n + 4) (.int .i64 0) = bigC (lowP p) (highP p)) := by
            have h := bigC_same (lowP p) (highP p) (n + 4) (by omega)
            rw [if_neg (by omega), if_neg (by omega)] at h
            exact h
          clear HM HM4
          go_wp2_with (fail)
          go_roundw
          case rel => exact ⟨n + 1, lowP p, highP p, by go_num, by omega, .inr ⟨by omega, rfl, rfl⟩, Y2.setNew (by simp <;> omega) _, A2.out.far (by simp <;> omega) _, B2.out.far (by simp <;> omega) _, R2.out.far (by simp <;> omega) _, by rw [← hset.out]; exact C2.out.set (n + 4) _⟩
          case measure => simp [intOf]; omega
    · obtain rfl : n = 4 := by omega
      have HS4 : Hid (x = lowP p ∧ y = highP p) := by
        rcases HS.out with ⟨h, _⟩ | ⟨_, h1, h2⟩
        · omega
        · exact ⟨h1, h2⟩
      obtain ⟨rfl, rfl⟩ := HS4.out
      clear HS HS4
      have c0 : wo.cell? ⟨w.heap.size + 1 + 1 + 1, 0, none⟩ = some (.int .i64 (lowP p)) := C1.out.cell 0
      have c1 : wo.cell? ⟨w.heap.size + 1 + 1 + 1, 1, none⟩ = some (.int .i64 (highP p)) := C1.out.cell 1
      have c2 : wo.cell? ⟨w.heap.size + 1 + 1 + 1, 2, none⟩ = some (.int .i64 0) := C1.out.cell 2
      have c3 : wo.cell? ⟨w.heap.size + 1 + 1 + 1, 3, none⟩ = some (.int .i64 0) := C1.out.cell 3
      have c4 : wo.cell? ⟨w.heap.size + 1 + 1 + 1, 4, none⟩ = some (.int .i64 0) := C1.out.cell 4
      have c5 : wo.cell? ⟨w.heap.size + 1 + 1 + 1, 5, none⟩ = some (.int .i64 0) := C1.out.cell 5
      have c6 : wo.cell? ⟨w.heap.size + 1 + 1 + 1, 6, none⟩ = some (.int .i64 0) := C1.out.cell 6
      have c7 : wo.cell? ⟨w.heap.size + 1 + 1 + 1, 7, none⟩ = some (.int .i64 0) := C1.out.cell 7
      have c8 : wo.cell? ⟨w.heap.size + 1 + 1 + 1, 8, none⟩ = some (.int .i64 0) := C1.out.cell 8
      have z0 : wo.cell? ⟨w.heap.size + 1 + 1, 0, none⟩ = some (.int .i64 0) := R1.out.cell 0
      have z1 : wo.cell? ⟨w.heap.size + 1 + 1, 1, none⟩ = some (.int .i64 0) := R1.out.cell 1
      have z2 : wo.cell? ⟨w.heap.size + 1 + 1, 2, none⟩ = some (.int .i64 0) := R1.out.cell 2
      have z3 : wo.cell? ⟨w.heap.size + 1 + 1, 3, none⟩ = some (.int .i64 0) := R1.out.cell 3
      have z4 : wo.cell? ⟨w.heap.size + 1 + 1, 4, none⟩ = some (.int .i64 0) := R1.out.cell 4
      have z5 : wo.cell? ⟨w.heap.size + 1 + 1, 5, none⟩ = some (.int .i64 0) := R1.out.cell 5
      have z6 : wo.cell? ⟨w.heap.size + 1 + 1, 6, none⟩ = some (.int .i64 0) := R1.out.cell 6
      have z7 : wo.cell? ⟨w.heap.size + 1 + 1, 7, none⟩ = some (.int .i64 0) := R1.out.cell 7
      have z8 : wo.cell? ⟨w.heap.size + 1 + 1, 8, none⟩ = some (.int .i64 0) := R1.out.cell 8
      have f0 : wo.frozen? ⟨w.heap.size + 1 + 1, 0, none⟩ = false := R1.out.free 0
      have f1 : wo.frozen? ⟨w.heap.size + 1 + 1, 1, none⟩ = false := R1.out.free 1
      have f2 : wo.frozen? ⟨w.heap.size + 1 + 1, 2, none⟩ = false := R1.out.free 2
      have f3 : wo.frozen? ⟨w.heap.size + 1 + 1, 3, none⟩ = false := R1.out.free 3
      have f4 : wo.frozen? ⟨w.heap.size + 1 + 1, 4, none⟩ = false := R1.out.free 4
      have f5 : wo.frozen? ⟨w.heap.size + 1 + 1, 5, none⟩ = false := R1.out.free 5
      have f6 : wo.frozen? ⟨w.heap.size + 1 + 1, 6, none⟩ = false := R1.out.free 6
      have f7 : wo.frozen? ⟨w.heap.size + 1 + 1, 7, none⟩ = false := R1.out.free 7
      have f8 : wo.frozen? ⟨w.heap.size + 1 + 1, 8, none⟩ = false := R1.out.free 8
      have Y9 := Lib.hid (setNine Y (g := w.heap.size + 1 + 1) (by omega) (.int .i64 (lowP p)) (.int .i64 (highP p)) (.int .i64 0) (.int .i64 0) (.int .i64 0) (.int .i64 0) (.int .i64 0) (.int .i64 0) (.int .i64 0))
      go_wp2_with (fail)
      exact bodyPost_ret (v := bigV (lowP p) (highP p)) (by simp [results, Try.results157, go_sem, bigV, *]) rfl ⟨rfl, Y9.out⟩
end Go.Proofs.Ytpfdkocelmmllaa
