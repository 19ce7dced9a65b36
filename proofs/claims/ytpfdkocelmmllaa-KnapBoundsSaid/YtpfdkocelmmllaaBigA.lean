/-
  The document's great numbers, of two parts: a number's size, a product, which is less, a difference.
-/
import Derived.Test.YtpfdkocelmmllaaKnapLaw
namespace Go.Proofs.Ytpfdkocelmmllaa
open Go.RowKit Go.ChangeShapes Go.WideShapes Go.ChangeAt Go.Deep

/-- nine parts, of which but the two lowest are nought -/
def bigC (lo hi : Int) : Array Value := #[.int .i64 lo, .int .i64 hi, .int .i64 0, .int .i64 0, .int .i64 0, .int .i64 0, .int .i64 0, .int .i64 0, .int .i64 0]
def bigV (lo hi : Int) : Value := .agg #[.int .i64 lo, .int .i64 hi, .int .i64 0, .int .i64 0, .int .i64 0, .int .i64 0, .int .i64 0, .int .i64 0, .int .i64 0]
theorem bigC_get (lo hi : Int) (i : Nat) (hi9 : i < 9) : (bigC lo hi)[i]? = some (.int .i64 (if i = 0 then lo else if i = 1 then hi else 0)) := by
  unfold bigC
  match i, hi9 with
  | 0, _ => rfl
  | 1, _ => rfl
  | 2, _ => rfl
  | 3, _ => rfl
  | 4, _ => rfl
  | 5, _ => rfl
  | 6, _ => rfl
  | 7, _ => rfl
  | 8, _ => rfl
theorem setNine {w0 w : World} (x : Ext w0 w) {g : Nat} (hg : w0.heap.size ≤ g) (u0 u1 u2 u3 u4 u5 u6 u7 u8 : Value) :
    Ext w0 (((((((((w.setCell ⟨g, 0, none⟩ u0).setCell ⟨g, 1, none⟩ u1).setCell ⟨g, 2, none⟩ u2).setCell ⟨g, 3, none⟩ u3).setCell ⟨g, 4, none⟩ u4).setCell ⟨g, 5, none⟩ u5).setCell ⟨g, 6, none⟩ u6).setCell ⟨g, 7, none⟩ u7).setCell ⟨g, 8, none⟩ u8) :=
  ((((((((x.setNew (p := ⟨g, 0, none⟩) hg u0).setNew (p := ⟨g, 1, none⟩) hg u1).setNew (p := ⟨g, 2, none⟩) hg u2).setNew (p := ⟨g, 3, none⟩) hg u3).setNew (p := ⟨g, 4, none⟩) hg u4).setNew (p := ⟨g, 5, none⟩) hg u5).setNew (p := ⟨g, 6, none⟩) hg u6).setNew (p := ⟨g, 7, none⟩) hg u7).setNew (p := ⟨g, 8, none⟩) hg u8
theorem u64_and31 (x : Int) (h₀ : 0 ≤ x) (h₁ : x ≤ 2147483647) : bits .and .u64 x 2147483647 = x := by
  have h := bits_mask .u64 64 (by decide) wraps_u64 31 (by decide) x h₀ (by omega)
  have h' : bits .and .u64 x 2147483647 = x % 2147483648 := h
  rw [h']
  omega
set_option maxRecDepth 100000 in
set_option maxHeartbeats 2000000 in
theorem of_any (a : Int) (w : World) (h0 : 0 ≤ a) (h1 : a ≤ 2147483647) : Calls Try.prog 158 #[.int .i64 a] w fun e w' => e = .returned (bigV a 0) ∧ Ext w w' := by
  have na : decide (a < 0) = false := by simpa using h0
  have wa : IntKind.u64.wrap a = a := wraps_u64 _ h0 (by omega)
  have wi : IntKind.i64.wrap a = a := IntWalk.i64_in _ (by omega)
  have ba : bits .and .u64 a 2147483647 = a := u64_and31 a h0 h1
  have b0 : bits .and .u64 0 2147483647 = 0 := u64_and31 0 (by omega) (by omega)
  have da : a / 2147483648 = 0 := by omega
  replace wa := Lib.hid wa
  replace wi := Lib.hid wi
  replace ba := Lib.hid ba
  replace b0 := Lib.hid b0
  replace da := Lib.hid da
  have B1 : Hid (Blk ((w.alloc (.cells (bigC 0 0) 162)).alloc (.cells (bigC 0 0) 162)) (w.heap.size + 1) 162 (bigC 0 0)) := .new (by simp)
  have B0 : Hid (Blk ((w.alloc (.cells (bigC 0 0) 162)).alloc (.cells (bigC 0 0) 162)) w.heap.size 162 (bigC 0 0)) := .alloc (.new rfl) _
  have wa' := wa.out
  go_enter Try.func158, Try.ntmps158
  go_wp2_with (fail)
  have Y0 : Ext w ((w.alloc (.cells (bigC 0 0) 162)).alloc (.cells (bigC 0 0) 162)) := ((Ext.rf _).alloc _).alloc _
  go_loopw [4, 5] (fun u i wr => ∃ (k : Nat), i = .int .i64 k ∧ k ≤ 3 ∧ (k = 0 ∧ u = .int .u64 a ∧ Hid (Blk wr (w.heap.size + 1) 162 (bigC 0 0)) ∨ 1 ≤ k ∧ u = .int .u64 0 ∧ Hid (Blk wr (w.heap.size + 1) 162 (bigC a 0))) ∧ Hid (Blk wr w.heap.size 162 (bigC 0 0)) ∧ Ext w wr) (fun _ i _ => 3 - (intOf i).toNat)
  case atStart => exact ⟨0, rfl, by omega, .inl ⟨rfl, rfl, B1⟩, B0, Y0⟩
  case round =>
    obtain ⟨k, rfl, hk, hu, hZ, Y⟩ := hrel
    obtain ⟨rfl, rfl, hB⟩ | ⟨rfl, rfl, hB⟩ | ⟨rfl, rfl, hB⟩ | ⟨rfl, rfl, hB⟩ : (k = 0 ∧ _ = Value.int .u64 a ∧ Hid (Blk wr (w.heap.size + 1) 162 (bigC 0 0))) ∨ (k = 1 ∧ _ = Value.int .u64 0 ∧ Hid (Blk wr (w.heap.size + 1) 162 (bigC a 0))) ∨ (k = 2 ∧ _ = Value.int .u64 0 ∧ Hid (Blk wr (w.heap.size + 1) 162 (bigC a 0))) ∨ (k = 3 ∧ _ = Value.int .u64 0 ∧ Hid (Blk wr (w.heap.size + 1) 162 (bigC a 0))) := by
      rcases hu with h | ⟨h1, h2, h3⟩
      · exact .inl h
      · obtain rfl | rfl | rfl : k = 1 ∨ k = 2 ∨ k = 3 := by omega
        · exact .inr (.inl ⟨rfl, h2, h3⟩)
        · exact .inr (.inr (.inl ⟨rfl, h2, h3⟩))
        · exact .inr (.inr (.inr ⟨rfl, h2, h3⟩))
    · -- round 0
      have c := hB.out.cell 0
      have f := hB.out.free 0
      have zg := hB.out.lt
      have c' : wr.cell? ⟨w.heap.size + 1, 0, none⟩ = some (.int .i64 0) := c
      have hN : Hid (Blk (wr.setCell ⟨w.heap.size + 1, 0, none⟩ (.int .i64 a)) (w.heap.size + 1) 162 (bigC a 0)) := hB.out.set 0 _
      have hN0 : Hid (Blk (wr.setCell ⟨w.heap.size + 1, 0, none⟩ (.int .i64 a)) w.heap.size 162 (bigC 0 0)) := hZ.out.far (by simp) _
      have yN := Lib.hid (Y.setNew (p := ⟨w.heap.size + 1, 0, none⟩) (by simp) (.int .i64 a))
      clear c
      have wi' := wi.out
      have ba' := ba.out
      have da' := da.out
      go_wp2
      go_roundw
      case rel => exact ⟨1, by go_num, by omega, .inr ⟨by omega, rfl, hN⟩, hN0, yN.out⟩
      case measure => simp [intOf]
    · -- round 1
      have c := hB.out.cell 1
      have f := hB.out.free 1
      have zg := hB.out.lt
      have c' : wr.cell? ⟨w.heap.size + 1, 1, none⟩ = some (.int .i64 0) := c
      have hN : Hid (Blk (wr.setCell ⟨w.heap.size + 1, 1, none⟩ (.int .i64 0)) (w.heap.size + 1) 162 (bigC a 0)) := hB.out.set 1 _
      have hN0 : Hid (Blk (wr.setCell ⟨w.heap.size + 1, 1, none⟩ (.int .i64 0)) w.heap.size 162 (bigC 0 0)) := hZ.out.far (by simp) _
      have yN := Lib.hid (Y.setNew (p := ⟨w.heap.size + 1, 1, none⟩) (by simp) (.int .i64 0))
      clear c
      have b0' := b0.out
      have w0' : IntKind.i64.wrap 0 = 0 := IntWalk.i64_in _ (by omega)
      go_wp2
      go_roundw
      case rel => exact ⟨2, by go_num, by omega, .inr ⟨by omega, rfl, hN⟩, hN0, yN.out⟩
      case measure => simp [intOf]
    · -- round 2
      have c := hB.out.cell 2
      have f := hB.out.free 2
      have zg := hB.out.lt
      have c' : wr.cell? ⟨w.heap.size + 1, 2, none⟩ = some (.int .i64 0) := c
      have hN : Hid (Blk (wr.setCell ⟨w.heap.size + 1, 2, none⟩ (.int .i64 0)) (w.heap.size + 1) 162 (bigC a 0)) := hB.out.set 2 _
      have hN0 : Hid (Blk (wr.setCell ⟨w.heap.size + 1, 2, none⟩ (.int .i64 0)) w.heap.size 162 (bigC 0 0)) := hZ.out.far (by simp) _
      have yN := Lib.hid (Y.setNew (p := ⟨w.heap.size + 1, 2, none⟩) (by simp) (.int .i64 0))
      clear c
      have b0' := b0.out
      have w0' : IntKind.i64.wrap 0 = 0 := IntWalk.i64_in _ (by omega)
      go_wp2
      go_roundw
      case rel => exact ⟨3, by go_num, by omega, .inr ⟨by omega, rfl, hN⟩, hN0, yN.out⟩
      case measure => simp [intOf]
    · have c0 : wr.cell? ⟨w.heap.size + 1, 0, none⟩ = some (.int .i64 a) := hB.out.cell 0
      have c1 : wr.cell? ⟨w.heap.size + 1, 1, none⟩ = some (.int .i64 0) := hB.out.cell 1
      have c2 : wr.cell? ⟨w.heap.size + 1, 2, none⟩ = some (.int .i64 0) := hB.out.cell 2
      have c3 : wr.cell? ⟨w.heap.size + 1, 3, none⟩ = some (.int .i64 0) := hB.out.cell 3
      have c4 : wr.cell? ⟨w.heap.size + 1, 4, none⟩ = some (.int .i64 0) := hB.out.cell 4
      have c5 : wr.cell? ⟨w.heap.size + 1, 5, none⟩ = some (.int .i64 0) := hB.out.cell 5
      have c6 : wr.cell? ⟨w.heap.size + 1, 6, none⟩ = some (.int .i64 0) := hB.out.cell 6
      have c7 : wr.cell? ⟨w.heap.size + 1, 7, none⟩ = some (.int .i64 0) := hB.out.cell 7
      have c8 : wr.cell? ⟨w.heap.size + 1, 8, none⟩ = some (.int .i64 0) := hB.out.cell 8
      have z0 : wr.cell? ⟨w.heap.size, 0, none⟩ = some (.int .i64 0) := hZ.out.cell 0
      have z1 : wr.cell? ⟨w.heap.size, 1, none⟩ = some (.int .i64 0) := hZ.out.cell 1
      have z2 : wr.cell? ⟨w.heap.size, 2, none⟩ = some (.int .i64 0) := hZ.out.cell 2
      have z3 : wr.cell? ⟨w.heap.size, 3, none⟩ = some (.int .i64 0) := hZ.out.cell 3
      have z4 : wr.cell? ⟨w.heap.size, 4, none⟩ = some (.int .i64 0) := hZ.out.cell 4
      have z5 : wr.cell? ⟨w.heap.size, 5, none⟩ = some (.int .i64 0) := hZ.out.cell 5
      have z6 : wr.cell? ⟨w.heap.size, 6, none⟩ = some (.int .i64 0) := hZ.out.cell 6
      have z7 : wr.cell? ⟨w.heap.size, 7, none⟩ = some (.int .i64 0) := hZ.out.cell 7
      have z8 : wr.cell? ⟨w.heap.size, 8, none⟩ = some (.int .i64 0) := hZ.out.cell 8
      have f0 : wr.frozen? ⟨w.heap.size, 0, none⟩ = false := hZ.out.free 0
      have f1 : wr.frozen? ⟨w.heap.size, 1, none⟩ = false := hZ.out.free 1
      have f2 : wr.frozen? ⟨w.heap.size, 2, none⟩ = false := hZ.out.free 2
      have f3 : wr.frozen? ⟨w.heap.size, 3, none⟩ = false := hZ.out.free 3
      have f4 : wr.frozen? ⟨w.heap.size, 4, none⟩ = false := hZ.out.free 4
      have f5 : wr.frozen? ⟨w.heap.size, 5, none⟩ = false := hZ.out.free 5
      have f6 : wr.frozen? ⟨w.heap.size, 6, none⟩ = false := hZ.out.free 6
      have f7 : wr.frozen? ⟨w.heap.size, 7, none⟩ = false := hZ.out.free 7
      have f8 : wr.frozen? ⟨w.heap.size, 8, none⟩ = false := hZ.out.free 8
      have Y9 := Lib.hid (setNine Y (g := w.heap.size) (Nat.le_refl _) (.int .i64 a) (.int .i64 0) (.int .i64 0) (.int .i64 0) (.int .i64 0) (.int .i64 0) (.int .i64 0) (.int .i64 0) (.int .i64 0))
      go_wp2
      exact bodyPost_ret (v := bigV a 0) (by simp [results, Try.results158, go_sem, bigV, *]) rfl ⟨rfl, Y9.out⟩
end Go.Proofs.Ytpfdkocelmmllaa
