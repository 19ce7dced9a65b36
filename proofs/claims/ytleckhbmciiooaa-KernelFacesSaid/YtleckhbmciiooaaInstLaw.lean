/-
  What the laws on kernels share: a copied problem.
-/
import Derived.Test.YtleckhbmciiooaaCheckR
namespace Go.Proofs.Ytleckhbmciiooaa
open Go.RowKit Go.ChangeShapes Go.WideShapes Go.ChangeAt Go.Deep

/-- each number is an int -/
def InstInts (i : InstP) : Prop := Ints i.weight ∧ Ints i.value ∧ ∀ r ∈ i.cost, Ints r
theorem RInst.ints {w : World} {vs : List Value} {i : InstP} (h : RInst w vs i) : InstInts i := by
  obtain ⟨A, a, B, b, C, c, rfl, ⟨_, h2, _⟩, ⟨_, h4, _⟩, ⟨h5, _⟩⟩ := h
  refine ⟨h2, h4, fun r hr => ?_⟩
  obtain ⟨k, hk, rfl⟩ := List.mem_iff_getElem.1 hr
  obtain ⟨_, _, _, row, _, _, _, _, he, _, _, hi, _⟩ := h5.ints hk
  have h := he.out
  rw [List.getElem?_eq_getElem hk] at h
  rw [Option.some.inj h]
  exact hi
theorem InstInts.copy {i : InstP} (h : InstInts i) : InstInts (copyP i) := by
  refine ⟨h.1.take _, h.2.1.take _, fun r hr => ?_⟩
  simp only [copyP, wantC, List.mem_map] at hr
  obtain ⟨q, hq, rfl⟩ := hr
  exact (h.2.2 q (List.mem_of_mem_take hq)).take _
theorem InstO.rinst {w : World} {base : Nat} {vs : List Value} {i : InstP} (h : InstO w base vs i) (hi : InstInts i) : RInst w vs i := by
  obtain ⟨A, a, B, b, C, c, us, rfl, h1, h2, h3, h4⟩ := h
  refine ⟨A, a, B, b, C, c, rfl, ⟨h1.read, hi.1, h1.le.1, h1.le.2⟩, ⟨h2.read, hi.2.1, h2.le.1, h2.le.2⟩, ?_, h3.le.1, h3.le.2⟩
  rcases h3.read with h0 | ⟨b', off, cur, hA, hb, hc⟩
  · left
    have := h4.1
    rw [h0] at this
    exact List.eq_nil_of_length_eq_zero this.symm
  · refine .inr ⟨b', off, hA, (Array.getElem?_eq_some_iff.1 hb).1, fun k r hr => ?_⟩
    obtain ⟨A', c', hu, ho⟩ := h4.2 k r hr
    refine ⟨[.slice A' r.length c'], ⟨A', c', rfl, ho.read, hi.2.2 r (List.mem_of_getElem? hr), ho.le.1, ho.le.2⟩, rfl, fun j v hj => ?_⟩
    cases j with
    | zero =>
      simp at hj
      subst hj
      rw [cell_of_row w b' _ cur _ (0, 0) hb]
      simpa using hc k _ hu
    | succ j => simp at hj
theorem InstO.ext {w w' : World} {base : Nat} {vs : List Value} {i : InstP} (h : InstO w base vs i) (x : Ext w w') : InstO w' base vs i := by
  obtain ⟨A, a, B, b, C, c, us, rfl, h1, h2, h3, h4⟩ := h
  exact ⟨A, a, B, b, C, c, us, rfl, h1.ext x, h2.ext x, h3.ext x, h4.ext x⟩
theorem InstO.modT {w w' : World} {base base' : Nat} {ts : List TypeId} {vs : List Value} {i : InstP} (h : InstO w base vs i) (k : ModT base' ts w w') (h1 : 3 ∉ ts) (h2 : 22 ∉ ts) : InstO w' base vs i := by
  obtain ⟨A, a, B, b, C, c, us, rfl, g1, g2, g3, g4⟩ := h
  exact ⟨A, a, B, b, C, c, us, rfl, g1.modT k h1, g2.modT k h1, g3.modT k h2, g4.modT k h1⟩
theorem copyP_lens (i : InstP) : (copyP i).weight.length ≤ 70 ∧ (copyP i).value.length ≤ 70 ∧ (copyP i).cost.length ≤ 30 := by
  refine ⟨List.length_take_le _ _, List.length_take_le _ _, ?_⟩
  simp [copyP, wantC]
  omega
/-- the copied problem put in the place of the given one -/
theorem put_copy {w w2 : World} {a0 a1 a2 a3 a4 a5 u0 u1 u2 u3 u4 u5 : Value} {j : InstP} {base : Nat}
    (hB : Blk w2 w.heap.size 25 #[a0, a1, a2, a3, a4, a5]) (x : Ext w w2) (hO : InstO w2 base [u0, u1, u2, u3, u4, u5] j) :
    Ext w ((((((w2.setCell ⟨w.heap.size, 0, none⟩ u0).setCell ⟨w.heap.size, 1, none⟩ u1).setCell ⟨w.heap.size, 2, none⟩ u2).setCell ⟨w.heap.size, 3, none⟩ u3).setCell ⟨w.heap.size, 4, none⟩ u4).setCell ⟨w.heap.size, 5, none⟩ u5) ∧
    Blk ((((((w2.setCell ⟨w.heap.size, 0, none⟩ u0).setCell ⟨w.heap.size, 1, none⟩ u1).setCell ⟨w.heap.size, 2, none⟩ u2).setCell ⟨w.heap.size, 3, none⟩ u3).setCell ⟨w.heap.size, 4, none⟩ u4).setCell ⟨w.heap.size, 5, none⟩ u5) w.heap.size 25 #[u0, u1, u2, u3, u4, u5] ∧
    InstO ((((((w2.setCell ⟨w.heap.size, 0, none⟩ u0).setCell ⟨w.heap.size, 1, none⟩ u1).setCell ⟨w.heap.size, 2, none⟩ u2).setCell ⟨w.heap.size, 3, none⟩ u3).setCell ⟨w.heap.size, 4, none⟩ u4).setCell ⟨w.heap.size, 5, none⟩ u5) base [u0, u1, u2, u3, u4, u5] j := by
  obtain ⟨h1, h2⟩ := set6 hB (base := w.heap.size) (Nat.le_refl _) u0 u1 u2 u3 u4 u5
  exact ⟨x.modT h2 (Nat.le_refl _), h1, hO.modT h2 (by decide) (by decide)⟩
theorem InstO.six {w : World} {base : Nat} {vs : List Value} {i : InstP} (h : InstO w base vs i) : ∃ A3 l3 c3 A4 l4 c4 A5 l5 c5, vs = [.int .i64 i.kind, .int .i64 i.n, .int .i64 i.cap, .slice A3 l3 c3, .slice A4 l4 c4, .slice A5 l5 c5] := by
  obtain ⟨A, a, B, b, C, c, us, rfl, _⟩ := h
  exact ⟨_, _, _, _, _, _, _, _, _, rfl⟩
def CopyTo (j : InstP) (w : World) (e : Ending) (w' : World) : Prop := ∃ vs, e = .returned (.agg (List.toArray vs)) ∧ InstO w' w.heap.size vs j ∧ Ext w w'
theorem copy_to {i j : InstP} (hj : j = copyP i) (vs : List Value) (w : World) (H : RInst w vs i) : Calls Try.prog 9 #[.agg (List.toArray vs)] w (CopyTo j w) := by subst hj; exact copy_any vs i w H
end Go.Proofs.Ytleckhbmciiooaa
