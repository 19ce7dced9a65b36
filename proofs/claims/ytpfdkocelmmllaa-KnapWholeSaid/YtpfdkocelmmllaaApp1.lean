/-
  append(append([]int{}, x...), y): a copy, and one more behind it: all blocks of one cell or none stay as they are.
-/
import Derived.Test.YtpfdkocelmmllaaOwn
namespace Go.Proofs.Ytpfdkocelmmllaa
open Go.RowKit Go.ChangeShapes Go.WideShapes Go.ChangeAt

section
variable (w : World)
set_option maxRecDepth 100000 in
/-- append([]int{}, x...): a copy, whose array has no room where it is empty -/
theorem run_copy_s (base : Nat) (ty : TypeId) (g : Nat) (ys : List Int) (B : Option Addr) (c : Nat) (hg : Blk w g 3 #[]) (hb : base ≤ g) (hr : RdI w B ys) (hlen : ys.length ≤ 2 ^ 44) :
    ∃ g' c' w', (Builtin.append_ #[22, 22] ty #[.slice (some ⟨g, 0, none⟩) 0 0, .slice B ys.length c]).run Try.prog w = .ok (.slice (some ⟨g', 0, none⟩) ys.length c') w' ∧ OwI w' base (some ⟨g', 0, none⟩) c' ys ∧ (ys = [] → c' = 0) ∧ Ext w w' := by
  obtain ⟨i0, hi, hz0, hz1, hz2⟩ := info_parts int_info
  by_cases hy : ys = []
  · subst hy
    refine ⟨g, 0, w, ?_, .empty hg hb, fun _ => rfl, Ext.rf _⟩
    rcases B with _ | ad
    · simp [Builtin.append_, run_underlying Try.underlying22, sizeOf, typeInfo, hi, Builtin.lenOf, Builtin.firstCells, storeCells]
    · simp [Builtin.append_, run_underlying Try.underlying22, sizeOf, typeInfo, hi, Builtin.lenOf, Builtin.firstCells, storeCells, loadCells, loadCellsFrom]
  · have h0 : 0 < ys.length := List.length_pos_iff.2 hy
    obtain ⟨b, off, rfl, hc⟩ : ∃ b off, B = some ⟨b, off, none⟩ ∧ ∀ j x, ys[j]? = some x → w.cell? ⟨b, off + j, none⟩ = some (.int .i64 x) := by
      rcases hr with h | ⟨b, off, h, _, hc⟩
      · exact absurd h hy
      · exact ⟨b, off, h, hc⟩
    have hnews : ∀ j u, (ys.map (Value.int .i64))[j]? = some u → w.cell? ((⟨b, off, none⟩ : Addr).add j) = some u := by
      intro j u hu
      rw [List.getElem?_map] at hu
      obtain ⟨x, hx, rfl⟩ := Option.map_eq_some_iff.1 hu
      rw [add_plain]
      exact hc j x hx
    have hrun := run_append_grow (P := Try.prog) w 22 ty 3 i0 _ Try.underlying22 hi hz0 ⟨g, 0, none⟩ 0 0 [] (by simp) (fun j u h => by simp at h) ⟨b, off, none⟩ ys.length c (ys.map (Value.int .i64)) (by simp [hz1]) hnews (by omega) (by omega) (growslice_fits (by omega) (by rw [hz2]; omega))
    have hge := grownCap_ge w (0 + ys.length) 0 3
    have hle := grownCap_le_maxLen w (0 + ys.length) 0 3 (by simp only [maxLen]; omega)
    simp only [Nat.zero_add, List.nil_append] at hrun hge hle
    refine ⟨_, _, _, hrun, .mk (cur := _) (Nat.le_trans hb (Nat.le_of_lt hg.lt)) (heap_alloc_new w.drew _) hge hle ?_ ?_, fun h => absurd h hy, ((Ext.rf w).drew).alloc _⟩
    · simp [Builtin.zeroCells, Value.cells]; omega
    · simp [Builtin.zeroCells, Value.cells]
set_option maxRecDepth 100000 in
/-- append(v, y), v's array without room where it is empty -/
theorem run_app_1 (base : Nat) (ty : TypeId) (gA cA : Nat) (xs : List Int) (y : Int) (h : Nat) (hown : OwI w base (some ⟨gA, 0, none⟩) cA xs) (h0 : xs = [] → cA = 0) (hr : Blk w h 3 #[.int .i64 y]) (hlen : xs.length + 1 ≤ 2 ^ 44) (hbase : base ≤ w.heap.size) :
    ∃ A' c' w', (Builtin.append_ #[22, 22] ty #[.slice (some ⟨gA, 0, none⟩) xs.length cA, .slice (some ⟨h, 0, none⟩) 1 1]).run Try.prog w = .ok (.slice A' (xs ++ [y]).length c') w' ∧ OwI w' base A' c' (xs ++ [y]) ∧ w.grownBy w' (some gA) ∧ ∀ g t cs, Blk w g t cs → cs.size ≤ 1 → Blk w' g t cs := by
  obtain ⟨A', c', w', hrun, ho, hg, -⟩ := run_app_i w base ty (some ⟨gA, 0, none⟩) xs.length cA xs [y] (some ⟨h, 0, none⟩) 1 rfl hown (.blk hr rfl) (by simpa using hlen) hbase
  refine ⟨A', c', w', hrun, ho, hg, ?_⟩
  intro g t cs hb hs
  by_cases hroom : xs.length + 1 ≤ cA
  · refine hb.grown hg ?_
    rintro heq
    obtain rfl : gA = g := by simpa [bl] using heq
    have h1 : xs ≠ [] := fun e => by have := h0 e; omega
    have h2 : 0 < xs.length := List.length_pos_iff.2 h1
    rcases hown.cases with ⟨h3, _⟩ | ⟨g3, cur, h3, _, h5, _, _, h8, _⟩
    · cases h3
    · obtain rfl : gA = g3 := by simpa using h3
      have h9 := hb.same (cs' := cur) h5
      subst h9
      omega
  · obtain ⟨i0, hi, hz0, hz1, hz2⟩ := info_parts int_info
    have hcell : ∀ j u, (xs.map (Value.int .i64))[j]? = some u → w.cell? ((⟨gA, 0, none⟩ : Addr).add j) = some u := by
      intro j u hu
      rw [List.getElem?_map] at hu
      obtain ⟨x, hx, rfl⟩ := Option.map_eq_some_iff.1 hu
      rcases hown.read with h9 | ⟨b, off, h9, _, h10⟩
      · subst h9; simp at hx
      · obtain ⟨rfl, rfl⟩ : gA = b ∧ 0 = off := by simpa using h9
        rw [add_plain]
        exact h10 j x hx
    have hrun2 := run_append_grow (P := Try.prog) w 22 ty 3 i0 _ Try.underlying22 hi hz0 ⟨gA, 0, none⟩ xs.length cA (xs.map (Value.int .i64)) (by simp [hz1]) hcell ⟨h, 0, none⟩ 1 1 [.int .i64 y] (by simp [hz1]) (by
      intro j u hu
      cases j with
      | zero => simp at hu; subst hu; exact hr.cell 0
      | succ j => simp at hu) (by omega) (by omega) (growslice_fits (by omega) (by rw [hz2]; omega))
    rw [show ([y] : List Int).length = 1 from rfl] at hrun
    rw [hrun] at hrun2
    injection hrun2 with _ hw
    subst hw
    exact hb.ext (((Ext.rf w).drew).alloc _)
end
end Go.Proofs.Ytpfdkocelmmllaa
