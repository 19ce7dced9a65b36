/-
  mound: slices.Clone of items.
-/
import Derived.Test.YthmjeajfchpdoaaMoundG
namespace Go.Proofs.Ythmjeajfchpdoaa
open Go.RowKit Go.ChangeShapes Go.WideShapes Go.ChangeAt

theorem item_info' : (Try.prog.info? 61).map (fun i => (i.zero, i.size, i.bytes)) = some (some (.agg #[.int .i64 0, .int .i64 0]), 2, 16) := by kernel_rfl
theorem eqlNilIt (u : World) (A : Option Addr) (n c : Nat) : (binOp .eql 82 (.slice A n c) (.slice none 0 0)).run Try.prog u = .ok (.bool A.isNone) u := Lib.run_eql_slice_nil u _ 61 _ _ _ _ _ Try.underlying82
set_option maxRecDepth 100000 in
theorem cloneItems_any (A : Option Addr) (c : Nat) (l : List It) (w : World) (hx : RdV w 61 A (flat l)) (hl : l.length ≤ 2 ^ 40) :
    Calls Try.prog 64 #[.slice A l.length c] w fun e w' => ∃ A' c', e = .returned (.slice A' l.length c') ∧ RdV w' 61 A' (flat l) ∧ l.length ≤ c' ∧ Ext w w' := by
  rcases A with _ | ⟨b, off, sp⟩
  · have h0 : l = [] := by
      cases l with
      | nil => rfl
      | cons p l =>
        obtain ⟨_, _, h, _⟩ := hx.form (by simp [flat_cons])
        cases h
    subst h0
    clear hl hx
    have hnil := fun u : World => eqlNilIt u none 0 c
    simp only [List.length_nil]
    go_enter Try.func64, Try.ntmps64
    go_wp2
    go_ret
    exact ⟨_, _, rfl, .inl rfl, Nat.le_refl _, Ext.rf _⟩
  · have hnil := fun u : World => eqlNilIt u (some ⟨b, off, sp⟩) l.length c
    obtain ⟨i0, hi, hz0, hz1, hz2⟩ := info_parts item_info'
    go_enter Try.func64, Try.ntmps64
    go_wp2_with (at_builtin; refine wpl_app_v _ (e := 61) Try.underlying82 hi hz0 hz1 hz2 (by simp [Value.cells]) (by omega) rfl _ _ rfl w.heap.size (some ⟨w.heap.size, 0, none⟩) 0 0 [] (some ⟨b, off, sp⟩) l.length c (flat l) rfl rfl (by exact OwV.mk (cur := #[]) (Nat.le_refl _) (heap_alloc_new w _) (Nat.le_refl _) zero_le_maxLen rfl rfl) (by exact (hx.ext ((Ext.rf _).alloc _)).rdC) (flat_len l) (flat_one l) (by simp only [maxLen]; omega) (by omega) (by simp) ?_; rintro A1 c1 w1 hown hg _)
    go_ret
    exact ⟨A1, c1, by simp, by simpa using hown.read, by simpa using hown.le.1, ((Ext.rf w).alloc _).grow hg (by intro k hk; simp [bl] at hk; omega)⟩
end Go.Proofs.Ythmjeajfchpdoaa
