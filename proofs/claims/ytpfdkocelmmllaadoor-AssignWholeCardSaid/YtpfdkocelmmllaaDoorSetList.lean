/-
  The program's sets of numbers below 64: List.
-/
import Derived.Test.YtpfdkocelmmllaaDoorSetIter
namespace Go.Proofs.YtpfdkocelmmllaaDoor
open Go.RowKit Go.ChangeShapes Go.WideShapes Go.ChangeAt Go.Deep Go.Shelf
attribute [local go_sem] Oper.semAt_some

def intsN (l : List Nat) : List Int := l.map fun n : Nat => (n : Int)
theorem intsN_len (l : List Nat) : (intsN l).length = l.length := by simp [intsN]
def inL {m : Nat} (pre : List (In m)) : List Nat := pre.map (·.1)
theorem inL_snoc {m : Nat} (pre : List (In m)) (x : In m) : inL (pre ++ [x]) = inL pre ++ [x.1] := by simp [inL]
theorem inL_attach (m : Nat) : inL (memsM m).attach = memsM m := List.attach_map_subtype_val _
theorem Blk.not_row {W : World} {g n₀ k size : Nat} {t e : TypeId} {cs : Array Value} {v : Value} {xs : List Value} (h : Blk W g t cs) (hne : t ≠ e) (hrow : W.ownsRow n₀ e size v k xs) : v.ownBlock ≠ some g := by
  rcases hrow.2 with ⟨rfl, _⟩ | ⟨g', cap, cur, rfl, _, hg, _⟩
  · simp [Value.ownBlock]
  · intro e'
    obtain rfl : g' = g := by simpa [Value.ownBlock] using e'
    unfold Blk at h
    rw [h] at hg
    injection hg with hg
    injection hg with _ ht
    exact hne ht
set_option maxRecDepth 100000 in
set_option maxHeartbeats 2000000 in
theorem list_in (m : Nat) (hm : m < 18446744073709551616) (h63 : ∀ x ∈ memsM m, x < 63) (w : World) (hT : Tab w) :
    CallsIn Fence.wide 3 Tryd.prog 34 #[setV m] w fun e W' => ∃ v, e = .returned v ∧ W'.ownsRow w.heap.size 3 1 v (memsM m).length ((intsN (memsM m)).map (Value.int .i64)) ∧ Ext w W' := by
  obtain ⟨i0, hi, hz0, hz1, hz2⟩ := info_parts int_info
  have hg := tab_low hT
  have hml := memsM_le m
  unfold setV
  refine callsIn_of_wp_marks Tryd.func34 rfl trivial ?_ rfl
  simp only [Tryd.ntmps34, List.size_toArray, List.length_cons, List.length_nil, Nat.reduceAdd, Nat.reduceSub, Array.replicate_succ, Array.replicate_zero, List.push_toArray, List.append_toArray, List.nil_append, List.cons_append]
  gi_wp2
  refine ⟨trivial, ?_⟩
  refine (callsIn_wide.2 (all_any m _)).mono ?_
  rintro e w' ⟨rfl, rfl⟩
  gi_wp2
  have bS := Boxed.new w 51 (.int .u64 m)
  have bO0 := Boxed.new (w.alloc (.cells #[.int .u64 m, .int .u64 0] 51)) 22 (.slice none 0 0)
  rw [World.size_alloc] at bO0
  have bB : Blk (((w.alloc (.cells #[.int .u64 m, .int .u64 0] 51)).alloc (.cells #[.slice none 0 0] 22)).alloc (.cells #[.int .u64 m, .int .u64 0] 51)) (w.heap.size + 1 + 1) 51 #[.int .u64 m, .int .u64 0] := .new (by simp)
  have hB0 : Ext w (((w.alloc (.cells #[.int .u64 m, .int .u64 0] 51)).alloc (.cells #[.slice none 0 0] 22)).alloc (.cells #[.int .u64 m, .int .u64 0] 51)) := (((Ext.rf w).alloc _).alloc _).alloc _
  clear bS
  refine wpIn_rangeFunc_ownG rfl (by omega) (gf := 55) (lb := #[.pointer (some ⟨w.heap.size + 1 + 1, 0, none⟩)]) rfl trivial (enters_of Tryd.func55 (by kernel_rfl) rfl)
    (all_stops 2 m hm h63 (w.heap.size + 1 + 1) w.heap.size _ bB (hT.ext hB0) hB0.size hg) SetKp.tr (setKp_b (cs := #[.int .u64 m, .int .u64 0]) hB0.size bB) (Below.refl _ _) (fun _ => rfl)
    (fun pre W => (∃ v, Boxed W (w.heap.size + 1) 22 v ∧ W.ownsRow w.heap.size 3 1 v (inL pre).length ((intsN (inL pre)).map (Value.int .i64)) ∧ True) ∧ (Below w.heap.size w W ∧ Blk W (w.heap.size + 1 + 1) 51 #[.int .u64 m, .int .u64 0]))
    (fun _ _ _ => False)
    ?own
    (fun _ _ _ _ _ hs _ _ => hs)
    ⟨⟨_, bO0.alloc _, World.ownsRow_nil _ _ _ _, trivial⟩, hB0, bB⟩
    (fun x => { tmps := #[.agg #[.int .u64 m, .int .u64 0], .pointer (some ⟨w.heap.size, 0, none⟩), .slice none 0 0, .pointer (some ⟨w.heap.size + 1, 0, none⟩), .int .i64 ((x.1 : Nat) : Int), .agg #[.int .u64 m, .int .u64 0], .func (.func 55) #[] #[.pointer (some ⟨w.heap.size + 1 + 1, 0, none⟩)], .int .i64 ((x.1 : Nat) : Int), undef, undef, undef, undef, undef], defers := [] }) ?assign ?body ?done ?stop
  case own => exact OwnFrom.and (Own.from (holdsRow_own w.heap.size (w.heap.size + 1) 22 3 1 (fun pre : List (In m) => (inL pre).length) (fun pre => (intsN (inL pre)).map (Value.int .i64)) (fun _ _ => True)) _) (OwnFrom.and (ownFrom_below (Nat.le_refl _) (by simp; omega)) (fun s A B row hs hg hr => (hg.block (w.heap.size + 1 + 1) hs.lt (fun e => by obtain ⟨h1, _⟩ := hr _ e.symm; simp at h1; omega)).trans hs))
  case assign =>
    intro l x W K hK
    gi_wp2
    exact hK
  case body =>
    rintro l pre x W ⟨⟨v, hv, hrow, _⟩, hB, hBn⟩ hlt
    have hc := hv.cell
    have hpl : (inL pre).length < 64 := by
      have h : (inL pre).length = pre.length := by simp [inL]
      omega
    gi_wp2_with (gi_at_builtin; refine wpListIn_append_own _ rfl _ _ 22 rfl w.heap.size 3 i0 (.int .i64 0) 1 8 Tryd.underlying22 hi hz0 hz1 hz2 rfl (by decide) _ _ _ rfl (hrow.alloc _) ⟨W.heap.size, 0, none⟩ 1 1 [.int .i64 ((x.1 : Nat) : Int)] rfl rfl (cell_one_new _ _ _) (by simp [Value.oneCell']) (by simp only [maxLen]; omega) (by omega) (by have := hB.size; simp; omega) ?_; intro v' w1 hown' hgrow _; obtain ⟨g', cap', rfl⟩ := ownsRow_succ hown'; obtain ⟨hv1, hv2, hr2, hk2, hb2⟩ := hv.appended (by decide) hrow hB.size (Nat.le_succ _) hown' hgrow; have hc1 := hv1.cell; have hf1 := hv1.frozen)
    have hBn2 : Blk (w1.setCell ⟨w.heap.size + 1, 0, none⟩ (.slice (some ⟨g', 0, none⟩) ((inL pre).length + 1) cap')) (w.heap.size + 1 + 1) 51 #[.int .u64 m, .int .u64 0] :=
      Blk.far ((hBn.alloc _).grown hgrow (hBn.not_row (by decide) hrow)) (by simp) _
    exact ⟨hk2.from _, ⟨hb2, hBn2.trans hBn.symm⟩, ⟨_, hv2, by rw [inL_snoc]; simpa [intsN] using hr2, trivial⟩, hB.trans hb2, hBn2⟩
  case done =>
    rintro D ys W hD rfl ⟨⟨v, hv, hrow, _⟩, hB, _⟩ hK
    have hc := hv.cell
    rw [inL_attach] at hrow
    gi_wp2
    refine ⟨by simp, .inl ⟨_, _, rfl, run_takeDeferred hK, ?_⟩⟩
    exact ⟨_, results_tmp rfl _ _ _, v, rfl, ownsRow_putObj hrow _ hK rfl, hB.trans (belowK_b (w := w) (Nat.le_refl _) W D _ _ (by simp at hD; omega) hK rfl rfl)⟩
  case stop =>
    rintro D c pre W _ _ h _
    exact h.elim
theorem list_any (m : Nat) (hm : m < 18446744073709551616) (h63 : ∀ x ∈ memsM m, x < 63) (w : World) (hT : Tab w) :
    Calls Tryd.prog 34 #[setV m] w fun e w' => ∃ A c, e = .returned (.slice A (intsN (memsM m)).length c) ∧ OwI w' w.heap.size A c (intsN (memsM m)) ∧ Ext w w' := by
  refine (callsIn_wide.1 (list_in m hm h63 w hT)).mono ?_
  rintro e w' ⟨v, rfl, ho, hx⟩
  have hv : ∃ A c, v = .slice A (intsN (memsM m)).length c := by
    rcases ho.2 with ⟨rfl, h0⟩ | ⟨g, cap, cur, rfl, _⟩
    · exact ⟨none, 0, by rw [intsN_len, h0]⟩
    · exact ⟨some ⟨g, 0, none⟩, cap, by rw [intsN_len]⟩
  obtain ⟨A, c, rfl⟩ := hv
  refine ⟨A, c, rfl, ?_, hx⟩
  have h := ho
  rw [← intsN_len (memsM m)] at h
  exact h
end Go.Proofs.YtpfdkocelmmllaaDoor
