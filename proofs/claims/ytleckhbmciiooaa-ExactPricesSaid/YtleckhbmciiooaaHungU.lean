/-
  exact.Assignment: the best assignment, and what it costs.
-/
import Derived.Test.YtleckhbmciiooaaHungT
import Derived.Test.YtleckhbmciiooaaOrderV
import Derived.Test.YtleckhbmciiooaaCore4
namespace Go.Proofs.Ytleckhbmciiooaa
open Go.RowKit Go.ChangeShapes Go.WideShapes Go.ChangeAt Go.Deep

/-- when all rows have columns, each column has a row -/
theorem HI.full {n : Nat} {cst : Nat → Nat → Int} {u v : Nat → Int} {has : Nat → Nat} (h : HI n cst n u v has) {c : Nat} (c1 : 1 ≤ c) (c2 : c ≤ n) : 1 ≤ has c ∧ has c ≤ n := by
  refine ⟨?_, h.le c c1 c2⟩
  rcases Nat.eq_zero_or_pos (has c) with e | e
  · exfalso
    have ex : ∀ i, ∃ d, i < n → 1 ≤ d ∧ d ≤ n ∧ has d = i + 1 := fun i => by
      by_cases hi : i < n
      · obtain ⟨d, h1, h2, h3⟩ := h.all (i + 1) (by omega) (by omega)
        exact ⟨d, fun _ => ⟨h1, h2, h3⟩⟩
      · exact ⟨0, fun h => absurd h hi⟩
    have hf := fun i => Classical.choose_spec (ex i)
    generalize (fun i => Classical.choose (ex i)) = f at *
    have hf' : ∃ f : Nat → Nat, ∀ i, i < n → 1 ≤ f i ∧ f i ≤ n ∧ has (f i) = i + 1 := ⟨fun i => Classical.choose (ex i), fun i hi => Classical.choose_spec (ex i) hi⟩
    obtain ⟨f, hf⟩ := hf'
    have hl := nodup_le (l := (c - 1) :: (List.range n).map fun i => f i - 1) (n := n) ?_ ?_
    · simp at hl
      omega
    · refine List.nodup_cons.2 ⟨?_, List.pairwise_map.2 (List.Pairwise.imp_of_mem ?_ List.nodup_range)⟩
      · intro hm
        obtain ⟨i, hi, e2⟩ := List.mem_map.1 hm
        obtain ⟨h1, h2, h3⟩ := hf i (List.mem_range.1 hi)
        have : f i = c := by omega
        rw [this] at h3
        omega
      · intro a b ha hb hab e2
        obtain ⟨h1, h2, h3⟩ := hf a (List.mem_range.1 ha)
        obtain ⟨k1, k2, k3⟩ := hf b (List.mem_range.1 hb)
        have : f a = f b := by omega
        rw [this] at h3
        omega
    · intro x hx
      rcases List.mem_cons.1 hx with rfl | hx
      · omega
      · obtain ⟨i, hi, rfl⟩ := List.mem_map.1 hx
        have := hf i (List.mem_range.1 hi)
        omega
  · exact e
set_option maxRecDepth 100000 in
set_option maxHeartbeats 1000000 in
theorem takes2_any (i : InstP) (us : List Value) (w : World) (H : RInst w us i) (hc : checkP i = 0) (hk : i.kind = 2) :
    Calls Try.prog 61 #[.agg (List.toArray us), .int .i64 2] w fun e w' => e = .returned (.int .i64 0) ∧ Ext w w' := by
  have sq := square_ok hc (by omega)
  have CH := fun (W : World) (x : Ext w W) => check_any i us W (H.ext x) (by rw [sq.w]; simp) (by rw [sq.v]; simp)
  rw [hc] at CH
  obtain ⟨kind, nn, cap, xw, xv, co⟩ := i
  obtain ⟨A, a, B, b, D, d, rfl, -, -, -⟩ := H
  simp only at *
  subst hk
  have B1 : Hid (Blk (w.alloc (.cells #[.int .i64 2, .int .i64 nn, .int .i64 cap, .slice A xw.length a, .slice B xv.length b, .slice D co.length d] 25)) w.heap.size 25 #[.int .i64 2, .int .i64 nn, .int .i64 cap, .slice A xw.length a, .slice B xv.length b, .slice D co.length d]) := .new rfl
  replace CH := Lib.hid CH
  clear hc sq
  go_enter Try.func61, Try.ntmps61
  go_wp2_with (fail)
  refine (CH.out _ (by (repeat (first | assumption | exact Ext.rf _ | apply Ext.drew | apply Ext.drewN | apply Ext.alloc)))).mono ?_
  rintro e w1 ⟨rfl, x1⟩
  have X1 := Lib.hid (Ext.tr (a := w) (by (repeat (first | assumption | exact Ext.rf _ | apply Ext.drew | apply Ext.drewN | apply Ext.alloc))) x1)
  have b1 := Lib.hid (B1.out.ext x1)
  have t0 : w1.cell? ⟨w.heap.size, 0, none⟩ = some (.int .i64 2) := b1.out.cell 0
  have t1 : w1.cell? ⟨w.heap.size, 1, none⟩ = some (.int .i64 nn) := b1.out.cell 1
  clear x1 B1
  go_wp2_with (fail)
  go_ret
  exact ⟨rfl, X1.out.tr (by (repeat (first | assumption | exact Ext.rf _ | apply Ext.drew | apply Ext.drewN | apply Ext.alloc)))⟩
set_option maxRecDepth 100000 in
set_option maxHeartbeats 1000000 in
theorem told2_any (i : InstP) (us : List Value) (P : Option Addr) (c : Nat) (l : List Nat) (w : World) (H : RInst w us i) (hc : checkP i = 0) (hk : i.kind = 2) (hP : RdI w P (intsN l)) (hl : l.Perm (List.range i.cost.length)) :
    Calls Try.prog 64 #[.agg (List.toArray us), .slice P i.cost.length c] w fun e w' => e = .returned (.tuple #[.slice P i.cost.length c, .int .i64 (costF i.cost (intsN l)), .int .i64 0]) ∧ Ext w w' := by
  have VC := fun (W : World) (x : Ext w W) => vcost2_any i us P c l W (H.ext x) hc hk (hP.ext x) hl
  obtain ⟨kind, nn, cap, xw, xv, co⟩ := i
  obtain ⟨A, a, B, b, D, d, rfl, -, -, -⟩ := H
  simp only at *
  generalize costF co (intsN l) = cc at *
  replace VC := Lib.hid VC
  clear hc hk hP hl
  go_enter Try.func64, Try.ntmps64
  go_wp2_with (fail)
  refine (VC.out _ (by (repeat (first | assumption | exact Ext.rf _ | apply Ext.drew | apply Ext.drewN | apply Ext.alloc)))).mono ?_
  rintro e w1 ⟨rfl, x1⟩
  have X1 := Lib.hid (Ext.tr (a := w) (by (repeat (first | assumption | exact Ext.rf _ | apply Ext.drew | apply Ext.drewN | apply Ext.alloc))) x1)
  clear x1
  go_wp2_with (fail)
  go_ret3
  exact ⟨rfl, X1.out.tr (by (repeat (first | assumption | exact Ext.rf _ | apply Ext.drew | apply Ext.drewN | apply Ext.alloc)))⟩
end Go.Proofs.Ytleckhbmciiooaa
