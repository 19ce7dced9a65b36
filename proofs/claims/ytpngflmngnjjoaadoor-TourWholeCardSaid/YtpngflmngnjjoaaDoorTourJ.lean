/-
  The law's own example of a tour, walked.
-/
import Derived.Test.YtpngflmngnjjoaaDoorTourI
import Derived.Test.YtpngflmngnjjoaaDoorTourV
namespace Go.Proofs.YtpngflmngnjjoaaDoor
open Go.RowKit Go.ChangeShapes Go.WideShapes Go.ChangeAt Go.Deep

theorem row_blk3 {w : World} {b : Nat} {x y v : Int} {c : Nat} (h : Blk w b 3 #[.int .i64 x, .int .i64 y, .int .i64 v]) (hb : ∀ z ∈ [x, y, v], -9223372036854775808 ≤ z ∧ z ≤ 9223372036854775807) (hc : 3 ≤ c) (hm : c ≤ maxLen) : RInts w [.slice (some ⟨b, 0, none⟩) 3 c] [x, y, v] :=
  ⟨some ⟨b, 0, none⟩, c, rfl, .blk h rfl, hb, hc, hm⟩
set_option maxRecDepth 100000 in
set_option maxHeartbeats 2000000 in
theorem tours_any (w : World) (hT : Tab w) : Calls Tryd.prog 34 #[] w fun e w' => e = .returned (.bool true) ∧ Ext w w' := by
  have N := fun (vs : List Value) (W : World) (H : RInst W vs exT) => newt_yes exT vs W H exT_check rfl
  unfold NewTPost at N
  simp only [show exT.cost = exR from rfl, exT_mir] at N
  replace N := Lib.hid N
  replace hT := Lib.hid hT
  go_enter Tryd.func34, Tryd.ntmps34
  go_wp2_with (fail)
  have R1 : RInst ((((w.alloc (.cells #[.int .i64 0, .int .i64 5, .int .i64 5] 3)).alloc (.cells #[.int .i64 5, .int .i64 0, .int .i64 5] 3)).alloc (.cells #[.int .i64 5, .int .i64 5, .int .i64 0] 3)).alloc (.cells #[.slice (some ⟨w.heap.size, 0, none⟩) 3 3, .slice (some ⟨w.heap.size + 1, 0, none⟩) 3 3, .slice (some ⟨w.heap.size + 1 + 1, 0, none⟩) 3 3] 22)) [.int .i64 3, .int .i64 3, .int .i64 0, .slice none 0 0, .slice none 0 0, .slice (some ⟨w.heap.size + 1 + 1 + 1, 0, none⟩) 3 3] exT := by
    have hz : 3 ≤ maxLen := by simp [maxLen]
    have b0 : Blk ((((w.alloc (.cells #[.int .i64 0, .int .i64 5, .int .i64 5] 3)).alloc (.cells #[.int .i64 5, .int .i64 0, .int .i64 5] 3)).alloc (.cells #[.int .i64 5, .int .i64 5, .int .i64 0] 3)).alloc (.cells #[.slice (some ⟨w.heap.size, 0, none⟩) 3 3, .slice (some ⟨w.heap.size + 1, 0, none⟩) 3 3, .slice (some ⟨w.heap.size + 1 + 1, 0, none⟩) 3 3] 22)) (w.heap.size) 3 #[.int .i64 0, .int .i64 5, .int .i64 5] := .alloc (.alloc (.alloc (.new rfl) _) _) _
    have b1 : Blk ((((w.alloc (.cells #[.int .i64 0, .int .i64 5, .int .i64 5] 3)).alloc (.cells #[.int .i64 5, .int .i64 0, .int .i64 5] 3)).alloc (.cells #[.int .i64 5, .int .i64 5, .int .i64 0] 3)).alloc (.cells #[.slice (some ⟨w.heap.size, 0, none⟩) 3 3, .slice (some ⟨w.heap.size + 1, 0, none⟩) 3 3, .slice (some ⟨w.heap.size + 1 + 1, 0, none⟩) 3 3] 22)) (w.heap.size + 1) 3 #[.int .i64 5, .int .i64 0, .int .i64 5] := .alloc (.alloc (.new (by simp)) _) _
    have b2 : Blk ((((w.alloc (.cells #[.int .i64 0, .int .i64 5, .int .i64 5] 3)).alloc (.cells #[.int .i64 5, .int .i64 0, .int .i64 5] 3)).alloc (.cells #[.int .i64 5, .int .i64 5, .int .i64 0] 3)).alloc (.cells #[.slice (some ⟨w.heap.size, 0, none⟩) 3 3, .slice (some ⟨w.heap.size + 1, 0, none⟩) 3 3, .slice (some ⟨w.heap.size + 1 + 1, 0, none⟩) 3 3] 22)) (w.heap.size + 1 + 1) 3 #[.int .i64 5, .int .i64 5, .int .i64 0] := .alloc (.new (by simp)) _
    have b3 : Blk ((((w.alloc (.cells #[.int .i64 0, .int .i64 5, .int .i64 5] 3)).alloc (.cells #[.int .i64 5, .int .i64 0, .int .i64 5] 3)).alloc (.cells #[.int .i64 5, .int .i64 5, .int .i64 0] 3)).alloc (.cells #[.slice (some ⟨w.heap.size, 0, none⟩) 3 3, .slice (some ⟨w.heap.size + 1, 0, none⟩) 3 3, .slice (some ⟨w.heap.size + 1 + 1, 0, none⟩) 3 3] 22)) (w.heap.size + 1 + 1 + 1) 22 #[.slice (some ⟨w.heap.size, 0, none⟩) 3 3, .slice (some ⟨w.heap.size + 1, 0, none⟩) 3 3, .slice (some ⟨w.heap.size + 1 + 1, 0, none⟩) 3 3] := .new (by simp)
    refine ⟨none, 0, none, 0, some ⟨w.heap.size + 1 + 1 + 1, 0, none⟩, 3, rfl, ⟨.inl rfl, Ints.nil, by simp [exT], zero_le_maxLen⟩, ⟨.inl rfl, Ints.nil, by simp [exT], zero_le_maxLen⟩, ⟨.inr ⟨_, 0, rfl, b3.lt, ?_⟩, by simp [exT], hz⟩⟩
    intro i x hi
    match i, hi with
    | 0, hi =>
      simp [exT] at hi
      subst hi
      refine ⟨_, row_blk3 b0 (by intro z hz; simp at hz; omega) (Nat.le_refl 3) hz, rfl, fun j v hj => ?_⟩
      match j, hj with
      | 0, hj => rw [b3.cell]; simp at hj; subst hj; rfl
    | 1, hi =>
      simp [exT] at hi
      subst hi
      refine ⟨_, row_blk3 b1 (by intro z hz; simp at hz; omega) (Nat.le_refl 3) hz, rfl, fun j v hj => ?_⟩
      match j, hj with
      | 0, hj => rw [b3.cell]; simp at hj; subst hj; rfl
    | 2, hi =>
      simp [exT] at hi
      subst hi
      refine ⟨_, row_blk3 b2 (by intro z hz; simp at hz; omega) (Nat.le_refl 3) hz, rfl, fun j v hj => ?_⟩
      match j, hj with
      | 0, hj => rw [b3.cell]; simp at hj; subst hj; rfl
    | i + 3, hi => simp [exT] at hi
  refine (N.out _ _ R1).mono ?_
  rintro e w2 ⟨g, rfl, K2, x2⟩
  have X2 := Lib.hid (Ext.tr (a := w) (by (repeat (first | assumption | exact Ext.rf _ | apply Ext.drew | apply Ext.drewN | apply Ext.alloc))) x2)
  replace K2 := Lib.hid K2
  clear R1 x2 N
  go_wp2_with (fail)
  have BB := boundt_any none 0 [] w2 (hT.out.ext X2.out) K2.out exT_ok (.inl rfl) (by simp)
  rw [exT_bound] at BB
  refine BB.mono ?_
  rintro e w3 ⟨rfl, x3⟩
  clear BB
  have X3 := Lib.hid (X2.out.tr x3)
  have K3 := Lib.hid (K2.out.ext x3)
  clear x3
  go_wp2_with (fail)
  have X4 : Hid (Ext w (w3.alloc (.cells #[.int .i64 2] 3))) := X3.out.alloc _
  have KK := kidst_any (some ⟨w3.heap.size, 0, none⟩) 1 [2] (w3.alloc (.cells #[.int .i64 2] 3)) (hT.out.ext X4.out) (K3.out.ext ((Ext.rf _).alloc _)) exT_ok (.blk (.new rfl) rfl) (by simp)
  rw [exT_kids] at KK
  refine KK.mono ?_
  rintro e w4 ⟨A4, c4, rfl, o4, x4⟩
  clear KK
  obtain ⟨b, off, x, rfl, _, hc, hx, _⟩ := o4.read.at (k := 0) (by simp)
  obtain rfl : x = 1 := by have h := hx.out; simp at h; exact h.symm
  rw [Nat.add_zero] at hc
  have X5 := Ext.tr X4.out x4
  clear hx o4
  go_wp2
  go_ret
  exact ⟨rfl, X5⟩
end Go.Proofs.YtpngflmngnjjoaaDoor
