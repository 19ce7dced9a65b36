/-
  The law's own example: a kernel of two items.
-/
import Derived.Test.YtpfdkocelmmllaaKnapH
namespace Go.Proofs.Ytpfdkocelmmllaa
open Go.RowKit Go.ChangeShapes Go.WideShapes Go.ChangeAt Go.Deep

def exI : InstP := ⟨1, 2, 4, [2, 3], [4, 3], []⟩
theorem exI_check : checkP exI = 0 := by decide
theorem exI_ratio : ratioP [4, 3] [2, 3] = [0, 1] := by
  simp [ratioP, msortP, List.range_succ, List.cons_merge_cons, aheadB]
theorem exI_ok : KOk 4 [0, 1] [2, 3] [4, 3] (sumsL [4, 3] 0) := ⟨by omega, by simp, rfl, rfl, rfl, by intro x hx; simp at hx; omega, by intro x hx; simp at hx; omega⟩
theorem exI_bound : boundP 4 [2, 3] [4, 3] [] = (1, 0) := by decide
theorem exI_kids : kidsP 4 [2, 3] [4, 3] [1] = ([0], 0) := by decide
theorem exI_w : inOrder [0, 1] [2, 3] = [2, 3] := by decide
theorem exI_v : inOrder [0, 1] [4, 3] = [4, 3] := by decide
set_option maxRecDepth 100000 in
set_option maxHeartbeats 2000000 in
theorem knaps_any (w : World) : Calls Try.prog 16 #[] w fun e w' => e = .returned (.bool true) ∧ Ext w w' := by
  have N := fun (vs : List Value) (W : World) (H : RInst W vs exI) => new_yes exI vs W H exI_check rfl
  unfold NewPost at N
  simp only [show exI.weight = [2, 3] from rfl, show exI.value = [4, 3] from rfl, exI_ratio, exI_w, exI_v, show exI.cap = 4 from rfl] at N
  replace N := Lib.hid N
  go_enter Try.func16, Try.ntmps16
  go_wp2_with (fail)
  have R1 : RInst ((w.alloc (.cells #[.int .i64 2, .int .i64 3] 3)).alloc (.cells #[.int .i64 4, .int .i64 3] 3)) [.int .i64 1, .int .i64 2, .int .i64 4, .slice (some ⟨w.heap.size, 0, none⟩) 2 2, .slice (some ⟨w.heap.size + 1, 0, none⟩) 2 2, .slice none 0 0] exI :=
    ⟨some ⟨w.heap.size, 0, none⟩, 2, some ⟨w.heap.size + 1, 0, none⟩, 2, none, 0, rfl, ⟨.blk (.alloc (.new rfl) _) rfl, by intro x hx; simp [exI] at hx; omega, by simp [exI], by simp [maxLen]⟩, ⟨.blk (.new (by simp)) rfl, by intro x hx; simp [exI] at hx; omega, by simp [exI], by simp [maxLen]⟩, ⟨.inl rfl, by simp [exI], by simp [maxLen]⟩⟩
  refine (N.out _ _ R1).mono ?_
  rintro e w2 ⟨g, rfl, K2, x2⟩
  have X2 := Lib.hid (Ext.tr (a := w) (by (repeat (first | assumption | exact Ext.rf _ | apply Ext.drew | apply Ext.drewN | apply Ext.alloc))) x2)
  replace K2 := Lib.hid K2
  clear R1 x2 N
  go_wp2_with (fail)
  have BB := bound_any none 0 [] w2 K2.out exI_ok rfl (.inl rfl) (by simp)
  rw [exI_bound] at BB
  refine BB.mono ?_
  rintro e w3 ⟨rfl, x3⟩
  clear BB
  unfold BoundVal
  have X3 := Lib.hid (X2.out.tr x3)
  have K3 := Lib.hid (K2.out.ext x3)
  clear x3
  go_wp2_with (fail)
  have KK := kids_any (some ⟨w3.heap.size, 0, none⟩) 1 [1] (w3.alloc (.cells #[.int .i64 1] 3)) (K3.out.ext ((Ext.rf _).alloc _)) exI_ok (.blk (.new rfl) rfl) (by simp)
  rw [exI_kids] at KK
  refine KK.mono ?_
  rintro e w4 ⟨A4, c4, rfl, r4, l4, m4, x4⟩
  clear KK
  obtain ⟨b, off, x, rfl, _, hc, hx, _⟩ := r4.at (k := 0) (by simp)
  obtain rfl : x = 0 := by have h := hx.out; simp at h; exact h.symm
  rw [Nat.add_zero] at hc
  have X4 := Ext.tr (X3.out.alloc _) x4
  clear hx r4 l4
  go_wp2
  go_ret
  exact ⟨rfl, X4⟩
end Go.Proofs.Ytpfdkocelmmllaa
