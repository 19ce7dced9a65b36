/-
  The assignment's example: two rows, two columns.
-/
import Derived.Test.YtleckhbmciiooaaAssignP
namespace Go.Proofs.Ytleckhbmciiooaa
open Go.RowKit Go.ChangeShapes Go.WideShapes Go.ChangeAt Go.Deep

def exA : InstP := ⟨2, 2, 0, [], [], [[1, 2], [3, 9]]⟩
theorem exA_check : checkP exA = 0 := by decide
theorem exA_ok : RowsOk [[1, 2], [3, 9]] := rows_ok (square_ok (i := exA) exA_check (by decide))
theorem row_blk {w : World} {b : Nat} {x y : Int} {c : Nat} (h : Blk w b 3 #[.int .i64 x, .int .i64 y]) (hx : -9223372036854775808 ≤ x ∧ x ≤ 9223372036854775807) (hy : -9223372036854775808 ≤ y ∧ y ≤ 9223372036854775807) (hc : 2 ≤ c) (hm : c ≤ maxLen) : RInts w [.slice (some ⟨b, 0, none⟩) 2 c] [x, y] :=
  ⟨some ⟨b, 0, none⟩, c, rfl, .blk h rfl, by intro z hz; simp at hz; rcases hz with rfl | rfl <;> assumption, hc, hm⟩
theorem exA_rinst (w : World) : RInst (((w.alloc (.cells #[.int .i64 1, .int .i64 2] 3)).alloc (.cells #[.int .i64 3, .int .i64 9] 3)).alloc (.cells #[.slice (some ⟨w.heap.size, 0, none⟩) 2 2, .slice (some ⟨w.heap.size + 1, 0, none⟩) 2 2] 22)) [.int .i64 2, .int .i64 2, .int .i64 0, .slice none 0 0, .slice none 0 0, .slice (some ⟨w.heap.size + 1 + 1, 0, none⟩) 2 2] exA := by
  have hz : 2 ≤ maxLen := by simp [maxLen]
  have b0 : Blk (((w.alloc (.cells #[.int .i64 1, .int .i64 2] 3)).alloc (.cells #[.int .i64 3, .int .i64 9] 3)).alloc (.cells #[.slice (some ⟨w.heap.size, 0, none⟩) 2 2, .slice (some ⟨w.heap.size + 1, 0, none⟩) 2 2] 22)) w.heap.size 3 #[.int .i64 1, .int .i64 2] := .alloc (.alloc (.new rfl) _) _
  have b1 : Blk (((w.alloc (.cells #[.int .i64 1, .int .i64 2] 3)).alloc (.cells #[.int .i64 3, .int .i64 9] 3)).alloc (.cells #[.slice (some ⟨w.heap.size, 0, none⟩) 2 2, .slice (some ⟨w.heap.size + 1, 0, none⟩) 2 2] 22)) (w.heap.size + 1) 3 #[.int .i64 3, .int .i64 9] := .alloc (.new (by simp)) _
  have b2 : Blk (((w.alloc (.cells #[.int .i64 1, .int .i64 2] 3)).alloc (.cells #[.int .i64 3, .int .i64 9] 3)).alloc (.cells #[.slice (some ⟨w.heap.size, 0, none⟩) 2 2, .slice (some ⟨w.heap.size + 1, 0, none⟩) 2 2] 22)) (w.heap.size + 1 + 1) 22 #[.slice (some ⟨w.heap.size, 0, none⟩) 2 2, .slice (some ⟨w.heap.size + 1, 0, none⟩) 2 2] := .new (by simp)
  refine ⟨none, 0, none, 0, some ⟨w.heap.size + 1 + 1, 0, none⟩, 2, rfl, ⟨.inl rfl, Ints.nil, by simp [exA], zero_le_maxLen⟩, ⟨.inl rfl, Ints.nil, by simp [exA], zero_le_maxLen⟩, ⟨.inr ⟨_, 0, rfl, b2.lt, ?_⟩, by simp [exA], hz⟩⟩
  intro i x hi
  match i, hi with
  | 0, hi =>
    simp [exA] at hi
    subst hi
    refine ⟨_, row_blk b0 (by omega) (by omega) (Nat.le_refl 2) hz, rfl, fun j v hj => ?_⟩
    match j, hj with
    | 0, hj => rw [b2.cell]; simp at hj; subst hj; rfl
  | 1, hi =>
    simp [exA] at hi
    subst hi
    refine ⟨_, row_blk b1 (by omega) (by omega) (Nat.le_refl 2) hz, rfl, fun j v hj => ?_⟩
    match j, hj with
    | 0, hj => rw [b2.cell]; simp at hj; subst hj; rfl
  | i + 2, hi => simp [exA] at hi
end Go.Proofs.Ytleckhbmciiooaa
