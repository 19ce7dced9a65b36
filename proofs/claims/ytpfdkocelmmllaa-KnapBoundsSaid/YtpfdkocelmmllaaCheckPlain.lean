/-
  Problems in form, plainly: the first bad one of a list of numbers.
-/
import Derived.Test.YtpfdkocelmmllaaCheckA
namespace Go.Proofs.Ytpfdkocelmmllaa

def firstBad : List Int → Int
  | [] => 0
  | x :: l => if numP x = 0 then firstBad l else numP x
theorem firstBad_app (a b : List Int) : firstBad (a ++ b) = if firstBad a = 0 then firstBad b else firstBad a := by
  induction a with
  | nil => rfl
  | cons x l ih =>
    simp only [List.cons_append, firstBad]
    split
    · exact ih
    · rename_i h
      first | rfl | rw [if_neg h]
/-- weights and values by turns -/
def inter : List Int → List Int → List Int
  | x :: xs, y :: ys => x :: y :: inter xs ys
  | _, _ => []
theorem inter_app : ∀ (a b c d : List Int), a.length = b.length → inter (a ++ c) (b ++ d) = inter a b ++ inter c d
  | [], [], _, _, _ => by simp [inter]
  | x :: a, y :: b, c, d, h => by
    have := inter_app a b c d (by simpa using h)
    simp [inter, this]
  | [], _ :: _, _, _, h => by simp at h
  | _ :: _, [], _, _, h => by simp at h
/-- a knapsack's numbers -/
def itemsP (cap : Int) (xs ys : List Int) (k : Nat) : Int := firstBad (cap :: inter (xs.take k) (ys.take k))
theorem itemsP_zero (cap : Int) (xs ys : List Int) : itemsP cap xs ys 0 = numP cap := by
  simp only [itemsP, List.take_zero, inter, firstBad]
  split
  · rename_i h; exact h.symm
  · rfl
theorem itemsP_succ {cap : Int} {xs ys : List Int} {k : Nat} {x y : Int} (hx : xs[k]? = some x) (hy : ys[k]? = some y) (h0 : itemsP cap xs ys k = 0) :
    itemsP cap xs ys (k + 1) = if numP x = 0 then numP y else numP x := by
  obtain ⟨lx, hx⟩ := List.getElem?_eq_some_iff.1 hx
  obtain ⟨ly, hy⟩ := List.getElem?_eq_some_iff.1 hy
  unfold itemsP at *
  rw [List.take_succ_eq_append_getElem lx, List.take_succ_eq_append_getElem ly, inter_app _ _ _ _ (by simp; omega), ← List.cons_append, firstBad_app, if_pos h0, hx, hy]
  simp only [inter, firstBad]
  split
  · split
    · rename_i h; exact h.symm
    · rfl
  · rfl
/-- once bad, bad for good -/
theorem itemsP_stop {cap : Int} {xs ys : List Int} {k : Nat} (hl : xs.length = ys.length) (h : itemsP cap xs ys k ≠ 0) : itemsP cap xs ys xs.length = itemsP cap xs ys k := by
  have e : inter xs ys = inter (xs.take k) (ys.take k) ++ inter (xs.drop k) (ys.drop k) := by
    rw [← inter_app _ _ _ _ (by simp [hl]), List.take_append_drop, List.take_append_drop]
  unfold itemsP at *
  rw [List.take_length, hl, List.take_length, e, ← List.cons_append, firstBad_app, if_neg h]
end Go.Proofs.Ytpfdkocelmmllaa
