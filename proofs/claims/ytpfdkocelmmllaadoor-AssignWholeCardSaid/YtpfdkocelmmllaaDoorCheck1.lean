/-
  The document's number, alone.
  The program's number and size, alone.
  Problems in form, plainly: the first bad one of a list of numbers.
-/
import Derived.Test.YtpfdkocelmmllaaDoorCopy1
namespace Go.Proofs.YtpfdkocelmmllaaDoor
open Go.RowKit Go.ChangeShapes Go.WideShapes Go.ChangeAt Go.Deep

/-- one number by itself: its error, or none -/
def numP (n : Int) : Int := if n < 0 then 1 else if 2147483647 < n then 5 else 0
theorem number_any (n : Int) (w : World) : Calls Tryd.prog 38 #[.int .i64 n] w fun e w' => e = .returned (.int .i64 (numP n)) ∧ Ext w w' := by
  unfold numP
  by_cases h1 : n < 0
  · rw [if_pos h1]
    go_enter Tryd.func38, Tryd.ntmps38
    go_wp2_with (fail)
    exact bodyPost_ret (v := .int .i64 1) (by simp [results, Tryd.results38, go_sem]) rfl ⟨rfl, by (repeat (first | assumption | exact Ext.rf _ | apply Ext.drew | apply Ext.drewN | apply Ext.alloc))⟩
  · rw [if_neg h1]
    by_cases h2 : 2147483647 < n
    · rw [if_pos h2]
      go_enter Tryd.func38, Tryd.ntmps38
      go_wp2_with (fail)
      exact bodyPost_ret (v := .int .i64 5) (by simp [results, Tryd.results38, go_sem]) rfl ⟨rfl, by (repeat (first | assumption | exact Ext.rf _ | apply Ext.drew | apply Ext.drewN | apply Ext.alloc))⟩
    · rw [if_neg h2]
      go_enter Tryd.func38, Tryd.ntmps38
      go_wp2_with (fail)
      exact bodyPost_ret (v := .int .i64 0) (by simp [results, Tryd.results38, go_sem]) rfl ⟨rfl, by (repeat (first | assumption | exact Ext.rf _ | apply Ext.drew | apply Ext.drewN | apply Ext.alloc))⟩
end Go.Proofs.YtpfdkocelmmllaaDoor
namespace Go.Proofs.YtpfdkocelmmllaaDoor
open Go.RowKit Go.ChangeShapes Go.WideShapes Go.ChangeAt Go.Deep

theorem pnumber_any (n : Int) (w : World) : Calls Tryd.prog 53 #[.int .i64 n] w fun e w' => e = .returned (.int .i64 (numP n)) ∧ Ext w w' := by
  unfold numP
  by_cases h1 : n < 0
  · rw [if_pos h1]
    go_enter Tryd.func53, Tryd.ntmps53
    go_wp2_with (fail)
    exact bodyPost_ret (v := .int .i64 1) (by simp [results, Tryd.results53, go_sem]) rfl ⟨rfl, by (repeat (first | assumption | exact Ext.rf _ | apply Ext.drew | apply Ext.drewN | apply Ext.alloc))⟩
  · rw [if_neg h1]
    by_cases h2 : 2147483647 < n
    · rw [if_pos h2]
      go_enter Tryd.func53, Tryd.ntmps53
      go_wp2_with (fail)
      exact bodyPost_ret (v := .int .i64 5) (by simp [results, Tryd.results53, go_sem]) rfl ⟨rfl, by (repeat (first | assumption | exact Ext.rf _ | apply Ext.drew | apply Ext.drewN | apply Ext.alloc))⟩
    · rw [if_neg h2]
      go_enter Tryd.func53, Tryd.ntmps53
      go_wp2_with (fail)
      exact bodyPost_ret (v := .int .i64 0) (by simp [results, Tryd.results53, go_sem]) rfl ⟨rfl, by (repeat (first | assumption | exact Ext.rf _ | apply Ext.drew | apply Ext.drewN | apply Ext.alloc))⟩
/-- the count of items or rows: its error, or none -/
def sizeP (k n : Int) : Int := if k = 1 then (if n < 1 then 1 else if 64 < n then 5 else 0) else if k = 2 then (if n < 1 then 1 else if 24 < n then 5 else 0) else if k = 3 then (if n < 1 then 1 else if 24 < n then 5 else 0) else 14
set_option maxRecDepth 100000 in
theorem size_any (k n cap : Int) (a b c : Value) (w : World) : Calls Tryd.prog 41 #[.agg #[.int .i64 k, .int .i64 n, .int .i64 cap, a, b, c]] w fun e w' => e = .returned (.int .i64 (sizeP k n)) ∧ Ext w w' := by
  unfold sizeP
  by_cases k1 : k = 1
  · subst k1
    rw [if_pos rfl]
    by_cases h1 : n < 1
    · rw [if_pos h1]
      go_enter Tryd.func41, Tryd.ntmps41
      go_wp2_with (fail)
      exact bodyPost_ret (v := .int .i64 1) (by simp [results, Tryd.results41, go_sem]) rfl ⟨rfl, by (repeat (first | assumption | exact Ext.rf _ | apply Ext.drew | apply Ext.drewN | apply Ext.alloc))⟩
    · rw [if_neg h1]
      by_cases h2 : 64 < n
      · rw [if_pos h2]
        go_enter Tryd.func41, Tryd.ntmps41
        go_wp2_with (fail)
        exact bodyPost_ret (v := .int .i64 5) (by simp [results, Tryd.results41, go_sem]) rfl ⟨rfl, by (repeat (first | assumption | exact Ext.rf _ | apply Ext.drew | apply Ext.drewN | apply Ext.alloc))⟩
      · rw [if_neg h2]
        go_enter Tryd.func41, Tryd.ntmps41
        go_wp2_with (fail)
        exact bodyPost_ret (v := .int .i64 0) (by simp [results, Tryd.results41, go_sem]) rfl ⟨rfl, by (repeat (first | assumption | exact Ext.rf _ | apply Ext.drew | apply Ext.drewN | apply Ext.alloc))⟩
  · rw [if_neg k1]
    by_cases k2 : k = 2
    · subst k2
      rw [if_pos rfl]
      by_cases h1 : n < 1
      · rw [if_pos h1]
        go_enter Tryd.func41, Tryd.ntmps41
        go_wp2_with (fail)
        exact bodyPost_ret (v := .int .i64 1) (by simp [results, Tryd.results41, go_sem]) rfl ⟨rfl, by (repeat (first | assumption | exact Ext.rf _ | apply Ext.drew | apply Ext.drewN | apply Ext.alloc))⟩
      · rw [if_neg h1]
        by_cases h2 : 24 < n
        · rw [if_pos h2]
          go_enter Tryd.func41, Tryd.ntmps41
          go_wp2_with (fail)
          exact bodyPost_ret (v := .int .i64 5) (by simp [results, Tryd.results41, go_sem]) rfl ⟨rfl, by (repeat (first | assumption | exact Ext.rf _ | apply Ext.drew | apply Ext.drewN | apply Ext.alloc))⟩
        · rw [if_neg h2]
          go_enter Tryd.func41, Tryd.ntmps41
          go_wp2_with (fail)
          exact bodyPost_ret (v := .int .i64 0) (by simp [results, Tryd.results41, go_sem]) rfl ⟨rfl, by (repeat (first | assumption | exact Ext.rf _ | apply Ext.drew | apply Ext.drewN | apply Ext.alloc))⟩
    · rw [if_neg k2]
      by_cases k3 : k = 3
      · subst k3
        rw [if_pos rfl]
        by_cases h1 : n < 1
        · rw [if_pos h1]
          go_enter Tryd.func41, Tryd.ntmps41
          go_wp2_with (fail)
          exact bodyPost_ret (v := .int .i64 1) (by simp [results, Tryd.results41, go_sem]) rfl ⟨rfl, by (repeat (first | assumption | exact Ext.rf _ | apply Ext.drew | apply Ext.drewN | apply Ext.alloc))⟩
        · rw [if_neg h1]
          by_cases h2 : 24 < n
          · rw [if_pos h2]
            go_enter Tryd.func41, Tryd.ntmps41
            go_wp2_with (fail)
            exact bodyPost_ret (v := .int .i64 5) (by simp [results, Tryd.results41, go_sem]) rfl ⟨rfl, by (repeat (first | assumption | exact Ext.rf _ | apply Ext.drew | apply Ext.drewN | apply Ext.alloc))⟩
          · rw [if_neg h2]
            go_enter Tryd.func41, Tryd.ntmps41
            go_wp2_with (fail)
            exact bodyPost_ret (v := .int .i64 0) (by simp [results, Tryd.results41, go_sem]) rfl ⟨rfl, by (repeat (first | assumption | exact Ext.rf _ | apply Ext.drew | apply Ext.drewN | apply Ext.alloc))⟩
      · rw [if_neg k3]
        go_enter Tryd.func41, Tryd.ntmps41
        go_wp2_with (fail)
        exact bodyPost_ret (v := .int .i64 14) (by simp [results, Tryd.results41, go_sem]) rfl ⟨rfl, by (repeat (first | assumption | exact Ext.rf _ | apply Ext.drew | apply Ext.drewN | apply Ext.alloc))⟩
end Go.Proofs.YtpfdkocelmmllaaDoor
namespace Go.Proofs.YtpfdkocelmmllaaDoor

def firstBad : List Int → Int
  | [] => 0
  | x :: l => if numP x = 0 then firstBad l else numP x
theorem firstBad_app (a b : List Int) : firstBad (a ++ b) = if firstBad a = 0 then firstBad b else firstBad a := by
  induction a with
  | nil => rfl
  | cons x l ih =>
    simp only [List.cons_append, firstBad]
    split
    · exact ih
    · rename_i h
      first | rfl | rw [if_neg h]
/-- weights and values by turns -/
def inter : List Int → List Int → List Int
  | x :: xs, y :: ys => x :: y :: inter xs ys
  | _, _ => []
theorem inter_app : ∀ (a b c d : List Int), a.length = b.length → inter (a ++ c) (b ++ d) = inter a b ++ inter c d
  | [], [], _, _, _ => by simp [inter]
  | x :: a, y :: b, c, d, h => by
    have := inter_app a b c d (by simpa using h)
    simp [inter, this]
  | [], _ :: _, _, _, h => by simp at h
  | _ :: _, [], _, _, h => by simp at h
/-- a knapsack's numbers -/
def itemsP (cap : Int) (xs ys : List Int) (k : Nat) : Int := firstBad (cap :: inter (xs.take k) (ys.take k))
theorem itemsP_zero (cap : Int) (xs ys : List Int) : itemsP cap xs ys 0 = numP cap := by
  simp only [itemsP, List.take_zero, inter, firstBad]
  split
  · rename_i h; exact h.symm
  · rfl
theorem itemsP_succ {cap : Int} {xs ys : List Int} {k : Nat} {x y : Int} (hx : xs[k]? = some x) (hy : ys[k]? = some y) (h0 : itemsP cap xs ys k = 0) :
    itemsP cap xs ys (k + 1) = if numP x = 0 then numP y else numP x := by
  obtain ⟨lx, hx⟩ := List.getElem?_eq_some_iff.1 hx
  obtain ⟨ly, hy⟩ := List.getElem?_eq_some_iff.1 hy
  unfold itemsP at *
  rw [List.take_succ_eq_append_getElem lx, List.take_succ_eq_append_getElem ly, inter_app _ _ _ _ (by simp; omega), ← List.cons_append, firstBad_app, if_pos h0, hx, hy]
  simp only [inter, firstBad]
  split
  · split
    · rename_i h; exact h.symm
    · rfl
  · rfl
/-- once bad, bad for good -/
theorem itemsP_stop {cap : Int} {xs ys : List Int} {k : Nat} (hl : xs.length = ys.length) (h : itemsP cap xs ys k ≠ 0) : itemsP cap xs ys xs.length = itemsP cap xs ys k := by
  have e : inter xs ys = inter (xs.take k) (ys.take k) ++ inter (xs.drop k) (ys.drop k) := by
    rw [← inter_app _ _ _ _ (by simp [hl]), List.take_append_drop, List.take_append_drop]
  unfold itemsP at *
  rw [List.take_length, hl, List.take_length, e, ← List.cons_append, firstBad_app, if_neg h]
end Go.Proofs.YtpfdkocelmmllaaDoor
