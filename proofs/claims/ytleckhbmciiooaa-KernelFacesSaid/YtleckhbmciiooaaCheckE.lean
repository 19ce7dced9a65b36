/-
  The document's number, alone.
  The program's number and size, alone.
  Problems in form, plainly: the first bad one of a list of numbers.
  The program's items.
  The program's rows: each number of a square by itself, and none from a city to itself.
  slices.IndexFunc and ContainsFunc, at a list of ints and at a list of rows, with whatever predicate that turns nothing.
  The program's shape of a problem, and Check whole.
-/
import Derived.Test.YtleckhbmciiooaaCopy1
import Derived.Shelf.Abstract
namespace Go.Proofs.Ytleckhbmciiooaa
open Go.RowKit Go.ChangeShapes Go.WideShapes Go.ChangeAt Go.Deep

/-- one number by itself: its error, or none -/
def numP (n : Int) : Int := if n < 0 then 1 else if 2147483647 < n then 5 else 0
theorem number_any (n : Int) (w : World) : Calls Try.prog 60 #[.int .i64 n] w fun e w' => e = .returned (.int .i64 (numP n)) ∧ Ext w w' := by
  unfold numP
  by_cases h1 : n < 0
  · rw [if_pos h1]
    go_enter Try.func60, Try.ntmps60
    go_wp2_with (fail)
    exact bodyPost_ret (v := .int .i64 1) (by simp [results, Try.results60, go_sem]) rfl ⟨rfl, by (repeat (first | assumption | exact Ext.rf _ | apply Ext.drew | apply Ext.drewN | apply Ext.alloc))⟩
  · rw [if_neg h1]
    by_cases h2 : 2147483647 < n
    · rw [if_pos h2]
      go_enter Try.func60, Try.ntmps60
      go_wp2_with (fail)
      exact bodyPost_ret (v := .int .i64 5) (by simp [results, Try.results60, go_sem]) rfl ⟨rfl, by (repeat (first | assumption | exact Ext.rf _ | apply Ext.drew | apply Ext.drewN | apply Ext.alloc))⟩
    · rw [if_neg h2]
      go_enter Try.func60, Try.ntmps60
      go_wp2_with (fail)
      exact bodyPost_ret (v := .int .i64 0) (by simp [results, Try.results60, go_sem]) rfl ⟨rfl, by (repeat (first | assumption | exact Ext.rf _ | apply Ext.drew | apply Ext.drewN | apply Ext.alloc))⟩
end Go.Proofs.Ytleckhbmciiooaa
namespace Go.Proofs.Ytleckhbmciiooaa
open Go.RowKit Go.ChangeShapes Go.WideShapes Go.ChangeAt Go.Deep

theorem pnumber_any (n : Int) (w : World) : Calls Try.prog 142 #[.int .i64 n] w fun e w' => e = .returned (.int .i64 (numP n)) ∧ Ext w w' := by
  unfold numP
  by_cases h1 : n < 0
  · rw [if_pos h1]
    go_enter Try.func142, Try.ntmps142
    go_wp2_with (fail)
    exact bodyPost_ret (v := .int .i64 1) (by simp [results, Try.results142, go_sem]) rfl ⟨rfl, by (repeat (first | assumption | exact Ext.rf _ | apply Ext.drew | apply Ext.drewN | apply Ext.alloc))⟩
  · rw [if_neg h1]
    by_cases h2 : 2147483647 < n
    · rw [if_pos h2]
      go_enter Try.func142, Try.ntmps142
      go_wp2_with (fail)
      exact bodyPost_ret (v := .int .i64 5) (by simp [results, Try.results142, go_sem]) rfl ⟨rfl, by (repeat (first | assumption | exact Ext.rf _ | apply Ext.drew | apply Ext.drewN | apply Ext.alloc))⟩
    · rw [if_neg h2]
      go_enter Try.func142, Try.ntmps142
      go_wp2_with (fail)
      exact bodyPost_ret (v := .int .i64 0) (by simp [results, Try.results142, go_sem]) rfl ⟨rfl, by (repeat (first | assumption | exact Ext.rf _ | apply Ext.drew | apply Ext.drewN | apply Ext.alloc))⟩
/-- the count of items or rows: its error, or none -/
def sizeP (k n : Int) : Int := if k = 1 then (if n < 1 then 1 else if 64 < n then 5 else 0) else if k = 2 then (if n < 1 then 1 else if 24 < n then 5 else 0) else if k = 3 then (if n < 1 then 1 else if 24 < n then 5 else 0) else 14
set_option maxRecDepth 100000 in
theorem size_any (k n cap : Int) (a b c : Value) (w : World) : Calls Try.prog 99 #[.agg #[.int .i64 k, .int .i64 n, .int .i64 cap, a, b, c]] w fun e w' => e = .returned (.int .i64 (sizeP k n)) ∧ Ext w w' := by
  unfold sizeP
  by_cases k1 : k = 1
  · subst k1
    rw [if_pos rfl]
    by_cases h1 : n < 1
    · rw [if_pos h1]
      go_enter Try.func99, Try.ntmps99
      go_wp2_with (fail)
      exact bodyPost_ret (v := .int .i64 1) (by simp [results, Try.results99, go_sem]) rfl ⟨rfl, by (repeat (first | assumption | exact Ext.rf _ | apply Ext.drew | apply Ext.drewN | apply Ext.alloc))⟩
    · rw [if_neg h1]
      by_cases h2 : 64 < n
      · rw [if_pos h2]
        go_enter Try.func99, Try.ntmps99
        go_wp2_with (fail)
        exact bodyPost_ret (v := .int .i64 5) (by simp [results, Try.results99, go_sem]) rfl ⟨rfl, by (repeat (first | assumption | exact Ext.rf _ | apply Ext.drew | apply Ext.drewN | apply Ext.alloc))⟩
      · rw [if_neg h2]
        go_enter Try.func99, Try.ntmps99
        go_wp2_with (fail)
        exact bodyPost_ret (v := .int .i64 0) (by simp [results, Try.results99, go_sem]) rfl ⟨rfl, by (repeat (first | assumption | exact Ext.rf _ | apply Ext.drew | apply Ext.drewN | apply Ext.alloc))⟩
  · rw [if_neg k1]
    by_cases k2 : k = 2
    · subst k2
      rw [if_pos rfl]
      by_cases h1 : n < 1
      · rw [if_pos h1]
        go_enter Try.func99, Try.ntmps99
        go_wp2_with (fail)
        exact bodyPost_ret (v := .int .i64 1) (by simp [results, Try.results99, go_sem]) rfl ⟨rfl, by (repeat (first | assumption | exact Ext.rf _ | apply Ext.drew | apply Ext.drewN | apply Ext.alloc))⟩
      · rw [if_neg h1]
        by_cases h2 : 24 < n
        · rw [if_pos h2]
          go_enter Try.func99, Try.ntmps99
          go_wp2_with (fail)
          exact bodyPost_ret (v := .int .i64 5) (by simp [results, Try.results99, go_sem]) rfl ⟨rfl, by (repeat (first | assumption | exact Ext.rf _ | apply Ext.drew | apply Ext.drewN | apply Ext.alloc))⟩
        · rw [if_neg h2]
          go_enter Try.func99, Try.ntmps99
          go_wp2_with (fail)
          exact bodyPost_ret (v := .int .i64 0) (by simp [results, Try.results99, go_sem]) rfl ⟨rfl, by (repeat (first | assumption | exact Ext.rf _ | apply Ext.drew | apply Ext.drewN | apply Ext.alloc))⟩
    · rw [if_neg k2]
      by_cases k3 : k = 3
      · subst k3
        rw [if_pos rfl]
        by_cases h1 : n < 1
        · rw [if_pos h1]
          go_enter Try.func99, Try.ntmps99
          go_wp2_with (fail)
          exact bodyPost_ret (v := .int .i64 1) (by simp [results, Try.results99, go_sem]) rfl ⟨rfl, by (repeat (first | assumption | exact Ext.rf _ | apply Ext.drew | apply Ext.drewN | apply Ext.alloc))⟩
        · rw [if_neg h1]
          by_cases h2 : 24 < n
          · rw [if_pos h2]
            go_enter Try.func99, Try.ntmps99
            go_wp2_with (fail)
            exact bodyPost_ret (v := .int .i64 5) (by simp [results, Try.results99, go_sem]) rfl ⟨rfl, by (repeat (first | assumption | exact Ext.rf _ | apply Ext.drew | apply Ext.drewN | apply Ext.alloc))⟩
          · rw [if_neg h2]
            go_enter Try.func99, Try.ntmps99
            go_wp2_with (fail)
            exact bodyPost_ret (v := .int .i64 0) (by simp [results, Try.results99, go_sem]) rfl ⟨rfl, by (repeat (first | assumption | exact Ext.rf _ | apply Ext.drew | apply Ext.drewN | apply Ext.alloc))⟩
      · rw [if_neg k3]
        go_enter Try.func99, Try.ntmps99
        go_wp2_with (fail)
        exact bodyPost_ret (v := .int .i64 14) (by simp [results, Try.results99, go_sem]) rfl ⟨rfl, by (repeat (first | assumption | exact Ext.rf _ | apply Ext.drew | apply Ext.drewN | apply Ext.alloc))⟩
end Go.Proofs.Ytleckhbmciiooaa
namespace Go.Proofs.Ytleckhbmciiooaa

def firstBad : List Int → Int
  | [] => 0
  | x :: l => if numP x = 0 then firstBad l else numP x
theorem firstBad_app (a b : List Int) : firstBad (a ++ b) = if firstBad a = 0 then firstBad b else firstBad a := by
  induction a with
  | nil => rfl
  | cons x l ih =>
    simp only [List.cons_append, firstBad]
    split
    · exact ih
    · rename_i h
      first | rfl | rw [if_neg h]
/-- weights and values by turns -/
def inter : List Int → List Int → List Int
  | x :: xs, y :: ys => x :: y :: inter xs ys
  | _, _ => []
theorem inter_app : ∀ (a b c d : List Int), a.length = b.length → inter (a ++ c) (b ++ d) = inter a b ++ inter c d
  | [], [], _, _, _ => by simp [inter]
  | x :: a, y :: b, c, d, h => by
    have := inter_app a b c d (by simpa using h)
    simp [inter, this]
  | [], _ :: _, _, _, h => by simp at h
  | _ :: _, [], _, _, h => by simp at h
/-- a knapsack's numbers -/
def itemsP (cap : Int) (xs ys : List Int) (k : Nat) : Int := firstBad (cap :: inter (xs.take k) (ys.take k))
theorem itemsP_zero (cap : Int) (xs ys : List Int) : itemsP cap xs ys 0 = numP cap := by
  simp only [itemsP, List.take_zero, inter, firstBad]
  split
  · rename_i h; exact h.symm
  · rfl
theorem itemsP_succ {cap : Int} {xs ys : List Int} {k : Nat} {x y : Int} (hx : xs[k]? = some x) (hy : ys[k]? = some y) (h0 : itemsP cap xs ys k = 0) :
    itemsP cap xs ys (k + 1) = if numP x = 0 then numP y else numP x := by
  obtain ⟨lx, hx⟩ := List.getElem?_eq_some_iff.1 hx
  obtain ⟨ly, hy⟩ := List.getElem?_eq_some_iff.1 hy
  unfold itemsP at *
  rw [List.take_succ_eq_append_getElem lx, List.take_succ_eq_append_getElem ly, inter_app _ _ _ _ (by simp; omega), ← List.cons_append, firstBad_app, if_pos h0, hx, hy]
  simp only [inter, firstBad]
  split
  · split
    · rename_i h; exact h.symm
    · rfl
  · rfl
/-- once bad, bad for good -/
theorem itemsP_stop {cap : Int} {xs ys : List Int} {k : Nat} (hl : xs.length = ys.length) (h : itemsP cap xs ys k ≠ 0) : itemsP cap xs ys xs.length = itemsP cap xs ys k := by
  have e : inter xs ys = inter (xs.take k) (ys.take k) ++ inter (xs.drop k) (ys.drop k) := by
    rw [← inter_app _ _ _ _ (by simp [hl]), List.take_append_drop, List.take_append_drop]
  unfold itemsP at *
  rw [List.take_length, hl, List.take_length, e, ← List.cons_append, firstBad_app, if_neg h]
end Go.Proofs.Ytleckhbmciiooaa
namespace Go.Proofs.Ytleckhbmciiooaa
open Go.RowKit Go.ChangeShapes Go.WideShapes Go.ChangeAt Go.Deep

set_option maxRecDepth 100000 in
set_option maxHeartbeats 2000000 in
theorem items_any (A B : Option Addr) (a b : Nat) (k cap : Int) (xs ys : List Int) (C : Value) (w : World) (hA : RdI w A xs) (hB : RdI w B ys) (la : xs.length ≤ a) (ma : a ≤ maxLen) (lb : ys.length ≤ b) (mb : b ≤ maxLen) (hxy : xs.length = ys.length) :
    Calls Try.prog 101 #[.agg #[.int .i64 k, .int .i64 xs.length, .int .i64 cap, .slice A xs.length a, .slice B ys.length b, C]] w fun e w' => e = .returned (.int .i64 (itemsP cap xs ys xs.length)) ∧ Ext w w' := by
  unfold maxLen at ma mb
  replace hxy := Lib.hid hxy
  have B1 : Hid (Blk (w.alloc (.cells #[.int .i64 k, .int .i64 xs.length, .int .i64 cap, .slice A xs.length a, .slice B ys.length b, C] 25)) w.heap.size 25 #[.int .i64 k, .int .i64 xs.length, .int .i64 cap, .slice A xs.length a, .slice B ys.length b, C]) := .new rfl
  have X : Hid (Ext w (w.alloc (.cells #[.int .i64 k, .int .i64 xs.length, .int .i64 cap, .slice A xs.length a, .slice B ys.length b, C] 25))) := (Ext.rf _).alloc _
  have hC := Lib.hid (pnumber_any cap)
  go_enter Try.func101, Try.ntmps101
  go_wp2_with (fail)
  refine (pnumber_any cap _).mono ?_
  rintro e w2 ⟨rfl, x2⟩
  go_wp2_with (fail)
  go_loopw [3, 4] (fun e i wr => ∃ j : Nat, i = .int .i64 j ∧ e = .int .i64 (itemsP cap xs ys j) ∧ j ≤ xs.length ∧ Ext w wr ∧ Hid (Blk wr w.heap.size 25 #[.int .i64 k, .int .i64 xs.length, .int .i64 cap, .slice A xs.length a, .slice B ys.length b, C])) (fun _ i _ => xs.length - (intOf i).toNat)
  case atStart => exact ⟨0, rfl, by rw [itemsP_zero], by omega, Ext.tr (a := w) (by (repeat (first | assumption | exact Ext.rf _ | apply Ext.drew | apply Ext.drewN | apply Ext.alloc))) x2, B1.out.ext x2⟩
  case round =>
    obtain ⟨wo, rfl⟩ : ∃ wo : World, wo = wr := ⟨_, rfl⟩
    obtain ⟨j, rfl, rfl, hj, Y, B2⟩ := hrel
    have c1 : wo.cell? ⟨w.heap.size, 1, none⟩ = some (.int .i64 xs.length) := B2.out.cell 1
    have c3 : wo.cell? ⟨w.heap.size, 3, none⟩ = some (.slice A xs.length a) := B2.out.cell 3
    have c4 : wo.cell? ⟨w.heap.size, 4, none⟩ = some (.slice B ys.length b) := B2.out.cell 4
    have cA := hA.ext Y
    have cB := hB.ext Y
    by_cases he : itemsP cap xs ys j = 0
    · have he' : (itemsP cap xs ys j == 0) = true := by rw [beq_iff_eq]; exact he
      have HE := Lib.hid he
      clear he
      by_cases hlt : j < xs.length
      · obtain ⟨bb, off, x, rfl, _, hc1, hx1, _⟩ := cA.at hlt
        obtain ⟨bb', off', y, rfl, _, hc2, hy1, _⟩ := cB.at (k := j) (by have := hxy.out; omega)
        have hlt2 : j < ys.length := by have := hxy.out; omega
        have S := Lib.hid (itemsP_succ hx1.out hy1.out HE.out)
        go_wp2_with (fail)
        refine (pnumber_any x _).mono ?_
        rintro e w3 ⟨rfl, x3⟩
        have Y3 := Ext.tr Y x3
        have B3 := B2.out.ext x3
        have c4' : w3.cell? ⟨w.heap.size, 4, none⟩ = some (.slice (some ⟨bb', off', none⟩) ys.length b) := B3.cell 4
        have hc2' := (x3.cells.1 _ (off' + j) (by assumption)).trans hc2
        by_cases hn : numP x = 0
        · have hn' : (numP x == 0) = true := by rw [beq_iff_eq]; exact hn
          have HN := Lib.hid hn
          clear hn
          go_wp2_with (fail)
          refine (pnumber_any y _).mono ?_
          rintro e w4 ⟨rfl, x4⟩
          have Y4 := Ext.tr Y3 x4
          have B4 := Lib.hid (B3.ext x4)
          have HR : Hid (itemsP cap xs ys (j + 1) = numP y) := by
            have h1 := S.out
            rw [if_pos HN.out] at h1
            exact h1
          clear c1 c3 c4 c4' hc1 hc2 hc2' he' hn'
          go_wp2
          go_roundw
          case rel => exact ⟨j + 1, by go_num, by rw [HR.out], by omega, Y4, B4⟩
          case measure => simp [intOf]; omega
        · have hn' : (numP x == 0) = false := by rw [beq_eq_false_iff_ne]; exact hn
          have HR : Hid (itemsP cap xs ys (j + 1) = numP x) := by
            have h1 := S.out
            rw [if_neg hn] at h1
            exact h1
          clear hn
          have B4 := Lib.hid B3
          clear c1 c3 c4 c4' hc1 hc2 hc2' he' B3
          go_wp2
          go_roundw
          case rel => exact ⟨j + 1, by go_num, by rw [HR.out], by omega, Y3, B4⟩
          case measure => simp [intOf]; omega
      · obtain rfl : j = xs.length := by omega
        clear cA cB c3 c4
        go_wp2
        go_ret
        exact ⟨rfl, Y⟩
    · have he' : (itemsP cap xs ys j == 0) = false := by rw [beq_eq_false_iff_ne]; exact he
      have HE : Hid (itemsP cap xs ys xs.length = itemsP cap xs ys j) := itemsP_stop hxy.out he
      clear he cA cB c3 c4
      by_cases hlt : j < xs.length
      · go_wp2
        go_ret
        exact ⟨ret_i HE.out.symm, Y⟩
      · go_wp2
        go_ret
        exact ⟨ret_i HE.out.symm, Y⟩
end Go.Proofs.Ytleckhbmciiooaa
namespace Go.Proofs.Ytleckhbmciiooaa
open Go.RowKit Go.ChangeShapes Go.WideShapes Go.ChangeAt Go.Deep

/-- of row r, from column c on: the first error -/
def rowE (k : Int) (r c : Nat) : List Int → Int
  | [] => 0
  | n :: l => if numP n = 0 then (if k = 3 ∧ r = c ∧ n ≠ 0 then 8 else rowE k r (c + 1) l) else numP n
/-- from row r on -/
def rowsE (k : Int) (r : Nat) : List (List Int) → Int
  | [] => 0
  | row :: l => if rowE k r 0 row = 0 then rowsE k (r + 1) l else rowE k r 0 row
theorem RdE.ints {w : World} {A : Option Addr} {l : List (List Int)} (h : RdE 1 RInts w A l) {r : Nat} (hr : r < l.length) :
    ∃ b off B row c, A = some ⟨b, off, none⟩ ∧ b < w.heap.size ∧ w.cell? ⟨b, off + r, none⟩ = some (.slice B row.length c) ∧ Hid (l[r]? = some row) ∧ Hid (l.drop r = row :: l.drop (r + 1)) ∧ RdI w B row ∧ Ints row ∧ row.length ≤ c ∧ c ≤ 9223372036854775807 := by
  obtain ⟨b, off, cs, row, rfl, hb, ⟨B, c, rfl, h1, h2, h3, h4⟩, _, hc, he⟩ := h.at hr
  have hc0 := hc 0 _ rfl
  unfold maxLen at h4
  have he' := he.out
  refine ⟨b, off, B, row, c, rfl, hb, by simpa using hc0, he, ?_, h1, h2, h3, h4⟩
  obtain ⟨hl, hv⟩ := List.getElem?_eq_some_iff.1 he'
  exact (by rw [List.drop_eq_getElem_cons hl, hv] : l.drop r = row :: l.drop (r + 1))
set_option maxRecDepth 100000 in
set_option maxHeartbeats 2000000 in
theorem rows_any (k n cap : Int) (A B : Value) (C : Option Addr) (c : Nat) (l : List (List Int)) (w : World) (hC : RdE 1 RInts w C l) (lc : l.length ≤ c) (mc : c ≤ maxLen) :
    Calls Try.prog 102 #[.agg #[.int .i64 k, .int .i64 n, .int .i64 cap, A, B, .slice C l.length c]] w fun e w' => e = .returned (.int .i64 (rowsE k 0 l)) ∧ Ext w w' := by
  unfold maxLen at mc
  have B1 : Hid (Blk (w.alloc (.cells #[.int .i64 k, .int .i64 n, .int .i64 cap, A, B, .slice C l.length c] 25)) w.heap.size 25 #[.int .i64 k, .int .i64 n, .int .i64 cap, A, B, .slice C l.length c]) := .new rfl
  go_enter Try.func102, Try.ntmps102
  go_wp2_with (fail)
  go_loopw [11] (fun i wr => ∃ r : Nat, i = .int .i64 r ∧ r ≤ l.length ∧ Hid (rowsE k 0 l = rowsE k r (l.drop r)) ∧ Ext w wr ∧ Hid (Blk wr w.heap.size 25 #[.int .i64 k, .int .i64 n, .int .i64 cap, A, B, .slice C l.length c])) (fun i _ => l.length - (intOf i).toNat)
  case atStart => exact ⟨0, rfl, by omega, by exact rfl, by (repeat (first | assumption | exact Ext.rf _ | apply Ext.drew | apply Ext.drewN | apply Ext.alloc)), B1⟩
  case round =>
    obtain ⟨wo, rfl⟩ : ∃ wo : World, wo = wr := ⟨_, rfl⟩
    obtain ⟨r, rfl, hr, HT, Y, B2⟩ := hrel
    by_cases hlt : r < l.length
    · obtain ⟨b, off, D, row, d, rfl, _, hc1, _, HD, rr, ir, ld, md⟩ := (hC.ext Y fun _ _ h => h.ext Y).ints hlt
      go_wp2_with (fail)
      go_loopw [18] (fun i wr => ∃ j : Nat, i = .int .i64 j ∧ j ≤ row.length ∧ Hid (rowE k r 0 row = rowE k r j (row.drop j)) ∧ Ext w wr ∧ Ext wo wr ∧ Hid (Blk wr w.heap.size 25 #[.int .i64 k, .int .i64 n, .int .i64 cap, A, B, .slice (some ⟨b, off, none⟩) l.length c])) (fun i _ => row.length - (intOf i).toNat)
      case atStart => exact ⟨0, rfl, by omega, by exact rfl, Y, Ext.rf _, B2⟩
      case round =>
        obtain ⟨j, rfl, hj, HJ, Y2, X2, B3⟩ := hrel
        by_cases hlj : j < row.length
        · obtain ⟨bb, off', x, rfl, _, hc2, _, hd2⟩ := (rr.ext X2).at hlj
          go_wp2_with (fail)
          refine (pnumber_any x _).mono ?_
          rintro e w3 ⟨rfl, x3⟩
          have Y3 := Ext.tr Y2 x3
          have X3 := Ext.tr X2 x3
          have B4 := Lib.hid (B3.out.ext x3)
          have k0 : w3.cell? ⟨w.heap.size, 0, none⟩ = some (.int .i64 k) := B4.out.cell 0
          by_cases hn : numP x = 0
          · have hn' : (numP x != 0) = false := by simpa using hn
            have HN := Lib.hid hn
            clear hn hc1 hc2
            by_cases k3 : k = 3
            · subst k3
              by_cases hrj : r = j
              · subst hrj
                by_cases hx : x = 0
                · have hx' : (x != 0) = false := by simpa using hx
                  have HR : Hid (rowE 3 r 0 row = rowE 3 r (r + 1) (row.drop (r + 1))) := by
                    have h1 := HJ.out
                    rw [hd2.out, rowE, if_pos HN.out, if_neg (by simp [hx])] at h1
                    exact h1
                  clear hx
                  go_wp2
                  go_roundw
                  case rel => exact ⟨r + 1, by go_num, by omega, HR, Y3, X3, B4⟩
                  case measure => simp [intOf]; omega
                · have hx' : (x != 0) = true := by simpa using hx
                  have HR : Hid (rowsE 3 0 l = 8) := by
                    have h1 := HJ.out
                    rw [hd2.out, rowE, if_pos HN.out, if_pos ⟨rfl, rfl, hx⟩] at h1
                    have h2 := HT.out
                    rw [HD.out, rowsE, h1] at h2
                    exact h2
                  clear hx
                  go_wp2
                  go_ret
                  exact ⟨ret_i HR.out.symm, Y3⟩
              · have hrj' : ((r : Int) == (j : Int)) = false := by rw [beq_eq_false_iff_ne]; omega
                have HR : Hid (rowE 3 r 0 row = rowE 3 r (j + 1) (row.drop (j + 1))) := by
                  have h1 := HJ.out
                  rw [hd2.out, rowE, if_pos HN.out, if_neg (by simp [hrj])] at h1
                  exact h1
                go_wp2
                go_roundw
                case rel => exact ⟨j + 1, by go_num, by omega, HR, Y3, X3, B4⟩
                case measure => simp [intOf]; omega
            · have k3' : (k == 3) = false := by rw [beq_eq_false_iff_ne]; exact k3
              have HR : Hid (rowE k r 0 row = rowE k r (j + 1) (row.drop (j + 1))) := by
                have h1 := HJ.out
                rw [hd2.out, rowE, if_pos HN.out, if_neg (by simp [k3])] at h1
                exact h1
              clear k3
              go_wp2
              go_roundw
              case rel => exact ⟨j + 1, by go_num, by omega, HR, Y3, X3, B4⟩
              case measure => simp [intOf]; omega
          · have hn' : (numP x != 0) = true := by simpa using hn
            have HR : Hid (rowsE k 0 l = numP x) := by
              have h1 := HJ.out
              rw [hd2.out, rowE, if_neg hn] at h1
              have h2 := HT.out
              rw [HD.out, rowsE, h1, if_neg hn] at h2
              exact h2
            clear hn hc1 hc2
            go_wp2
            go_ret
            exact ⟨ret_i HR.out.symm, Y3⟩
        · have hd2 := drop_nil (xs := row) (k := j) (by omega)
          have HR : Hid (rowsE k 0 l = rowsE k (r + 1) (l.drop (r + 1))) := by
            have h1 := HJ.out
            rw [hd2.out, rowE] at h1
            have h2 := HT.out
            rw [HD.out, rowsE, if_pos h1] at h2
            exact h2
          clear hc1
          go_wp2
          go_roundw
          case rel => exact ⟨r + 1, by go_num, by omega, HR, Y2, B3⟩
          case measure => simp [intOf]; omega
    · have hd := drop_nil (xs := l) (k := r) (by omega)
      have HR : Hid (rowsE k 0 l = 0) := by
        have h1 := HT.out
        rw [hd.out, rowsE] at h1
        exact h1
      clear hd
      go_wp2
      go_ret
      exact ⟨ret_i HR.out.symm, Y⟩
end Go.Proofs.Ytleckhbmciiooaa
namespace Go.Proofs.Ytleckhbmciiooaa
open Go.RowKit Go.ChangeShapes Go.WideShapes Go.ChangeAt Go.Deep

/-- the first place at which it holds, or -1 -/
def idxP {α : Type} (p : α → Bool) (k : Nat) : List α → Int
  | [] => -1
  | x :: l => if p x then (k : Int) else idxP p (k + 1) l
theorem idxP_any {α : Type} (p : α → Bool) : ∀ (k : Nat) (l : List α), decide (0 ≤ idxP p k l) = l.any p
  | k, [] => by simp [idxP]
  | k, x :: l => by
    unfold idxP
    cases h : p x with
    | true => simp [h]
    | false => simpa [h] using idxP_any p (k + 1) l
theorem idxP_bd {α : Type} (p : α → Bool) : ∀ (k : Nat) (l : List α), -1 ≤ idxP p k l ∧ idxP p k l ≤ k + l.length
  | k, [] => by simp only [idxP, List.length_nil]; omega
  | k, x :: l => by
    unfold idxP
    cases h : p x with
    | true => simp; omega
    | false => have := idxP_bd p (k + 1) l; simp at this ⊢; omega
def BoolOf {α : Type} (g : Nat) (lb : Array Value) (enc : α → Value) (p : α → Bool) (xs : List α) (w : World) : Prop :=
  ∀ (W : World) (x : α), x ∈ xs → Ext w W → Calls Try.prog g (#[enc x] ++ lb) W fun e w' => e = .returned (.bool (p x)) ∧ Ext W w'
set_option maxRecDepth 100000 in
set_option maxHeartbeats 1000000 in
theorem idx_rows (g : Nat) (lb : Array Value) (p : Nat → Bool) (eg : ∀ args w, (callFunc g args).run Try.prog w = .ok (.enter g args) w) (C : Option Addr) (c : Nat) (l : List (List Int)) (w : World) (hC : RdE 1 RInts w C l) (lx : l.length ≤ maxLen)
    (hp : ∀ (W : World) (B : Option Addr) (r : List Int) (d : Nat), r ∈ l → Ext w W → Calls Try.prog g (#[.slice B r.length d] ++ lb) W fun e w' => e = .returned (.bool (p r.length)) ∧ Ext W w') :
    Calls Try.prog 165 #[.slice C l.length c, .func (.func g) #[] lb] w fun e w' => e = .returned (.int .i64 (idxP (fun r : List Int => p r.length) 0 l)) ∧ Ext w w' := by
  unfold maxLen at lx
  go_enter Try.func165, Try.ntmps165
  go_wp2_with (fail)
  go_loopw [8] (fun i wr => ∃ j : Nat, i = .int .i64 j ∧ j ≤ l.length ∧ Hid (idxP (fun r : List Int => p r.length) 0 l = idxP (fun r : List Int => p r.length) j (l.drop j)) ∧ Ext w wr) (fun i _ => l.length - (intOf i).toNat)
  case atStart => exact ⟨0, rfl, by omega, by exact rfl, Ext.rf _⟩
  case round =>
    obtain ⟨j, rfl, hj, HJ, Y⟩ := hrel
    by_cases hlt : j < l.length
    · obtain ⟨b, off, D, row, d, rfl, _, hc1, hx, hd, rr, ir, ld, md⟩ := (hC.ext Y fun _ _ h => h.ext Y).ints hlt
      have hcall := hp wr D row d (List.mem_of_getElem? hx.out) Y
      clear hp
      cases hq : p row.length with
      | true =>
        rw [hq] at hcall
        have HR : Hid (idxP (fun r : List Int => p r.length) 0 l = j) := by
          have h1 := HJ.out
          rw [hd.out, idxP, if_pos hq] at h1
          exact h1
        clear hq
        go_wp2_with (go_at_fn g; refine hcall.mono ?_; rintro e w' ⟨rfl, x'⟩)
        go_ret
        exact ⟨ret_i HR.out.symm, Ext.tr Y x'⟩
      | false =>
        rw [hq] at hcall
        have HR : Hid (idxP (fun r : List Int => p r.length) 0 l = idxP (fun r : List Int => p r.length) (j + 1) (l.drop (j + 1))) := by
          have h1 := HJ.out
          rw [hd.out, idxP, if_neg (by simp [hq])] at h1
          exact h1
        clear hq
        go_wp2_with (go_at_fn g; refine hcall.mono ?_; rintro e w' ⟨rfl, x'⟩)
        go_roundw
        case rel => exact ⟨j + 1, by go_num, by omega, HR, Ext.tr Y x'⟩
        case measure => simp [intOf]; omega
    · have hd := drop_nil (xs := l) (k := j) (by omega)
      have HR : Hid (idxP (fun r : List Int => p r.length) 0 l = -1) := by
        have h1 := HJ.out
        rw [hd.out, idxP] at h1
        exact h1
      clear hd hp
      go_wp2
      go_ret
      exact ⟨ret_i HR.out.symm, Y⟩
set_option maxRecDepth 100000 in
theorem has_rows (g : Nat) (lb : Array Value) (p : Nat → Bool) (eg : ∀ args w, (callFunc g args).run Try.prog w = .ok (.enter g args) w) (C : Option Addr) (c : Nat) (l : List (List Int)) (w : World) (hC : RdE 1 RInts w C l) (lx : l.length ≤ maxLen)
    (hp : ∀ (W : World) (B : Option Addr) (r : List Int) (d : Nat), r ∈ l → Ext w W → Calls Try.prog g (#[.slice B r.length d] ++ lb) W fun e w' => e = .returned (.bool (p r.length)) ∧ Ext W w') :
    Calls Try.prog 140 #[.slice C l.length c, .func (.func g) #[] lb] w fun e w' => e = .returned (.bool (l.any fun r => p r.length)) ∧ Ext w w' := by
  have H := Lib.hid (idxP_any (fun r : List Int => p r.length) 0 l)
  go_enter Try.func140, Try.ntmps140
  go_wp2_with (fail)
  refine (idx_rows g lb p eg C c l _ hC lx hp).mono ?_
  rintro e w' ⟨rfl, x'⟩
  clear hp
  go_wp2
  go_ret
  exact ⟨ret_b H.out, x'⟩
/-- the closure of inst.shape -/
theorem lens_any (B : Option Addr) (m d : Nat) (g : Nat) (n : Int) (cs : Array Value) (w : World) (hg : Blk w g 25 cs) (hn : cs[1]? = some (.int .i64 n)) :
    Calls Try.prog 141 (#[.slice B m d] ++ #[.pointer (some ⟨g, 0, none⟩)]) w fun e w' => e = .returned (.bool ((m : Int) != n)) ∧ Ext w w' := by
  have c1 : w.cell? ⟨g, 1, none⟩ = some (.int .i64 n) := (hg.cell 1).trans hn
  replace hg := Lib.hid hg
  replace hn := Lib.hid hn
  go_enter Try.func141, Try.ntmps141
  go_wp2
  go_ret
  exact ⟨rfl, Ext.rf _⟩
theorem lens_enters : ∀ args w, (callFunc 141 args).run Try.prog w = .ok (.enter 141 args) w := enters_of Try.func141 (by kernel_rfl) rfl
end Go.Proofs.Ytleckhbmciiooaa
namespace Go.Proofs.Ytleckhbmciiooaa
open Go.RowKit Go.ChangeShapes Go.WideShapes Go.ChangeAt Go.Deep

/-- lists of the right lengths -/
def shapeP (i : InstP) : Bool :=
  if i.kind = 1 then ((i.weight.length : Int) == i.n) && ((i.value.length : Int) == i.n) && ((i.cost.length : Int) == 0)
  else (((i.cost.length : Int) == i.n) && (i.cap == 0) && decide (i.weight.length + i.value.length = 0)) && !(i.cost.any fun r => (r.length : Int) != i.n)
/-- in form? -/
def checkP (i : InstP) : Int :=
  if sizeP i.kind i.n = 0 then (if shapeP i = true then (if i.kind = 1 then itemsP i.cap i.weight i.value i.weight.length else rowsE i.kind 0 i.cost) else 8) else sizeP i.kind i.n
set_option maxRecDepth 100000 in
set_option maxHeartbeats 4000000 in
theorem shape1_any (n cap : Int) (A B C : Option Addr) (a b c : Nat) (xs ys : List Int) (l : List (List Int)) (w : World) :
    Calls Try.prog 100 #[.agg #[.int .i64 1, .int .i64 n, .int .i64 cap, .slice A xs.length a, .slice B ys.length b, .slice C l.length c]] w fun e w' => e = .returned (.bool (((xs.length : Int) == n) && ((ys.length : Int) == n) && ((l.length : Int) == 0))) ∧ Ext w w' := by
  cases h1 : ((xs.length : Int) == n)
  · go_enter Try.func100, Try.ntmps100
    go_wp2
    go_ret
    exact ⟨rfl, by (repeat (first | assumption | exact Ext.rf _ | apply Ext.drew | apply Ext.drewN | apply Ext.alloc))⟩
  · cases h2 : ((ys.length : Int) == n)
    · go_enter Try.func100, Try.ntmps100
      go_wp2
      go_ret
      exact ⟨rfl, by (repeat (first | assumption | exact Ext.rf _ | apply Ext.drew | apply Ext.drewN | apply Ext.alloc))⟩
    · cases h3 : ((l.length : Int) == 0)
      · go_enter Try.func100, Try.ntmps100
        go_wp2
        go_ret
        exact ⟨rfl, by (repeat (first | assumption | exact Ext.rf _ | apply Ext.drew | apply Ext.drewN | apply Ext.alloc))⟩
      · go_enter Try.func100, Try.ntmps100
        go_wp2
        go_ret
        exact ⟨rfl, by (repeat (first | assumption | exact Ext.rf _ | apply Ext.drew | apply Ext.drewN | apply Ext.alloc))⟩
set_option maxRecDepth 100000 in
set_option maxHeartbeats 4000000 in
theorem shape0_any (k n cap : Int) (A B C : Option Addr) (a b c : Nat) (xs ys : List Int) (l : List (List Int)) (w : World) (hk : k ≠ 1) (hC : RdE 1 RInts w C l) (lc : l.length ≤ c) (mc : c ≤ maxLen) (lx : xs.length ≤ 1000000000) (ly : ys.length ≤ 1000000000) :
    Calls Try.prog 100 #[.agg #[.int .i64 k, .int .i64 n, .int .i64 cap, .slice A xs.length a, .slice B ys.length b, .slice C l.length c]] w fun e w' => e = .returned (.bool ((((l.length : Int) == n) && (cap == 0) && decide (xs.length + ys.length = 0)) && !(l.any fun r => (r.length : Int) != n))) ∧ Ext w w' := by
  have B1 : Hid (Blk (w.alloc (.cells #[.int .i64 k, .int .i64 n, .int .i64 cap, .slice A xs.length a, .slice B ys.length b, .slice C l.length c] 25)) w.heap.size 25 #[.int .i64 k, .int .i64 n, .int .i64 cap, .slice A xs.length a, .slice B ys.length b, .slice C l.length c]) := .new rfl
  have hk' : (k == 1) = false := by simpa using hk
  have lm : l.length ≤ maxLen := by omega
  replace hC := Lib.hid hC
  replace mc := Lib.hid mc
  replace lm := Lib.hid lm
  clear hk
  cases h1 : ((l.length : Int) == n)
  · have h1' : ((l.length : Int) != n) = true := by simp only [bne, h1]; rfl
    go_enter Try.func100, Try.ntmps100
    go_wp2
    go_ret
    exact ⟨rfl, by (repeat (first | assumption | exact Ext.rf _ | apply Ext.drew | apply Ext.drewN | apply Ext.alloc))⟩
  · have h1' : ((l.length : Int) != n) = false := by simp only [bne, h1]; rfl
    cases h2 : (cap == 0)
    · have h2' : (cap != 0) = true := by simp only [bne, h2]; rfl
      go_enter Try.func100, Try.ntmps100
      go_wp2
      go_ret
      exact ⟨rfl, by (repeat (first | assumption | exact Ext.rf _ | apply Ext.drew | apply Ext.drewN | apply Ext.alloc))⟩
    · have h2' : (cap != 0) = false := by simp only [bne, h2]; rfl
      by_cases hs : xs.length + ys.length = 0
      · have hs1 : decide (xs.length + ys.length = 0) = true := by simpa using hs
        rw [hs1]
        have l0 : xs.length = 0 := by omega
        have l1 : ys.length = 0 := by omega
        rw [l0, l1] at B1 ⊢
        clear hs hs1 l0 l1 lx ly
        go_enter Try.func100, Try.ntmps100
        go_wp2_with (fail)
        refine (has_rows _ _ (fun m => (m : Int) != n) lens_enters C c l _ (hC.out.ext ((Ext.rf _).alloc _) fun _ _ h => h.ext ((Ext.rf _).alloc _)) lm.out ?_).mono ?_
        · intro W D r d _ hx
          exact lens_any D r.length d w.heap.size n _ W (B1.out.ext hx) rfl
        rintro e w' ⟨rfl, x'⟩
        go_wp2
        go_ret
        exact ⟨by simp, Ext.tr (a := w) (by (repeat (first | assumption | exact Ext.rf _ | apply Ext.drew | apply Ext.drewN | apply Ext.alloc))) x'⟩
      · have hs1 : decide (xs.length + ys.length = 0) = false := by simpa using hs
        rw [hs1]
        have hs2 : (0 : Int) < (xs.length : Int) + (ys.length : Int) := by omega
        clear hs hs1
        go_enter Try.func100, Try.ntmps100
        go_wp2
        go_ret
        exact ⟨rfl, by (repeat (first | assumption | exact Ext.rf _ | apply Ext.drew | apply Ext.drewN | apply Ext.alloc))⟩
theorem sizeP_kind {k n : Int} (h : sizeP k n = 0) : k = 1 ∨ k = 2 ∨ k = 3 := by
  unfold sizeP at h
  split at h
  · exact .inl ‹_›
  · split at h
    · exact .inr (.inl ‹_›)
    · split at h
      · exact .inr (.inr ‹_›)
      · cases h
set_option maxRecDepth 100000 in
set_option maxHeartbeats 4000000 in
theorem check_any (i : InstP) (vs : List Value) (w : World) (H : RInst w vs i) (lw : i.weight.length ≤ 1000000000) (lv : i.value.length ≤ 1000000000) :
    Calls Try.prog 65 #[.agg (List.toArray vs)] w fun e w' => e = .returned (.int .i64 (checkP i)) ∧ Ext w w' := by
  obtain ⟨k, n, cap, xs, ys, l⟩ := i
  obtain ⟨A, a, B, b, C, c, rfl, ⟨rA, iA, lA, mA⟩, ⟨rB, iB, lB, mB⟩, ⟨rC, lC, mC⟩⟩ := H
  simp only at *
  have B1 : Hid (Blk (w.alloc (.cells #[.int .i64 k, .int .i64 n, .int .i64 cap, .slice A xs.length a, .slice B ys.length b, .slice C l.length c] 25)) w.heap.size 25 #[.int .i64 k, .int .i64 n, .int .i64 cap, .slice A xs.length a, .slice B ys.length b, .slice C l.length c]) := .new rfl
  replace rA := Lib.hid rA
  replace rB := Lib.hid rB
  replace rC := Lib.hid rC
  replace iA := Lib.hid iA
  replace iB := Lib.hid iB
  replace mA := Lib.hid mA
  replace mB := Lib.hid mB
  replace mC := Lib.hid mC
  have X1 : Ext w (w.alloc (.cells #[.int .i64 k, .int .i64 n, .int .i64 cap, .slice A xs.length a, .slice B ys.length b, .slice C l.length c] 25)) := (Ext.rf _).alloc _
  replace X1 := Lib.hid X1
  go_enter Try.func65, Try.ntmps65
  go_wp2_with (fail)
  refine (size_any k n cap _ _ _ _).mono ?_
  rintro e w2 ⟨rfl, x2⟩
  have X2 := Lib.hid (Ext.tr X1.out x2)
  have B2 := Lib.hid (B1.out.ext x2)
  have d0 : w2.cell? ⟨w.heap.size, 0, none⟩ = some (.int .i64 k) := B2.out.cell 0
  have d1 : w2.cell? ⟨w.heap.size, 1, none⟩ = some (.int .i64 n) := B2.out.cell 1
  have d2 : w2.cell? ⟨w.heap.size, 2, none⟩ = some (.int .i64 cap) := B2.out.cell 2
  have d3 : w2.cell? ⟨w.heap.size, 3, none⟩ = some (.slice A xs.length a) := B2.out.cell 3
  have d4 : w2.cell? ⟨w.heap.size, 4, none⟩ = some (.slice B ys.length b) := B2.out.cell 4
  have d5 : w2.cell? ⟨w.heap.size, 5, none⟩ = some (.slice C l.length c) := B2.out.cell 5
  by_cases hs : sizeP k n = 0
  · have hs' : (sizeP k n != 0) = false := by simpa using hs
    have qHS : checkP ⟨k, n, cap, xs, ys, l⟩ = (if shapeP ⟨k, n, cap, xs, ys, l⟩ = true then (if k = 1 then itemsP cap xs ys xs.length else rowsE k 0 l) else 8) := by
      unfold checkP
      simp only [if_pos hs]
    have HS := Lib.hid qHS
    clear qHS
    have kk := sizeP_kind hs
    replace hs := Lib.hid hs
    clear x2
    by_cases k1 : k = 1
    · subst k1
      have qHS2 : checkP ⟨1, n, cap, xs, ys, l⟩ = (if (((xs.length : Int) == n) && ((ys.length : Int) == n) && ((l.length : Int) == 0)) = true then itemsP cap xs ys xs.length else 8) := by
        have h1 := HS.out
        unfold shapeP at h1
        simpa only [if_true] using h1
      have HS2 := Lib.hid qHS2
      clear qHS2
      clear HS
      go_wp2_with (fail)
      refine (shape1_any n cap A B C a b c xs ys l _).mono ?_
      rintro e w3 ⟨rfl, x3⟩
      have X3 := Lib.hid (Ext.tr X2.out x3)
      have B3 := Lib.hid (B2.out.ext x3)
      have e0 : w3.cell? ⟨w.heap.size, 0, none⟩ = some (.int .i64 1) := B3.out.cell 0
      have e1 : w3.cell? ⟨w.heap.size, 1, none⟩ = some (.int .i64 n) := B3.out.cell 1
      have e2 : w3.cell? ⟨w.heap.size, 2, none⟩ = some (.int .i64 cap) := B3.out.cell 2
      have e3 : w3.cell? ⟨w.heap.size, 3, none⟩ = some (.slice A xs.length a) := B3.out.cell 3
      have e4 : w3.cell? ⟨w.heap.size, 4, none⟩ = some (.slice B ys.length b) := B3.out.cell 4
      have e5 : w3.cell? ⟨w.heap.size, 5, none⟩ = some (.slice C l.length c) := B3.out.cell 5
      clear d0 d1 d2 d3 d4 d5 x3 kk
      cases hh : (((xs.length : Int) == n) && ((ys.length : Int) == n) && ((l.length : Int) == 0)) with
      | false =>
        have qHC : checkP ⟨1, n, cap, xs, ys, l⟩ = 8 := by
          have h1 := HS2.out
          rw [hh, if_neg (by decide)] at h1
          exact h1
        have HC := Lib.hid qHC
        clear qHC
        clear hh
        go_wp2
        go_ret
        exact ⟨ret_i HC.out.symm, X3.out⟩
      | true =>
        have qHC : checkP ⟨1, n, cap, xs, ys, l⟩ = itemsP cap xs ys xs.length := by
          have h1 := HS2.out
          rw [hh, if_pos rfl] at h1
          exact h1
        have HC := Lib.hid qHC
        clear qHC
        simp only [Bool.and_eq_true, beq_iff_eq] at hh
        obtain ⟨⟨rfl, hy⟩, hz⟩ := hh
        clear HS2
        have hyx : Hid (xs.length = ys.length) := by have : xs.length = ys.length := by omega
                                                     exact this
        clear hy hz
        go_wp2_with (fail)
        refine (items_any A B a b 1 cap xs ys _ _ (rA.out.ext X3.out) (rB.out.ext X3.out) lA mA.out lB mB.out hyx.out).mono ?_
        rintro e w4 ⟨rfl, x4⟩
        go_wp2
        go_ret
        exact ⟨ret_i HC.out.symm, Ext.tr X3.out x4⟩
    · have k1' : (k == 1) = false := by simpa using k1
      have qHS2 : checkP ⟨k, n, cap, xs, ys, l⟩ = (if ((((l.length : Int) == n) && (cap == 0) && decide (xs.length + ys.length = 0)) && !(l.any fun r => (r.length : Int) != n)) = true then rowsE k 0 l else 8) := by
        have h1 := HS.out
        unfold shapeP at h1
        simpa only [if_neg k1] using h1
      have HS2 := Lib.hid qHS2
      clear qHS2
      clear HS
      go_wp2_with (fail)
      refine (shape0_any k n cap A B C a b c xs ys l _ k1 (rC.out.ext X2.out fun _ _ h => h.ext X2.out) lC mC.out lw lv).mono ?_
      rintro e w3 ⟨rfl, x3⟩
      have X3 := Lib.hid (Ext.tr X2.out x3)
      have B3 := Lib.hid (B2.out.ext x3)
      have e0 : w3.cell? ⟨w.heap.size, 0, none⟩ = some (.int .i64 k) := B3.out.cell 0
      have e1 : w3.cell? ⟨w.heap.size, 1, none⟩ = some (.int .i64 n) := B3.out.cell 1
      have e2 : w3.cell? ⟨w.heap.size, 2, none⟩ = some (.int .i64 cap) := B3.out.cell 2
      have e3 : w3.cell? ⟨w.heap.size, 3, none⟩ = some (.slice A xs.length a) := B3.out.cell 3
      have e4 : w3.cell? ⟨w.heap.size, 4, none⟩ = some (.slice B ys.length b) := B3.out.cell 4
      have e5 : w3.cell? ⟨w.heap.size, 5, none⟩ = some (.slice C l.length c) := B3.out.cell 5
      clear d0 d1 d2 d3 d4 d5 x3 kk k1
      generalize ((((l.length : Int) == n) && (cap == 0) && decide (xs.length + ys.length = 0)) && !(l.any fun r => (r.length : Int) != n)) = hh at HS2 ⊢
      cases hh with
      | false =>
        have HC : Hid (checkP ⟨k, n, cap, xs, ys, l⟩ = 8) := HS2.out
        clear HS2
        go_wp2
        go_ret
        exact ⟨ret_i HC.out.symm, X3.out⟩
      | true =>
        have HC : Hid (checkP ⟨k, n, cap, xs, ys, l⟩ = rowsE k 0 l) := HS2.out
        clear HS2
        go_wp2_with (fail)
        refine (rows_any k n cap _ _ C c l _ (rC.out.ext X3.out fun _ _ h => h.ext X3.out) lC mC.out).mono ?_
        rintro e w4 ⟨rfl, x4⟩
        go_wp2
        go_ret
        exact ⟨ret_i HC.out.symm, Ext.tr X3.out x4⟩
  · have hs' : (sizeP k n != 0) = true := by simpa using hs
    have qHC : checkP ⟨k, n, cap, xs, ys, l⟩ = sizeP k n := by
      unfold checkP
      simp only [if_neg hs]
    have HC := Lib.hid qHC
    clear qHC
    clear hs
    go_wp2
    go_ret
    exact ⟨ret_i HC.out.symm, X2.out⟩
end Go.Proofs.Ytleckhbmciiooaa
