/-
  The document's number, alone.
    The program's number and size, alone.
    Problems in form, plainly: the first bad one of a list of numbers.
    The program's items.
    The program's rows: each number of a square by itself, and none from a city to itself.
    slices.IndexFunc and ContainsFunc, at a list of ints and at a list of rows, with whatever predicate that turns nothing.
    The program's shape of a problem, and Check whole.
  One number of the costs in memory.
  A core of a drawn region beside something told of it that no world holds (which operation made which block).
  Operations that only read, in whatever order; what is left may wait for them through others.
  Loads of a knapsack, plainly: put an item to each; leave out what is no better than something else; the best of all.
  exact.ways.fill: the tables of the sets of cities.
  The program's sets of numbers below 64: With.
  What the laws on kernels share: a copied problem.
  An assignment, plainly: a square in form; which columns a beginning leaves.
  Sets of numbers (Of), orders of 0 to n - 1, what an assignment's answer costs (value.Cost).
  Ways from city to city: what is left of a way, and how much it may cost at most.
  value.Cost, takes, told at a tour.
  slices.Reverse of ints, in place.
  An assignment by prices, plainly: what holds between rows, what holds while a way grows, and when it is turned; at the end no order costs less.
-/
import Derived.Test.YtleckhbmciiooaaDoorKurganScalesP1
import Derived.Shelf.Abstract
import Derived.Lib.Hide
namespace Go.Proofs.YtleckhbmciiooaaDoor
open Go.RowKit Go.ChangeShapes Go.WideShapes Go.ChangeAt Go.Deep

/-- one number by itself: its error, or none -/
def numP (n : Int) : Int := if n < 0 then 1 else if 2147483647 < n then 5 else 0
end Go.Proofs.YtleckhbmciiooaaDoor
namespace Go.Proofs.YtleckhbmciiooaaDoor
open Go.RowKit Go.ChangeShapes Go.WideShapes Go.ChangeAt Go.Deep

theorem pnumber_any (n : Int) (w : World) : Calls Tryd.prog 74 #[.int .i64 n] w fun e w' => e = .returned (.int .i64 (numP n)) ∧ Ext w w' := by
  unfold numP
  by_cases h1 : n < 0
  · rw [if_pos h1]
    go_enter Tryd.func74, Tryd.ntmps74
    go_wp2_with (fail)
    exact bodyPost_ret (v := .int .i64 1) (by simp [results, Tryd.results74, go_sem]) rfl ⟨rfl, by (repeat (first | assumption | exact Ext.rf _ | apply Ext.drew | apply Ext.drewN | apply Ext.alloc))⟩
  · rw [if_neg h1]
    by_cases h2 : 2147483647 < n
    · rw [if_pos h2]
      go_enter Tryd.func74, Tryd.ntmps74
      go_wp2_with (fail)
      exact bodyPost_ret (v := .int .i64 5) (by simp [results, Tryd.results74, go_sem]) rfl ⟨rfl, by (repeat (first | assumption | exact Ext.rf _ | apply Ext.drew | apply Ext.drewN | apply Ext.alloc))⟩
    · rw [if_neg h2]
      go_enter Tryd.func74, Tryd.ntmps74
      go_wp2_with (fail)
      exact bodyPost_ret (v := .int .i64 0) (by simp [results, Tryd.results74, go_sem]) rfl ⟨rfl, by (repeat (first | assumption | exact Ext.rf _ | apply Ext.drew | apply Ext.drewN | apply Ext.alloc))⟩
/-- the count of items or rows: its error, or none -/
def sizeP (k n : Int) : Int := if k = 1 then (if n < 1 then 1 else if 64 < n then 5 else 0) else if k = 2 then (if n < 1 then 1 else if 24 < n then 5 else 0) else if k = 3 then (if n < 1 then 1 else if 24 < n then 5 else 0) else 14
set_option maxRecDepth 100000 in
theorem size_any (k n cap : Int) (a b c : Value) (w : World) : Calls Tryd.prog 39 #[.agg #[.int .i64 k, .int .i64 n, .int .i64 cap, a, b, c]] w fun e w' => e = .returned (.int .i64 (sizeP k n)) ∧ Ext w w' := by
  unfold sizeP
  by_cases k1 : k = 1
  · subst k1
    rw [if_pos rfl]
    by_cases h1 : n < 1
    · rw [if_pos h1]
      go_enter Tryd.func39, Tryd.ntmps39
      go_wp2_with (fail)
      exact bodyPost_ret (v := .int .i64 1) (by simp [results, Tryd.results39, go_sem]) rfl ⟨rfl, by (repeat (first | assumption | exact Ext.rf _ | apply Ext.drew | apply Ext.drewN | apply Ext.alloc))⟩
    · rw [if_neg h1]
      by_cases h2 : 64 < n
      · rw [if_pos h2]
        go_enter Tryd.func39, Tryd.ntmps39
        go_wp2_with (fail)
        exact bodyPost_ret (v := .int .i64 5) (by simp [results, Tryd.results39, go_sem]) rfl ⟨rfl, by (repeat (first | assumption | exact Ext.rf _ | apply Ext.drew | apply Ext.drewN | apply Ext.alloc))⟩
      · rw [if_neg h2]
        go_enter Tryd.func39, Tryd.ntmps39
        go_wp2_with (fail)
        exact bodyPost_ret (v := .int .i64 0) (by simp [results, Tryd.results39, go_sem]) rfl ⟨rfl, by (repeat (first | assumption | exact Ext.rf _ | apply Ext.drew | apply Ext.drewN | apply Ext.alloc))⟩
  · rw [if_neg k1]
    by_cases k2 : k = 2
    · subst k2
      rw [if_pos rfl]
      by_cases h1 : n < 1
      · rw [if_pos h1]
        go_enter Tryd.func39, Tryd.ntmps39
        go_wp2_with (fail)
        exact bodyPost_ret (v := .int .i64 1) (by simp [results, Tryd.results39, go_sem]) rfl ⟨rfl, by (repeat (first | assumption | exact Ext.rf _ | apply Ext.drew | apply Ext.drewN | apply Ext.alloc))⟩
      · rw [if_neg h1]
        by_cases h2 : 24 < n
        · rw [if_pos h2]
          go_enter Tryd.func39, Tryd.ntmps39
          go_wp2_with (fail)
          exact bodyPost_ret (v := .int .i64 5) (by simp [results, Tryd.results39, go_sem]) rfl ⟨rfl, by (repeat (first | assumption | exact Ext.rf _ | apply Ext.drew | apply Ext.drewN | apply Ext.alloc))⟩
        · rw [if_neg h2]
          go_enter Tryd.func39, Tryd.ntmps39
          go_wp2_with (fail)
          exact bodyPost_ret (v := .int .i64 0) (by simp [results, Tryd.results39, go_sem]) rfl ⟨rfl, by (repeat (first | assumption | exact Ext.rf _ | apply Ext.drew | apply Ext.drewN | apply Ext.alloc))⟩
    · rw [if_neg k2]
      by_cases k3 : k = 3
      · subst k3
        rw [if_pos rfl]
        by_cases h1 : n < 1
        · rw [if_pos h1]
          go_enter Tryd.func39, Tryd.ntmps39
          go_wp2_with (fail)
          exact bodyPost_ret (v := .int .i64 1) (by simp [results, Tryd.results39, go_sem]) rfl ⟨rfl, by (repeat (first | assumption | exact Ext.rf _ | apply Ext.drew | apply Ext.drewN | apply Ext.alloc))⟩
        · rw [if_neg h1]
          by_cases h2 : 24 < n
          · rw [if_pos h2]
            go_enter Tryd.func39, Tryd.ntmps39
            go_wp2_with (fail)
            exact bodyPost_ret (v := .int .i64 5) (by simp [results, Tryd.results39, go_sem]) rfl ⟨rfl, by (repeat (first | assumption | exact Ext.rf _ | apply Ext.drew | apply Ext.drewN | apply Ext.alloc))⟩
          · rw [if_neg h2]
            go_enter Tryd.func39, Tryd.ntmps39
            go_wp2_with (fail)
            exact bodyPost_ret (v := .int .i64 0) (by simp [results, Tryd.results39, go_sem]) rfl ⟨rfl, by (repeat (first | assumption | exact Ext.rf _ | apply Ext.drew | apply Ext.drewN | apply Ext.alloc))⟩
      · rw [if_neg k3]
        go_enter Tryd.func39, Tryd.ntmps39
        go_wp2_with (fail)
        exact bodyPost_ret (v := .int .i64 14) (by simp [results, Tryd.results39, go_sem]) rfl ⟨rfl, by (repeat (first | assumption | exact Ext.rf _ | apply Ext.drew | apply Ext.drewN | apply Ext.alloc))⟩
end Go.Proofs.YtleckhbmciiooaaDoor
namespace Go.Proofs.YtleckhbmciiooaaDoor

def firstBad : List Int → Int
  | [] => 0
  | x :: l => if numP x = 0 then firstBad l else numP x
theorem firstBad_app (a b : List Int) : firstBad (a ++ b) = if firstBad a = 0 then firstBad b else firstBad a := by
  induction a with
  | nil => rfl
  | cons x l ih =>
    simp only [List.cons_append, firstBad]
    split
    · exact ih
    · rename_i h
      first | rfl | rw [if_neg h]
/-- weights and values by turns -/
def inter : List Int → List Int → List Int
  | x :: xs, y :: ys => x :: y :: inter xs ys
  | _, _ => []
theorem inter_app : ∀ (a b c d : List Int), a.length = b.length → inter (a ++ c) (b ++ d) = inter a b ++ inter c d
  | [], [], _, _, _ => by simp [inter]
  | x :: a, y :: b, c, d, h => by
    have := inter_app a b c d (by simpa using h)
    simp [inter, this]
  | [], _ :: _, _, _, h => by simp at h
  | _ :: _, [], _, _, h => by simp at h
/-- a knapsack's numbers -/
def itemsP (cap : Int) (xs ys : List Int) (k : Nat) : Int := firstBad (cap :: inter (xs.take k) (ys.take k))
theorem itemsP_zero (cap : Int) (xs ys : List Int) : itemsP cap xs ys 0 = numP cap := by
  simp only [itemsP, List.take_zero, inter, firstBad]
  split
  · rename_i h; exact h.symm
  · rfl
theorem itemsP_succ {cap : Int} {xs ys : List Int} {k : Nat} {x y : Int} (hx : xs[k]? = some x) (hy : ys[k]? = some y) (h0 : itemsP cap xs ys k = 0) :
    itemsP cap xs ys (k + 1) = if numP x = 0 then numP y else numP x := by
  obtain ⟨lx, hx⟩ := List.getElem?_eq_some_iff.1 hx
  obtain ⟨ly, hy⟩ := List.getElem?_eq_some_iff.1 hy
  unfold itemsP at *
  rw [List.take_succ_eq_append_getElem lx, List.take_succ_eq_append_getElem ly, inter_app _ _ _ _ (by simp; omega), ← List.cons_append, firstBad_app, if_pos h0, hx, hy]
  simp only [inter, firstBad]
  split
  · split
    · rename_i h; exact h.symm
    · rfl
  · rfl
/-- once bad, bad for good -/
theorem itemsP_stop {cap : Int} {xs ys : List Int} {k : Nat} (hl : xs.length = ys.length) (h : itemsP cap xs ys k ≠ 0) : itemsP cap xs ys xs.length = itemsP cap xs ys k := by
  have e : inter xs ys = inter (xs.take k) (ys.take k) ++ inter (xs.drop k) (ys.drop k) := by
    rw [← inter_app _ _ _ _ (by simp [hl]), List.take_append_drop, List.take_append_drop]
  unfold itemsP at *
  rw [List.take_length, hl, List.take_length, e, ← List.cons_append, firstBad_app, if_neg h]
end Go.Proofs.YtleckhbmciiooaaDoor
namespace Go.Proofs.YtleckhbmciiooaaDoor
open Go.RowKit Go.ChangeShapes Go.WideShapes Go.ChangeAt Go.Deep

set_option maxRecDepth 100000 in
set_option maxHeartbeats 2000000 in
theorem items_any (A B : Option Addr) (a b : Nat) (k cap : Int) (xs ys : List Int) (C : Value) (w : World) (hA : RdI w A xs) (hB : RdI w B ys) (la : xs.length ≤ a) (ma : a ≤ maxLen) (lb : ys.length ≤ b) (mb : b ≤ maxLen) (hxy : xs.length = ys.length) :
    Calls Tryd.prog 41 #[.agg #[.int .i64 k, .int .i64 xs.length, .int .i64 cap, .slice A xs.length a, .slice B ys.length b, C]] w fun e w' => e = .returned (.int .i64 (itemsP cap xs ys xs.length)) ∧ Ext w w' := by
  unfold maxLen at ma mb
  replace hxy := Lib.hid hxy
  have B1 : Hid (Blk (w.alloc (.cells #[.int .i64 k, .int .i64 xs.length, .int .i64 cap, .slice A xs.length a, .slice B ys.length b, C] 25)) w.heap.size 25 #[.int .i64 k, .int .i64 xs.length, .int .i64 cap, .slice A xs.length a, .slice B ys.length b, C]) := .new rfl
  have X : Hid (Ext w (w.alloc (.cells #[.int .i64 k, .int .i64 xs.length, .int .i64 cap, .slice A xs.length a, .slice B ys.length b, C] 25))) := (Ext.rf _).alloc _
  have hC := Lib.hid (pnumber_any cap)
  go_enter Tryd.func41, Tryd.ntmps41
  go_wp2_with (fail)
  refine (pnumber_any cap _).mono ?_
  rintro e w2 ⟨rfl, x2⟩
  go_wp2_with (fail)
  go_loopw [3, 4] (fun e i wr => ∃ j : Nat, i = .int .i64 j ∧ e = .int .i64 (itemsP cap xs ys j) ∧ j ≤ xs.length ∧ Ext w wr ∧ Hid (Blk wr w.heap.size 25 #[.int .i64 k, .int .i64 xs.length, .int .i64 cap, .slice A xs.length a, .slice B ys.length b, C])) (fun _ i _ => xs.length - (intOf i).toNat)
  case atStart => exact ⟨0, rfl, by rw [itemsP_zero], by omega, Ext.tr (a := w) (by (repeat (first | assumption | exact Ext.rf _ | apply Ext.drew | apply Ext.drewN | apply Ext.alloc))) x2, B1.out.ext x2⟩
  case round =>
    obtain ⟨wo, rfl⟩ : ∃ wo : World, wo = wr := ⟨_, rfl⟩
    obtain ⟨j, rfl, rfl, hj, Y, B2⟩ := hrel
    have c1 : wo.cell? ⟨w.heap.size, 1, none⟩ = some (.int .i64 xs.length) := B2.out.cell 1
    have c3 : wo.cell? ⟨w.heap.size, 3, none⟩ = some (.slice A xs.length a) := B2.out.cell 3
    have c4 : wo.cell? ⟨w.heap.size, 4, none⟩ = some (.slice B ys.length b) := B2.out.cell 4
    have cA := hA.ext Y
    have cB := hB.ext Y
    by_cases he : itemsP cap xs ys j = 0
    · have he' : (itemsP cap xs ys j == 0) = true := by rw [beq_iff_eq]; exact he
      have HE := Lib.hid he
      clear he
      by_cases hlt : j < xs.length
      · obtain ⟨bb, off, x, rfl, _, hc1, hx1, _⟩ := cA.at hlt
        obtain ⟨bb', off', y, rfl, _, hc2, hy1, _⟩ := cB.at (k := j) (by have := hxy.out; omega)
        have hlt2 : j < ys.length := by have := hxy.out; omega
        have S := Lib.hid (itemsP_succ hx1.out hy1.out HE.out)
        go_wp2_with (fail)
        refine (pnumber_any x _).mono ?_
        rintro e w3 ⟨rfl, x3⟩
        have Y3 := Ext.tr Y x3
        have B3 := B2.out.ext x3
        have c4' : w3.cell? ⟨w.heap.size, 4, none⟩ = some (.slice (some ⟨bb', off', none⟩) ys.length b) := B3.cell 4
        have hc2' := (x3.cells.1 _ (off' + j) (by assumption)).trans hc2
        by_cases hn : numP x = 0
        · have hn' : (numP x == 0) = true := by rw [beq_iff_eq]; exact hn
          have HN := Lib.hid hn
          clear hn
          go_wp2_with (fail)
          refine (pnumber_any y _).mono ?_
          rintro e w4 ⟨rfl, x4⟩
          have Y4 := Ext.tr Y3 x4
          have B4 := Lib.hid (B3.ext x4)
          have HR : Hid (itemsP cap xs ys (j + 1) = numP y) := by
            have h1 := S.out
            rw [if_pos HN.out] at h1
            exact h1
          clear c1 c3 c4 c4' hc1 hc2 hc2' he' hn'
          go_wp2
          go_roundw
          case rel => exact ⟨j + 1, by go_num, by rw [HR.out], by omega, Y4, B4⟩
          case measure => simp [intOf]; omega
        · have hn' : (numP x == 0) = false := by rw [beq_eq_false_iff_ne]; exact hn
          have HR : Hid (itemsP cap xs ys (j + 1) = numP x) := by
            have h1 := S.out
            rw [if_neg hn] at h1
            exact h1
          clear hn
          have B4 := Lib.hid B3
          clear c1 c3 c4 c4' hc1 hc2 hc2' he' B3
          go_wp2
          go_roundw
          case rel => exact ⟨j + 1, by go_num, by rw [HR.out], by omega, Y3, B4⟩
          case measure => simp [intOf]; omega
      · obtain rfl : j = xs.length := by omega
        clear cA cB c3 c4
        go_wp2
        go_ret
        exact ⟨rfl, Y⟩
    · have he' : (itemsP cap xs ys j == 0) = false := by rw [beq_eq_false_iff_ne]; exact he
      have HE : Hid (itemsP cap xs ys xs.length = itemsP cap xs ys j) := itemsP_stop hxy.out he
      clear he cA cB c3 c4
      by_cases hlt : j < xs.length
      · go_wp2
        go_ret
        exact ⟨ret_i HE.out.symm, Y⟩
      · go_wp2
        go_ret
        exact ⟨ret_i HE.out.symm, Y⟩
end Go.Proofs.YtleckhbmciiooaaDoor
namespace Go.Proofs.YtleckhbmciiooaaDoor
open Go.RowKit Go.ChangeShapes Go.WideShapes Go.ChangeAt Go.Deep

/-- of row r, from column c on: the first error -/
def rowE (k : Int) (r c : Nat) : List Int → Int
  | [] => 0
  | n :: l => if numP n = 0 then (if k = 3 ∧ r = c ∧ n ≠ 0 then 8 else rowE k r (c + 1) l) else numP n
/-- from row r on -/
def rowsE (k : Int) (r : Nat) : List (List Int) → Int
  | [] => 0
  | row :: l => if rowE k r 0 row = 0 then rowsE k (r + 1) l else rowE k r 0 row
theorem RdE.ints {w : World} {A : Option Addr} {l : List (List Int)} (h : RdE 1 RInts w A l) {r : Nat} (hr : r < l.length) :
    ∃ b off B row c, A = some ⟨b, off, none⟩ ∧ b < w.heap.size ∧ w.cell? ⟨b, off + r, none⟩ = some (.slice B row.length c) ∧ Hid (l[r]? = some row) ∧ Hid (l.drop r = row :: l.drop (r + 1)) ∧ RdI w B row ∧ Ints row ∧ row.length ≤ c ∧ c ≤ 9223372036854775807 := by
  obtain ⟨b, off, cs, row, rfl, hb, ⟨B, c, rfl, h1, h2, h3, h4⟩, _, hc, he⟩ := h.at hr
  have hc0 := hc 0 _ rfl
  unfold maxLen at h4
  have he' := he.out
  refine ⟨b, off, B, row, c, rfl, hb, by simpa using hc0, he, ?_, h1, h2, h3, h4⟩
  obtain ⟨hl, hv⟩ := List.getElem?_eq_some_iff.1 he'
  exact (by rw [List.drop_eq_getElem_cons hl, hv] : l.drop r = row :: l.drop (r + 1))
set_option maxRecDepth 100000 in
set_option maxHeartbeats 2000000 in
theorem rows_any (k n cap : Int) (A B : Value) (C : Option Addr) (c : Nat) (l : List (List Int)) (w : World) (hC : RdE 1 RInts w C l) (lc : l.length ≤ c) (mc : c ≤ maxLen) :
    Calls Tryd.prog 42 #[.agg #[.int .i64 k, .int .i64 n, .int .i64 cap, A, B, .slice C l.length c]] w fun e w' => e = .returned (.int .i64 (rowsE k 0 l)) ∧ Ext w w' := by
  unfold maxLen at mc
  have B1 : Hid (Blk (w.alloc (.cells #[.int .i64 k, .int .i64 n, .int .i64 cap, A, B, .slice C l.length c] 25)) w.heap.size 25 #[.int .i64 k, .int .i64 n, .int .i64 cap, A, B, .slice C l.length c]) := .new rfl
  go_enter Tryd.func42, Tryd.ntmps42
  go_wp2_with (fail)
  go_loopw [11] (fun i wr => ∃ r : Nat, i = .int .i64 r ∧ r ≤ l.length ∧ Hid (rowsE k 0 l = rowsE k r (l.drop r)) ∧ Ext w wr ∧ Hid (Blk wr w.heap.size 25 #[.int .i64 k, .int .i64 n, .int .i64 cap, A, B, .slice C l.length c])) (fun i _ => l.length - (intOf i).toNat)
  case atStart => exact ⟨0, rfl, by omega, by exact rfl, by (repeat (first | assumption | exact Ext.rf _ | apply Ext.drew | apply Ext.drewN | apply Ext.alloc)), B1⟩
  case round =>
    obtain ⟨wo, rfl⟩ : ∃ wo : World, wo = wr := ⟨_, rfl⟩
    obtain ⟨r, rfl, hr, HT, Y, B2⟩ := hrel
    by_cases hlt : r < l.length
    · obtain ⟨b, off, D, row, d, rfl, _, hc1, _, HD, rr, ir, ld, md⟩ := (hC.ext Y fun _ _ h => h.ext Y).ints hlt
      go_wp2_with (fail)
      go_loopw [18] (fun i wr => ∃ j : Nat, i = .int .i64 j ∧ j ≤ row.length ∧ Hid (rowE k r 0 row = rowE k r j (row.drop j)) ∧ Ext w wr ∧ Ext wo wr ∧ Hid (Blk wr w.heap.size 25 #[.int .i64 k, .int .i64 n, .int .i64 cap, A, B, .slice (some ⟨b, off, none⟩) l.length c])) (fun i _ => row.length - (intOf i).toNat)
      case atStart => exact ⟨0, rfl, by omega, by exact rfl, Y, Ext.rf _, B2⟩
      case round =>
        obtain ⟨j, rfl, hj, HJ, Y2, X2, B3⟩ := hrel
        by_cases hlj : j < row.length
        · obtain ⟨bb, off', x, rfl, _, hc2, _, hd2⟩ := (rr.ext X2).at hlj
          go_wp2_with (fail)
          refine (pnumber_any x _).mono ?_
          rintro e w3 ⟨rfl, x3⟩
          have Y3 := Ext.tr Y2 x3
          have X3 := Ext.tr X2 x3
          have B4 := Lib.hid (B3.out.ext x3)
          have k0 : w3.cell? ⟨w.heap.size, 0, none⟩ = some (.int .i64 k) := B4.out.cell 0
          by_cases hn : numP x = 0
          · have hn' : (numP x != 0) = false := by simpa using hn
            have HN := Lib.hid hn
            clear hn hc1 hc2
            by_cases k3 : k = 3
            · subst k3
              by_cases hrj : r = j
              · subst hrj
                by_cases hx : x = 0
                · have hx' : (x != 0) = false := by simpa using hx
                  have HR : Hid (rowE 3 r 0 row = rowE 3 r (r + 1) (row.drop (r + 1))) := by
                    have h1 := HJ.out
                    rw [hd2.out, rowE, if_pos HN.out, if_neg (by simp [hx])] at h1
                    exact h1
                  clear hx
                  go_wp2
                  go_roundw
                  case rel => exact ⟨r + 1, by go_num, by omega, HR, Y3, X3, B4⟩
                  case measure => simp [intOf]; omega
                · have hx' : (x != 0) = true := by simpa using hx
                  have HR : Hid (rowsE 3 0 l = 8) := by
                    have h1 := HJ.out
                    rw [hd2.out, rowE, if_pos HN.out, if_pos ⟨rfl, rfl, hx⟩] at h1
                    have h2 := HT.out
                    rw [HD.out, rowsE, h1] at h2
                    exact h2
                  clear hx
                  go_wp2
                  go_ret
                  exact ⟨ret_i HR.out.symm, Y3⟩
              · have hrj' : ((r : Int) == (j : Int)) = false := by rw [beq_eq_false_iff_ne]; omega
                have HR : Hid (rowE 3 r 0 row = rowE 3 r (j + 1) (row.drop (j + 1))) := by
                  have h1 := HJ.out
                  rw [hd2.out, rowE, if_pos HN.out, if_neg (by simp [hrj])] at h1
                  exact h1
                go_wp2
                go_roundw
                case rel => exact ⟨j + 1, by go_num, by omega, HR, Y3, X3, B4⟩
                case measure => simp [intOf]; omega
            · have k3' : (k == 3) = false := by rw [beq_eq_false_iff_ne]; exact k3
              have HR : Hid (rowE k r 0 row = rowE k r (j + 1) (row.drop (j + 1))) := by
                have h1 := HJ.out
                rw [hd2.out, rowE, if_pos HN.out, if_neg (by simp [k3])] at h1
                exact h1
              clear k3
              go_wp2
              go_roundw
              case rel => exact ⟨j + 1, by go_num, by omega, HR, Y3, X3, B4⟩
              case measure => simp [intOf]; omega
          · have hn' : (numP x != 0) = true := by simpa using hn
            have HR : Hid (rowsE k 0 l = numP x) := by
              have h1 := HJ.out
              rw [hd2.out, rowE, if_neg hn] at h1
              have h2 := HT.out
              rw [HD.out, rowsE, h1, if_neg hn] at h2
              exact h2
            clear hn hc1 hc2
            go_wp2
            go_ret
            exact ⟨ret_i HR.out.symm, Y3⟩
        · have hd2 := drop_nil (xs := row) (k := j) (by omega)
          have HR : Hid (rowsE k 0 l = rowsE k (r + 1) (l.drop (r + 1))) := by
            have h1 := HJ.out
            rw [hd2.out, rowE] at h1
            have h2 := HT.out
            rw [HD.out, rowsE, if_pos h1] at h2
            exact h2
          clear hc1
          go_wp2
          go_roundw
          case rel => exact ⟨r + 1, by go_num, by omega, HR, Y2, B3⟩
          case measure => simp [intOf]; omega
    · have hd := drop_nil (xs := l) (k := r) (by omega)
      have HR : Hid (rowsE k 0 l = 0) := by
        have h1 := HT.out
        rw [hd.out, rowsE] at h1
        exact h1
      clear hd
      go_wp2
      go_ret
      exact ⟨ret_i HR.out.symm, Y⟩
end Go.Proofs.YtleckhbmciiooaaDoor
namespace Go.Proofs.YtleckhbmciiooaaDoor
open Go.RowKit Go.ChangeShapes Go.WideShapes Go.ChangeAt Go.Deep

/-- the first place at which it holds, or -1 -/
def idxP {α : Type} (p : α → Bool) (k : Nat) : List α → Int
  | [] => -1
  | x :: l => if p x then (k : Int) else idxP p (k + 1) l
theorem idxP_any {α : Type} (p : α → Bool) : ∀ (k : Nat) (l : List α), decide (0 ≤ idxP p k l) = l.any p
  | k, [] => by simp [idxP]
  | k, x :: l => by
    unfold idxP
    cases h : p x with
    | true => simp [h]
    | false => simpa [h] using idxP_any p (k + 1) l
set_option maxRecDepth 100000 in
set_option maxHeartbeats 1000000 in
theorem idx_rows (g : Nat) (lb : Array Value) (p : Nat → Bool) (eg : ∀ args w, (callFunc g args).run Tryd.prog w = .ok (.enter g args) w) (C : Option Addr) (c : Nat) (l : List (List Int)) (w : World) (hC : RdE 1 RInts w C l) (lx : l.length ≤ maxLen)
    (hp : ∀ (W : World) (B : Option Addr) (r : List Int) (d : Nat), r ∈ l → Ext w W → Calls Tryd.prog g (#[.slice B r.length d] ++ lb) W fun e w' => e = .returned (.bool (p r.length)) ∧ Ext W w') :
    Calls Tryd.prog 99 #[.slice C l.length c, .func (.func g) #[] lb] w fun e w' => e = .returned (.int .i64 (idxP (fun r : List Int => p r.length) 0 l)) ∧ Ext w w' := by
  unfold maxLen at lx
  go_enter Tryd.func99, Tryd.ntmps99
  go_wp2_with (fail)
  go_loopw [8] (fun i wr => ∃ j : Nat, i = .int .i64 j ∧ j ≤ l.length ∧ Hid (idxP (fun r : List Int => p r.length) 0 l = idxP (fun r : List Int => p r.length) j (l.drop j)) ∧ Ext w wr) (fun i _ => l.length - (intOf i).toNat)
  case atStart => exact ⟨0, rfl, by omega, by exact rfl, Ext.rf _⟩
  case round =>
    obtain ⟨j, rfl, hj, HJ, Y⟩ := hrel
    by_cases hlt : j < l.length
    · obtain ⟨b, off, D, row, d, rfl, _, hc1, hx, hd, rr, ir, ld, md⟩ := (hC.ext Y fun _ _ h => h.ext Y).ints hlt
      have hcall := hp wr D row d (List.mem_of_getElem? hx.out) Y
      clear hp
      cases hq : p row.length with
      | true =>
        rw [hq] at hcall
        have HR : Hid (idxP (fun r : List Int => p r.length) 0 l = j) := by
          have h1 := HJ.out
          rw [hd.out, idxP, if_pos hq] at h1
          exact h1
        clear hq
        go_wp2_with (go_at_fn g; refine hcall.mono ?_; rintro e w' ⟨rfl, x'⟩)
        go_ret
        exact ⟨ret_i HR.out.symm, Ext.tr Y x'⟩
      | false =>
        rw [hq] at hcall
        have HR : Hid (idxP (fun r : List Int => p r.length) 0 l = idxP (fun r : List Int => p r.length) (j + 1) (l.drop (j + 1))) := by
          have h1 := HJ.out
          rw [hd.out, idxP, if_neg (by simp [hq])] at h1
          exact h1
        clear hq
        go_wp2_with (go_at_fn g; refine hcall.mono ?_; rintro e w' ⟨rfl, x'⟩)
        go_roundw
        case rel => exact ⟨j + 1, by go_num, by omega, HR, Ext.tr Y x'⟩
        case measure => simp [intOf]; omega
    · have hd := drop_nil (xs := l) (k := j) (by omega)
      have HR : Hid (idxP (fun r : List Int => p r.length) 0 l = -1) := by
        have h1 := HJ.out
        rw [hd.out, idxP] at h1
        exact h1
      clear hd hp
      go_wp2
      go_ret
      exact ⟨ret_i HR.out.symm, Y⟩
set_option maxRecDepth 100000 in
theorem has_rows (g : Nat) (lb : Array Value) (p : Nat → Bool) (eg : ∀ args w, (callFunc g args).run Tryd.prog w = .ok (.enter g args) w) (C : Option Addr) (c : Nat) (l : List (List Int)) (w : World) (hC : RdE 1 RInts w C l) (lx : l.length ≤ maxLen)
    (hp : ∀ (W : World) (B : Option Addr) (r : List Int) (d : Nat), r ∈ l → Ext w W → Calls Tryd.prog g (#[.slice B r.length d] ++ lb) W fun e w' => e = .returned (.bool (p r.length)) ∧ Ext W w') :
    Calls Tryd.prog 72 #[.slice C l.length c, .func (.func g) #[] lb] w fun e w' => e = .returned (.bool (l.any fun r => p r.length)) ∧ Ext w w' := by
  have H := Lib.hid (idxP_any (fun r : List Int => p r.length) 0 l)
  go_enter Tryd.func72, Tryd.ntmps72
  go_wp2_with (fail)
  refine (idx_rows g lb p eg C c l _ hC lx hp).mono ?_
  rintro e w' ⟨rfl, x'⟩
  clear hp
  go_wp2
  go_ret
  exact ⟨ret_b H.out, x'⟩
/-- the closure of inst.shape -/
theorem lens_any (B : Option Addr) (m d : Nat) (g : Nat) (n : Int) (cs : Array Value) (w : World) (hg : Blk w g 25 cs) (hn : cs[1]? = some (.int .i64 n)) :
    Calls Tryd.prog 73 (#[.slice B m d] ++ #[.pointer (some ⟨g, 0, none⟩)]) w fun e w' => e = .returned (.bool ((m : Int) != n)) ∧ Ext w w' := by
  have c1 : w.cell? ⟨g, 1, none⟩ = some (.int .i64 n) := (hg.cell 1).trans hn
  replace hg := Lib.hid hg
  replace hn := Lib.hid hn
  go_enter Tryd.func73, Tryd.ntmps73
  go_wp2
  go_ret
  exact ⟨rfl, Ext.rf _⟩
theorem lens_enters : ∀ args w, (callFunc 73 args).run Tryd.prog w = .ok (.enter 73 args) w := enters_of Tryd.func73 (by kernel_rfl) rfl
end Go.Proofs.YtleckhbmciiooaaDoor
namespace Go.Proofs.YtleckhbmciiooaaDoor
open Go.RowKit Go.ChangeShapes Go.WideShapes Go.ChangeAt Go.Deep

/-- lists of the right lengths -/
def shapeP (i : InstP) : Bool :=
  if i.kind = 1 then ((i.weight.length : Int) == i.n) && ((i.value.length : Int) == i.n) && ((i.cost.length : Int) == 0)
  else (((i.cost.length : Int) == i.n) && (i.cap == 0) && decide (i.weight.length + i.value.length = 0)) && !(i.cost.any fun r => (r.length : Int) != i.n)
/-- in form? -/
def checkP (i : InstP) : Int :=
  if sizeP i.kind i.n = 0 then (if shapeP i = true then (if i.kind = 1 then itemsP i.cap i.weight i.value i.weight.length else rowsE i.kind 0 i.cost) else 8) else sizeP i.kind i.n
set_option maxRecDepth 100000 in
set_option maxHeartbeats 4000000 in
theorem shape1_any (n cap : Int) (A B C : Option Addr) (a b c : Nat) (xs ys : List Int) (l : List (List Int)) (w : World) :
    Calls Tryd.prog 40 #[.agg #[.int .i64 1, .int .i64 n, .int .i64 cap, .slice A xs.length a, .slice B ys.length b, .slice C l.length c]] w fun e w' => e = .returned (.bool (((xs.length : Int) == n) && ((ys.length : Int) == n) && ((l.length : Int) == 0))) ∧ Ext w w' := by
  cases h1 : ((xs.length : Int) == n)
  · go_enter Tryd.func40, Tryd.ntmps40
    go_wp2
    go_ret
    exact ⟨rfl, by (repeat (first | assumption | exact Ext.rf _ | apply Ext.drew | apply Ext.drewN | apply Ext.alloc))⟩
  · cases h2 : ((ys.length : Int) == n)
    · go_enter Tryd.func40, Tryd.ntmps40
      go_wp2
      go_ret
      exact ⟨rfl, by (repeat (first | assumption | exact Ext.rf _ | apply Ext.drew | apply Ext.drewN | apply Ext.alloc))⟩
    · cases h3 : ((l.length : Int) == 0)
      · go_enter Tryd.func40, Tryd.ntmps40
        go_wp2
        go_ret
        exact ⟨rfl, by (repeat (first | assumption | exact Ext.rf _ | apply Ext.drew | apply Ext.drewN | apply Ext.alloc))⟩
      · go_enter Tryd.func40, Tryd.ntmps40
        go_wp2
        go_ret
        exact ⟨rfl, by (repeat (first | assumption | exact Ext.rf _ | apply Ext.drew | apply Ext.drewN | apply Ext.alloc))⟩
set_option maxRecDepth 100000 in
set_option maxHeartbeats 4000000 in
theorem shape0_any (k n cap : Int) (A B C : Option Addr) (a b c : Nat) (xs ys : List Int) (l : List (List Int)) (w : World) (hk : k ≠ 1) (hC : RdE 1 RInts w C l) (lc : l.length ≤ c) (mc : c ≤ maxLen) (lx : xs.length ≤ 1000000000) (ly : ys.length ≤ 1000000000) :
    Calls Tryd.prog 40 #[.agg #[.int .i64 k, .int .i64 n, .int .i64 cap, .slice A xs.length a, .slice B ys.length b, .slice C l.length c]] w fun e w' => e = .returned (.bool ((((l.length : Int) == n) && (cap == 0) && decide (xs.length + ys.length = 0)) && !(l.any fun r => (r.length : Int) != n))) ∧ Ext w w' := by
  have B1 : Hid (Blk (w.alloc (.cells #[.int .i64 k, .int .i64 n, .int .i64 cap, .slice A xs.length a, .slice B ys.length b, .slice C l.length c] 25)) w.heap.size 25 #[.int .i64 k, .int .i64 n, .int .i64 cap, .slice A xs.length a, .slice B ys.length b, .slice C l.length c]) := .new rfl
  have hk' : (k == 1) = false := by simpa using hk
  have lm : l.length ≤ maxLen := by omega
  replace hC := Lib.hid hC
  replace mc := Lib.hid mc
  replace lm := Lib.hid lm
  clear hk
  cases h1 : ((l.length : Int) == n)
  · have h1' : ((l.length : Int) != n) = true := by simp only [bne, h1]; rfl
    go_enter Tryd.func40, Tryd.ntmps40
    go_wp2
    go_ret
    exact ⟨rfl, by (repeat (first | assumption | exact Ext.rf _ | apply Ext.drew | apply Ext.drewN | apply Ext.alloc))⟩
  · have h1' : ((l.length : Int) != n) = false := by simp only [bne, h1]; rfl
    cases h2 : (cap == 0)
    · have h2' : (cap != 0) = true := by simp only [bne, h2]; rfl
      go_enter Tryd.func40, Tryd.ntmps40
      go_wp2
      go_ret
      exact ⟨rfl, by (repeat (first | assumption | exact Ext.rf _ | apply Ext.drew | apply Ext.drewN | apply Ext.alloc))⟩
    · have h2' : (cap != 0) = false := by simp only [bne, h2]; rfl
      by_cases hs : xs.length + ys.length = 0
      · have hs1 : decide (xs.length + ys.length = 0) = true := by simpa using hs
        rw [hs1]
        have l0 : xs.length = 0 := by omega
        have l1 : ys.length = 0 := by omega
        rw [l0, l1] at B1 ⊢
        clear hs hs1 l0 l1 lx ly
        go_enter Tryd.func40, Tryd.ntmps40
        go_wp2_with (fail)
        refine (has_rows _ _ (fun m => (m : Int) != n) lens_enters C c l _ (hC.out.ext ((Ext.rf _).alloc _) fun _ _ h => h.ext ((Ext.rf _).alloc _)) lm.out ?_).mono ?_
        · intro W D r d _ hx
          exact lens_any D r.length d w.heap.size n _ W (B1.out.ext hx) rfl
        rintro e w' ⟨rfl, x'⟩
        go_wp2
        go_ret
        exact ⟨by simp, Ext.tr (a := w) (by (repeat (first | assumption | exact Ext.rf _ | apply Ext.drew | apply Ext.drewN | apply Ext.alloc))) x'⟩
      · have hs1 : decide (xs.length + ys.length = 0) = false := by simpa using hs
        rw [hs1]
        have hs2 : (0 : Int) < (xs.length : Int) + (ys.length : Int) := by omega
        clear hs hs1
        go_enter Tryd.func40, Tryd.ntmps40
        go_wp2
        go_ret
        exact ⟨rfl, by (repeat (first | assumption | exact Ext.rf _ | apply Ext.drew | apply Ext.drewN | apply Ext.alloc))⟩
theorem sizeP_kind {k n : Int} (h : sizeP k n = 0) : k = 1 ∨ k = 2 ∨ k = 3 := by
  unfold sizeP at h
  split at h
  · exact .inl ‹_›
  · split at h
    · exact .inr (.inl ‹_›)
    · split at h
      · exact .inr (.inr ‹_›)
      · cases h
set_option maxRecDepth 100000 in
set_option maxHeartbeats 4000000 in
theorem check_any (i : InstP) (vs : List Value) (w : World) (H : RInst w vs i) (lw : i.weight.length ≤ 1000000000) (lv : i.value.length ≤ 1000000000) :
    Calls Tryd.prog 13 #[.agg (List.toArray vs)] w fun e w' => e = .returned (.int .i64 (checkP i)) ∧ Ext w w' := by
  obtain ⟨k, n, cap, xs, ys, l⟩ := i
  obtain ⟨A, a, B, b, C, c, rfl, ⟨rA, iA, lA, mA⟩, ⟨rB, iB, lB, mB⟩, ⟨rC, lC, mC⟩⟩ := H
  simp only at *
  have B1 : Hid (Blk (w.alloc (.cells #[.int .i64 k, .int .i64 n, .int .i64 cap, .slice A xs.length a, .slice B ys.length b, .slice C l.length c] 25)) w.heap.size 25 #[.int .i64 k, .int .i64 n, .int .i64 cap, .slice A xs.length a, .slice B ys.length b, .slice C l.length c]) := .new rfl
  replace rA := Lib.hid rA
  replace rB := Lib.hid rB
  replace rC := Lib.hid rC
  replace iA := Lib.hid iA
  replace iB := Lib.hid iB
  replace mA := Lib.hid mA
  replace mB := Lib.hid mB
  replace mC := Lib.hid mC
  have X1 : Ext w (w.alloc (.cells #[.int .i64 k, .int .i64 n, .int .i64 cap, .slice A xs.length a, .slice B ys.length b, .slice C l.length c] 25)) := (Ext.rf _).alloc _
  replace X1 := Lib.hid X1
  go_enter Tryd.func13, Tryd.ntmps13
  go_wp2_with (fail)
  refine (size_any k n cap _ _ _ _).mono ?_
  rintro e w2 ⟨rfl, x2⟩
  have X2 := Lib.hid (Ext.tr X1.out x2)
  have B2 := Lib.hid (B1.out.ext x2)
  have d0 : w2.cell? ⟨w.heap.size, 0, none⟩ = some (.int .i64 k) := B2.out.cell 0
  have d1 : w2.cell? ⟨w.heap.size, 1, none⟩ = some (.int .i64 n) := B2.out.cell 1
  have d2 : w2.cell? ⟨w.heap.size, 2, none⟩ = some (.int .i64 cap) := B2.out.cell 2
  have d3 : w2.cell? ⟨w.heap.size, 3, none⟩ = some (.slice A xs.length a) := B2.out.cell 3
  have d4 : w2.cell? ⟨w.heap.size, 4, none⟩ = some (.slice B ys.length b) := B2.out.cell 4
  have d5 : w2.cell? ⟨w.heap.size, 5, none⟩ = some (.slice C l.length c) := B2.out.cell 5
  by_cases hs : sizeP k n = 0
  · have hs' : (sizeP k n != 0) = false := by simpa using hs
    have qHS : checkP ⟨k, n, cap, xs, ys, l⟩ = (if shapeP ⟨k, n, cap, xs, ys, l⟩ = true then (if k = 1 then itemsP cap xs ys xs.length else rowsE k 0 l) else 8) := by
      unfold checkP
      simp only [if_pos hs]
    have HS := Lib.hid qHS
    clear qHS
    have kk := sizeP_kind hs
    replace hs := Lib.hid hs
    clear x2
    by_cases k1 : k = 1
    · subst k1
      have qHS2 : checkP ⟨1, n, cap, xs, ys, l⟩ = (if (((xs.length : Int) == n) && ((ys.length : Int) == n) && ((l.length : Int) == 0)) = true then itemsP cap xs ys xs.length else 8) := by
        have h1 := HS.out
        unfold shapeP at h1
        simpa only [if_true] using h1
      have HS2 := Lib.hid qHS2
      clear qHS2
      clear HS
      go_wp2_with (fail)
      refine (shape1_any n cap A B C a b c xs ys l _).mono ?_
      rintro e w3 ⟨rfl, x3⟩
      have X3 := Lib.hid (Ext.tr X2.out x3)
      have B3 := Lib.hid (B2.out.ext x3)
      have e0 : w3.cell? ⟨w.heap.size, 0, none⟩ = some (.int .i64 1) := B3.out.cell 0
      have e1 : w3.cell? ⟨w.heap.size, 1, none⟩ = some (.int .i64 n) := B3.out.cell 1
      have e2 : w3.cell? ⟨w.heap.size, 2, none⟩ = some (.int .i64 cap) := B3.out.cell 2
      have e3 : w3.cell? ⟨w.heap.size, 3, none⟩ = some (.slice A xs.length a) := B3.out.cell 3
      have e4 : w3.cell? ⟨w.heap.size, 4, none⟩ = some (.slice B ys.length b) := B3.out.cell 4
      have e5 : w3.cell? ⟨w.heap.size, 5, none⟩ = some (.slice C l.length c) := B3.out.cell 5
      clear d0 d1 d2 d3 d4 d5 x3 kk
      cases hh : (((xs.length : Int) == n) && ((ys.length : Int) == n) && ((l.length : Int) == 0)) with
      | false =>
        have qHC : checkP ⟨1, n, cap, xs, ys, l⟩ = 8 := by
          have h1 := HS2.out
          rw [hh, if_neg (by decide)] at h1
          exact h1
        have HC := Lib.hid qHC
        clear qHC
        clear hh
        go_wp2
        go_ret
        exact ⟨ret_i HC.out.symm, X3.out⟩
      | true =>
        have qHC : checkP ⟨1, n, cap, xs, ys, l⟩ = itemsP cap xs ys xs.length := by
          have h1 := HS2.out
          rw [hh, if_pos rfl] at h1
          exact h1
        have HC := Lib.hid qHC
        clear qHC
        simp only [Bool.and_eq_true, beq_iff_eq] at hh
        obtain ⟨⟨rfl, hy⟩, hz⟩ := hh
        clear HS2
        have hyx : Hid (xs.length = ys.length) := by have : xs.length = ys.length := by omega
                                                     exact this
        clear hy hz
        go_wp2_with (fail)
        refine (items_any A B a b 1 cap xs ys _ _ (rA.out.ext X3.out) (rB.out.ext X3.out) lA mA.out lB mB.out hyx.out).mono ?_
        rintro e w4 ⟨rfl, x4⟩
        go_wp2
        go_ret
        exact ⟨ret_i HC.out.symm, Ext.tr X3.out x4⟩
    · have k1' : (k == 1) = false := by simpa using k1
      have qHS2 : checkP ⟨k, n, cap, xs, ys, l⟩ = (if ((((l.length : Int) == n) && (cap == 0) && decide (xs.length + ys.length = 0)) && !(l.any fun r => (r.length : Int) != n)) = true then rowsE k 0 l else 8) := by
        have h1 := HS.out
        unfold shapeP at h1
        simpa only [if_neg k1] using h1
      have HS2 := Lib.hid qHS2
      clear qHS2
      clear HS
      go_wp2_with (fail)
      refine (shape0_any k n cap A B C a b c xs ys l _ k1 (rC.out.ext X2.out fun _ _ h => h.ext X2.out) lC mC.out lw lv).mono ?_
      rintro e w3 ⟨rfl, x3⟩
      have X3 := Lib.hid (Ext.tr X2.out x3)
      have B3 := Lib.hid (B2.out.ext x3)
      have e0 : w3.cell? ⟨w.heap.size, 0, none⟩ = some (.int .i64 k) := B3.out.cell 0
      have e1 : w3.cell? ⟨w.heap.size, 1, none⟩ = some (.int .i64 n) := B3.out.cell 1
      have e2 : w3.cell? ⟨w.heap.size, 2, none⟩ = some (.int .i64 cap) := B3.out.cell 2
      have e3 : w3.cell? ⟨w.heap.size, 3, none⟩ = some (.slice A xs.length a) := B3.out.cell 3
      have e4 : w3.cell? ⟨w.heap.size, 4, none⟩ = some (.slice B ys.length b) := B3.out.cell 4
      have e5 : w3.cell? ⟨w.heap.size, 5, none⟩ = some (.slice C l.length c) := B3.out.cell 5
      clear d0 d1 d2 d3 d4 d5 x3 kk k1
      generalize ((((l.length : Int) == n) && (cap == 0) && decide (xs.length + ys.length = 0)) && !(l.any fun r => (r.length : Int) != n)) = hh at HS2 ⊢
      cases hh with
      | false =>
        have HC : Hid (checkP ⟨k, n, cap, xs, ys, l⟩ = 8) := HS2.out
        clear HS2
        go_wp2
        go_ret
        exact ⟨ret_i HC.out.symm, X3.out⟩
      | true =>
        have HC : Hid (checkP ⟨k, n, cap, xs, ys, l⟩ = rowsE k 0 l) := HS2.out
        clear HS2
        go_wp2_with (fail)
        refine (rows_any k n cap _ _ C c l _ (rC.out.ext X3.out fun _ _ h => h.ext X3.out) lC mC.out).mono ?_
        rintro e w4 ⟨rfl, x4⟩
        go_wp2
        go_ret
        exact ⟨ret_i HC.out.symm, Ext.tr X3.out x4⟩
  · have hs' : (sizeP k n != 0) = true := by simpa using hs
    have qHC : checkP ⟨k, n, cap, xs, ys, l⟩ = sizeP k n := by
      unfold checkP
      simp only [if_neg hs]
    have HC := Lib.hid qHC
    clear qHC
    clear hs
    go_wp2
    go_ret
    exact ⟨ret_i HC.out.symm, X2.out⟩
end Go.Proofs.YtleckhbmciiooaaDoor
namespace Go.Proofs.YtleckhbmciiooaaDoor
open Go.RowKit Go.ChangeShapes Go.WideShapes Go.ChangeAt Go.Deep

/-- one number of the ways' costs, in memory -/
theorem cost_at {w : World} {D : Option Addr} {co : List (List Int)} (rok : RowsOk co) (hC : RdE 1 RInts w D co) {r c : Nat} (hr : r < co.length) (hc : c < co.length) :
    ∃ cb cof rb ro d', D = some ⟨cb, cof, none⟩ ∧ w.cell? ⟨cb, cof + r, none⟩ = some (.slice (some ⟨rb, ro, none⟩) co.length d') ∧ w.cell? ⟨rb, ro + c, none⟩ = some (.int .i64 (costAt co r c)) := by
  obtain ⟨cb, cof, D', row, d', rfl, zb, cD, er, _, rD, iD, ld, md⟩ := hC.ints hr
  have lrow := rok.row row (List.mem_of_getElem? er.out)
  obtain ⟨rb, ro, x, rfl, zx, cx, ex, _⟩ := rD.at (k := c) (by omega)
  refine ⟨cb, cof, rb, ro, d', rfl, by rw [cD, lrow], ?_⟩
  rw [cx]
  unfold costAt
  rw [getD_some er.out, getD_some ex.out]
theorem cost_in {w : World} {cb cof : Nat} {co : List (List Int)} (rok : RowsOk co) (hC : RdE 1 RInts w (some ⟨cb, cof, none⟩) co) {r c : Nat} (hr : r < co.length) (hc : c < co.length) :
    ∃ rb ro d', w.cell? ⟨cb, cof + r, none⟩ = some (.slice (some ⟨rb, ro, none⟩) co.length d') ∧ w.cell? ⟨rb, ro + c, none⟩ = some (.int .i64 (costAt co r c)) := by
  obtain ⟨cb', cof', rb, ro, d', h, h1, h2⟩ := cost_at rok hC hr hc
  obtain ⟨rfl, rfl⟩ : cb = cb' ∧ cof = cof' := by simpa using h
  exact ⟨rb, ro, d', h1, h2⟩
theorem ends_num {rows : List (List Int)} (ok : RowsOk rows) (a b : Nat) (ha : a < rows.length) (hb : b < rows.length) : 0 ≤ costAt rows a b ∧ costAt rows a b ≤ 2147483647 := by
  have e1 : rows[a]? = some rows[a] := List.getElem?_eq_getElem ha
  have e2 := ok.row _ (List.getElem_mem ha)
  have e3 : (rows[a])[b]? = some (rows[a])[b] := List.getElem?_eq_getElem (by omega)
  unfold costAt
  rw [getD_some e1, getD_some e3]
  exact ok.num _ (List.getElem_mem ha) _ (List.getElem_mem _)
end Go.Proofs.YtleckhbmciiooaaDoor
namespace Go.Proofs.YtleckhbmciiooaaDoor
open Go.RowKit

section
variable {P : Program} {ops : Array Oper} {Q : Exit → Act → World → Prop}
theorem wpAny_core4 {σ : Type} (rem : List (Nat × Option Tmp)) (R : σ → World → Prop) (V : Nat → Value → σ → World → Prop) (Stab : σ → World → σ → World → Prop) {listed0 : Array Bool} (listed1 : Array Bool) (hok : coreOk2 ops listed0 listed1 rem = true)
    (stab : ∀ j v s w s' w', V j v s w → Stab s w s' w' → V j v s' w')
    {a0 : Act}
    (step : ∀ p ∈ rem, ∀ u s w, R s w → (∀ j ∈ depsOf ops rem p.1, V j (u j) s w) → ∀ K : Act → World → Prop, (∀ v s' w', V p.1 v s' w' → R s' w' → Stab s w s' w' → K ((putAll a0 rem u).put p.2 v) w') → wpOp P ops Q p.1 K (putAll a0 rem u) w)
    (n : Nat) (done : ∀ u s w, R s w → (∀ p ∈ rem, V p.1 (u p.1) s w) → wpAny P .any ops Q n listed1 (putAll a0 rem u) w) {s0 : σ} {w0 : World} (hR : R s0 w0) :
    wpAny P .any ops Q (rem.length + n) listed0 a0 w0 := by
  simp only [coreOk2, Bool.and_eq_true, decide_eq_true_eq] at hok
  obtain ⟨⟨⟨⟨⟨hn, hdn⟩, hsz⟩, hsz1⟩, hall⟩, hcomp⟩ := hok
  have hall := List.all_eq_true.1 hall
  have hcomp := List.all_eq_true.1 hcomp
  have hmem : ∀ i ∈ rem.map (·.1), listed0.getD i true = false ∧ i < ops.size := by
    intro i hi
    obtain ⟨p, hp, rfl⟩ := List.mem_map.1 hi
    have h1 := hall p hp
    have hlt : p.1 < ops.size := by
      rcases Nat.lt_or_ge p.1 ops.size with h | h
      · exact h
      · rw [Array.getElem?_eq_none h] at h1; simp at h1
    have := hcomp p.1 (List.mem_range.2 hlt)
    have hc : (rem.map (·.1)).contains p.1 = true := by simpa using hi
    rw [hc] at this
    simp only [if_true, Bool.and_eq_true, Bool.not_eq_true'] at this
    exact ⟨this.1, hlt⟩
  have hone : ∀ i ∈ rem.map (·.1), listed1.getD i true = true := by
    intro i hi
    have := hcomp i (List.mem_range.2 (hmem i hi).2)
    have hc : (rem.map (·.1)).contains i = true := by simpa using hi
    rw [hc] at this
    simp only [if_true, Bool.and_eq_true] at this
    exact this.2
  have hrest : ∀ i, i < ops.size → i ∉ rem.map (·.1) → listed1.getD i true = listed0.getD i true ∧ ((listed0.getD i true = true ∨ ∀ p ∈ rem, reachN ops (rem.map (·.1)) (rem.length + 1) i p.1 = true) ∨ ∃ o, ops[i]? = some o ∧ ∃ e ∈ o.after.toList, Region.binds .any e = true ∧ e.on < ops.size ∧ listed0.getD e.on true = false ∧ e.on ∉ rem.map (·.1)) := by
    intro i hi hni
    have := hcomp i (List.mem_range.2 hi)
    have hc : (rem.map (·.1)).contains i = false := by
      cases h : (rem.map (·.1)).contains i with
      | false => rfl
      | true => exact absurd (by simpa using h) hni
    rw [hc] at this
    simp only [Bool.false_eq_true, if_false, Bool.and_eq_true, beq_iff_eq, Bool.or_eq_true] at this
    refine ⟨this.1, ?_⟩
    rcases this.2 with (h | h) | h
    · exact .inl (.inl h)
    · exact .inl (.inr fun p hp => List.all_eq_true.1 h p hp)
    · right
      rw [Array.getElem?_eq_getElem hi] at h
      refine ⟨ops[i], Array.getElem?_eq_getElem hi, ?_⟩
      simp only [Array.any_toList.symm, List.any_eq_true, Bool.and_eq_true, decide_eq_true_eq, Bool.not_eq_true'] at h
      obtain ⟨e, he, ⟨⟨h1, h2⟩, h3⟩, h4⟩ := h
      exact ⟨e, he, h1, h2, h3, by simpa using h4⟩
  -- the invariant
  suffices H : ∀ k (listed : Array Bool) (u : Nat → Value) (s : σ) (w : World), listed.size = ops.size → R s w → (∀ i, i < ops.size → i ∉ rem.map (·.1) → listed.getD i true = listed0.getD i true) →
      (∀ p ∈ rem, listed.getD p.1 true = true → V p.1 (u p.1) s w) → (∀ p ∈ rem.map (·.1), listed.getD p true = true → ∀ o, ops[p]? = some o → ∀ e ∈ o.after.toList, Region.binds .any e = true → listed.getD e.on true = true) → openOf listed rem = k → wpAny P .any ops Q (k + n) listed (putAll a0 rem u) w by
    obtain ⟨u, hu⟩ := putAll_self a0 rem hn
    have hopen : openOf listed0 rem = rem.length := by
      unfold openOf
      rw [List.filter_eq_self.2]
      intro p hp
      simp [(hmem p.1 (List.mem_map.2 ⟨p, hp, rfl⟩)).1]
    have h := H rem.length listed0 u s0 w0 hsz hR (fun i hi hni => rfl) (fun p hp hl => by
      have := (hmem p.1 (List.mem_map.2 ⟨p, hp, rfl⟩)).1
      rw [this] at hl
      cases hl) (fun p hp hl => by
      rw [(hmem p hp).1] at hl
      cases hl) hopen
    rwa [hu] at h
  intro k
  induction k with
  | zero =>
    intro listed u s w hs hRw hout hV hcl hopen
    have hall' : ∀ p ∈ rem, listed.getD p.1 true = true := by
      intro p hp
      simp only [openOf, List.length_eq_zero_iff, List.filter_eq_nil_iff, Bool.not_eq_true', Bool.not_eq_false] at hopen
      exact hopen p hp
    have hl : listed = listed1 := by
      apply Array.ext
      · rw [hs, hsz1]
      · intro i h1 h2
        have : listed.getD i true = listed1.getD i true := by
          by_cases hr : i ∈ rem.map (·.1)
          · rw [hone i hr]
            obtain ⟨p, hp, rfl⟩ := List.mem_map.1 hr
            exact hall' p hp
          · rw [hout i (by omega) hr, (hrest i (by omega) hr).1]
        simpa [Array.getD, h1, h2] using this
    rw [hl, Nat.zero_add]
    exact done u s w hRw (fun p hp => hV p hp (hall' p hp))
  | succ k ih =>
    intro listed u s w hs hRw hout hV hcl hopen
    rw [Nat.add_right_comm]
    -- one of the list is not yet listed: none of the others is ready
    have hsome : ∃ p ∈ rem, listed.getD p.1 true = false := by
      have : (rem.filter fun p => !listed.getD p.1 true) ≠ [] := by
        intro h
        simp only [openOf, h, List.length_nil] at hopen
        omega
      obtain ⟨p, hp⟩ := List.exists_mem_of_ne_nil _ this
      obtain ⟨h1, h2⟩ := List.mem_filter.1 hp
      exact ⟨p, h1, by simpa using h2⟩
    have hno : ∀ i, i ∈ Region.ready .any ops listed → i ∈ rem.map (·.1) := by
      intro i hi
      obtain ⟨hi1, hi2⟩ := List.mem_filter.1 hi
      have hilt := List.mem_range.1 hi1
      simp only [Bool.and_eq_true] at hi2
      have hil : listed.getD i true = false := by simpa using hi2.1
      by_cases hr : i ∈ rem.map (·.1)
      · exact hr
      · exfalso
        obtain ⟨h1, h2⟩ := hrest i hilt hr
        rw [hout i hilt hr] at hil
        rcases h2 with (h2 | h2) | h2
        · rw [h2] at hil; cases hil
        rotate_left
        · obtain ⟨o, ho, e, he, hb, hsz2, hl0, hnr⟩ := h2
          have h3 := hi2.2
          rw [ho] at h3
          simp only [Option.map_some, Option.getD_some, Array.all_eq_true_iff_forall_mem] at h3
          have := h3 e (by simpa using he)
          rw [hb] at this
          simp only [Bool.not_true, Bool.false_or] at this
          have hlt : e.on < listed.size := by rw [hs]; exact hsz2
          have e1 : listed.getD e.on false = listed.getD e.on true := by simp only [Array.getD, hlt, dif_pos]
          rw [e1, hout e.on hsz2 hnr, hl0] at this
          cases this
        · obtain ⟨p, hp, hpl⟩ := hsome
          have := reach_listed hcl _ i (ready_deps hi2.2) p.1 (h2 p hp)
          rw [hpl] at this
          cases this
    constructor
    · intro hnil
      -- the least one that is not listed is ready
      exfalso
      have key : ∀ i, i < ops.size → i ∈ rem.map (·.1) → listed.getD i true = true := by
        intro i
        induction i using Nat.strongRecOn with
        | _ i ihi =>
          intro hi hr
          obtain ⟨p, hp, rfl⟩ := List.mem_map.1 hr
          have h1 := hall p hp
          cases hl : listed.getD p.1 true with
          | true => rfl
          | false =>
            exfalso
            have hready : p.1 ∈ Region.ready .any ops listed := by
              refine List.mem_filter.2 ⟨List.mem_range.2 hi, ?_⟩
              rw [Array.getElem?_eq_getElem hi] at h1 ⊢
              simp only [Bool.and_eq_true, beq_iff_eq] at h1
              simp only [hl, Bool.not_false, Option.map_some, Option.getD_some, Bool.true_and]
              rw [Array.all_eq_true_iff_forall_mem] at h1 ⊢
              intro e he
              have := h1.2 e he
              cases hb : Region.binds .any e with
              | false => rfl
              | true =>
                rw [hb] at this
                simp only [Bool.not_true, Bool.false_or, Bool.and_eq_true, decide_eq_true_eq, Bool.or_eq_true] at this
                have hlt : e.on < listed.size := by rw [hs]; omega
                have hh : listed.getD e.on true = true := by
                  rcases this.2 with h | h
                  · exact ihi e.on this.1 (by omega) (by simpa using h)
                  · by_cases hr' : e.on ∈ rem.map (·.1)
                    · exact ihi e.on this.1 (by omega) hr'
                    · rw [hout e.on (by omega) hr']; exact h
                simp only [Array.getD, hlt, dif_pos] at hh ⊢
                simpa using hh
            rw [hnil] at hready
            cases hready
      obtain ⟨p, hp, hpl⟩ := hsome
      have := key p.1 (hmem p.1 (List.mem_map.2 ⟨p, hp, rfl⟩)).2 (List.mem_map.2 ⟨p, hp, rfl⟩)
      rw [this] at hpl
      cases hpl
    · intro i hi
      have hir := hno i hi
      obtain ⟨hi1, hi2⟩ := List.mem_filter.1 hi
      have hilt := List.mem_range.1 hi1
      simp only [Bool.and_eq_true] at hi2
      have hil : listed.getD i true = false := by simpa using hi2.1
      obtain ⟨p, hp, rfl⟩ := List.mem_map.1 hir
      refine step p hp u s w hRw ?_ _ ?_
      · intro j hj
        rw [depsOf, Array.getElem?_eq_getElem hilt] at hj
        obtain ⟨e, he, rfl⟩ := List.mem_map.1 hj
        obtain ⟨he1, he2⟩ := List.mem_filter.1 he
        simp only [Bool.and_eq_true] at he2
        have hjr : e.on ∈ rem.map (·.1) := by simpa using he2.2
        obtain ⟨q, hq, hqe⟩ := List.mem_map.1 hjr
        rw [← hqe]
        refine hV q hq ?_
        have h3 := hi2.2
        rw [Array.getElem?_eq_getElem hilt] at h3
        simp only [Option.map_some, Option.getD_some, Array.all_eq_true_iff_forall_mem] at h3
        have := h3 e (by simpa using he1)
        rw [he2.1] at this
        simp only [Bool.not_true, Bool.false_or] at this
        rw [hqe]
        have hlt : e.on < listed.size := by rw [hs, ← hqe]; exact (hmem q.1 (List.mem_map.2 ⟨q, hq, rfl⟩)).2
        simp only [Array.getD, hlt, dif_pos] at this ⊢
        simpa using this
      · intro v s' w' hv hR' hst
        have hpp : (p.1, p.2) ∈ rem := hp
        rw [putAll_upd a0 p.1 p.2 u v rem hn hdn hpp]
        have hset : ∀ j, (listed.setIfInBounds p.1 true).getD j true = if j = p.1 then true else listed.getD j true := by
          intro j
          simp only [Array.getD_eq_getD_getElem?, Array.getElem?_setIfInBounds]
          by_cases hj : p.1 = j
          · subst hj
            simp
            split <;> simp
          · rw [if_neg hj, if_neg (Ne.symm hj)]
        refine ih _ _ _ _ (by simpa using hs) hR' ?_ ?_ ?_ ?_
        · intro j hj hjr
          have hjp : ¬ j = p.1 := fun e => hjr (by rw [e]; exact List.mem_map.2 ⟨p, hp, rfl⟩)
          rw [hset, if_neg hjp]
          exact hout j hj hjr
        · intro q hq hql
          rw [hset] at hql
          by_cases he : q.1 = p.1
          · rw [he]
            simpa [upd] using hv
          · rw [if_neg he] at hql
            simp only [upd, if_neg he]
            exact stab _ _ _ _ _ _ (hV q hq hql) hst
        · intro q hq hql o ho e he hb
          rw [hset]
          split
          · rfl
          · rw [hset] at hql
            by_cases hqp : q = p.1
            · subst hqp
              exact ready_deps hi2.2 o ho e he hb
            · rw [if_neg hqp] at hql
              exact hcl q hq hql o ho e he hb
        · have hlt : openOf (listed.setIfInBounds p.1 true) rem + 1 = openOf listed rem := by
            unfold openOf
            have h1 : ∀ (qs : List (Nat × Option Tmp)), (qs.map (·.1)).Nodup → p ∈ qs → (qs.filter fun q => !(listed.setIfInBounds p.1 true).getD q.1 true).length + 1 = (qs.filter fun q => !listed.getD q.1 true).length := by
              intro qs hqn hpq
              have heq : ∀ (rs : List (Nat × Option Tmp)), p.1 ∉ rs.map (·.1) → (rs.filter fun q => !(listed.setIfInBounds p.1 true).getD q.1 true) = (rs.filter fun q => !listed.getD q.1 true) := by
                intro rs hrs
                refine List.filter_congr fun q hq => ?_
                have hne : q.1 ≠ p.1 := fun e => hrs (e ▸ List.mem_map.2 ⟨q, hq, rfl⟩)
                rw [hset, if_neg hne]
              induction qs with
              | nil => cases hpq
              | cons r rs ihr =>
                rcases List.mem_cons.1 hpq with rfl | hpq'
                · have := heq rs (List.nodup_cons.1 hqn).1
                  rw [List.filter_cons, List.filter_cons, this, hset, if_pos rfl, hil]
                  simp
                · have ih2 := ihr (List.nodup_cons.1 hqn).2 hpq'
                  have hne : r.1 ≠ p.1 := by
                    intro e
                    exact (List.nodup_cons.1 hqn).1 (List.mem_map.2 ⟨p, hpq', e.symm⟩)
                  rw [List.filter_cons, List.filter_cons, hset, if_neg hne]
                  split <;> (try simp only [List.length_cons]) <;> omega
            exact h1 rem hn hp
          omega
end
end Go.Proofs.YtleckhbmciiooaaDoor
namespace Go.Proofs.YtleckhbmciiooaaDoor
open Go

section
variable {P : Program} {ops : Array Oper} {Q : Exit → Act → World → Prop}
/-- operations that only read, of which it is known what each yields; what is left may wait for them through others -/
theorem wpAny_reads2 (rem : List (Nat × Option Tmp)) (f : Nat → Value) {listed0 : Array Bool} (listed1 : Array Bool) (hok : coreOk2 ops listed0 listed1 rem = true) {a0 : Act} {w : World} {n : Nat}
    (step : ∀ p ∈ rem, ∀ u : Nat → Value, (∀ j ∈ depsOf ops rem p.1, u j = f j) → ∀ K : Act → World → Prop, K ((putAll a0 rem u).put p.2 (f p.1)) w → wpOp P ops Q p.1 K (putAll a0 rem u) w)
    (done : wpAny P .any ops Q n listed1 (putAll a0 rem f) w) : wpAny P .any ops Q (rem.length + n) listed0 a0 w := by
  refine wpAny_core2 rem (fun w' => w' = w) (fun i v _ => v = f i) (fun _ _ => True) listed1 hok (fun _ _ _ _ h _ => h) ?_ n ?_ rfl
  · rintro p hp u w' rfl hD K hK
    exact step p hp u hD K (hK _ _ rfl rfl trivial)
  · rintro u w' rfl hV
    have : ∀ qs : List (Nat × Option Tmp), (∀ p ∈ qs, u p.1 = f p.1) → putAll a0 qs u = putAll a0 qs f := by
      intro qs
      induction qs with
      | nil => intro _; rfl
      | cons q qs ih =>
        intro h
        simp only [putAll, ih (fun p hp => h p (List.mem_cons_of_mem _ hp)), h q List.mem_cons_self]
    rw [this rem hV]
    exact done
end
end Go.Proofs.YtleckhbmciiooaaDoor
namespace Go.Proofs.YtleckhbmciiooaaDoor

/-- what some of the items weigh, what they are worth, which they are -/
abbrev Ld := Int × Int × Nat
def flatL : List Ld → List Value
  | [] => []
  | d :: l => .int .i64 d.1 :: .int .i64 d.2.1 :: .int .u64 (d.2.2 : Int) :: .int .u64 0 :: flatL l
theorem flatL_len : ∀ l : List Ld, (flatL l).length = l.length * 4
  | [] => rfl
  | d :: l => by simp only [flatL, List.length_cons, flatL_len l]; omega
theorem flatL_one : ∀ l : List Ld, ∀ u ∈ flatL l, u.oneCell' = true
  | [], u, h => by cases h
  | d :: l, u, h => by
    simp only [flatL, List.mem_cons] at h
    rcases h with rfl | rfl | rfl | rfl | h
    · rfl
    · rfl
    · rfl
    · rfl
    · exact flatL_one l u h
theorem flatL_append : ∀ l m : List Ld, flatL (l ++ m) = flatL l ++ flatL m
  | [], m => rfl
  | d :: l, m => by simp only [List.cons_append, flatL, flatL_append l m]
theorem flatL_get : ∀ {l : List Ld} {k : Nat} {d : Ld}, l[k]? = some d → (flatL l)[k * 4]? = some (.int .i64 d.1) ∧ (flatL l)[k * 4 + 1]? = some (.int .i64 d.2.1) ∧ (flatL l)[k * 4 + 2]? = some (.int .u64 (d.2.2 : Int)) ∧ (flatL l)[k * 4 + 3]? = some (.int .u64 0)
  | [], k, d, h => by simp at h
  | e :: l, 0, d, h => by
    obtain rfl : e = d := by simpa using h
    exact ⟨rfl, rfl, rfl, rfl⟩
  | e :: l, k + 1, d, h => by
    have ih := flatL_get (l := l) (k := k) (d := d) (by simpa using h)
    have e1 : ∀ j, (flatL (e :: l))[(k + 1) * 4 + j]? = (flatL l)[k * 4 + j]? := fun j => by
      rw [show (k + 1) * 4 + j = k * 4 + j + 1 + 1 + 1 + 1 by omega]
      rfl
    have e0 := e1 0
    simp only [Nat.add_zero] at e0
    rw [e0, e1 1, e1 2, e1 3]
    exact ih
/-- an item put to each that has room for it -/
def withP (l : List Ld) (k : Nat) (wt vl room : Int) : List Ld := (l.filter fun d => decide (d.1 + wt ≤ room)).map fun d => (d.1 + wt, d.2.1 + vl, d.2.2 ||| 2 ^ k)
theorem withP_snoc (l : List Ld) (d : Ld) (k : Nat) (wt vl room : Int) : withP (l ++ [d]) k wt vl room = withP l k wt vl room ++ (if d.1 + wt ≤ room then [(d.1 + wt, d.2.1 + vl, d.2.2 ||| 2 ^ k)] else []) := by
  unfold withP
  rw [List.filter_append, List.map_append]
  congr 1
  by_cases h : d.1 + wt ≤ room
  · simp [h]
  · simp [h]
theorem withP_len (l : List Ld) (k : Nat) (wt vl room : Int) : (withP l k wt vl room).length ≤ l.length := by
  unfold withP
  rw [List.length_map]
  exact List.length_filter_le _ _
def worseB (d m : Ld) : Bool := decide (m.1 ≤ d.1) && decide (d.2.1 ≤ m.2.1)
/-- what is kept, of the rest, behind what was kept -/
def keepL : List Ld → List Ld → List Ld
  | acc, [] => acc
  | acc, d :: r => keepL (match acc.getLast? with
    | none => [d]
    | some m => if worseB d m = true then acc else acc ++ [d]) r
theorem keepL_mem : ∀ {r acc : List Ld} {d : Ld}, d ∈ keepL acc r → d ∈ acc ∨ d ∈ r
  | [], acc, d, h => .inl h
  | e :: r, acc, d, h => by
    unfold keepL at h
    rcases keepL_mem h with h | h
    · split at h
      · exact .inr (by simpa using .inl (List.mem_singleton.1 h))
      · split at h
        · exact .inl h
        · rcases List.mem_append.1 h with h | h
          · exact .inl h
          · exact .inr (by simpa using .inl (List.mem_singleton.1 h))
    · exact .inr (List.mem_cons_of_mem _ h)
def Dom (l : List Ld) (d : Ld) : Prop := ∃ m ∈ l, m.1 ≤ d.1 ∧ d.2.1 ≤ m.2.1
theorem keepL_dom : ∀ {r acc : List Ld} {d : Ld}, Dom acc d ∨ d ∈ r → Dom (keepL acc r) d
  | [], acc, d, h => by
    rcases h with h | h
    · exact h
    · cases h
  | e :: r, acc, d, h => by
    unfold keepL
    refine keepL_dom ?_
    rcases h with ⟨m, h1, h2⟩ | h
    · left
      split
      · rename_i hn
        rw [List.getLast?_eq_none_iff.1 hn] at h1
        cases h1
      · split
        · exact ⟨m, h1, h2⟩
        · exact ⟨m, List.mem_append_left _ h1, h2⟩
    · rcases List.mem_cons.1 h with rfl | h
      · left
        split
        · exact ⟨d, by simp, Int.le_refl _, Int.le_refl _⟩
        · rename_i m hm
          split
          · rename_i hw
            simp only [worseB, Bool.and_eq_true, decide_eq_true_eq] at hw
            exact ⟨m, List.mem_of_getLast? hm, hw.1, hw.2⟩
          · exact ⟨d, by simp, Int.le_refl _, Int.le_refl _⟩
      · exact .inr h
theorem keepL_len : ∀ {r acc : List Ld}, (keepL acc r).length ≤ acc.length + r.length
  | [], acc => by simp [keepL]
  | e :: r, acc => by
    unfold keepL
    refine Nat.le_trans keepL_len ?_
    split
    · rename_i hn
      rw [List.getLast?_eq_none_iff.1 hn]
      simp
      omega
    · split <;> simp <;> omega
/-- the sum over a set's numbers below k -/
def sumB (f : Nat → Int) (k s : Nat) : Int := sumL ((List.range k).map fun j => if s.testBit j = true then f j else 0)
theorem sumB_succ (f : Nat → Int) (k s : Nat) : sumB f (k + 1) s = sumB f k s + (if s.testBit k = true then f k else 0) := by
  unfold sumB
  rw [List.range_succ, List.map_append, sumL_append]
  simp [sumL]
theorem sumB_congr {f : Nat → Int} {k s t : Nat} (h : ∀ j, j < k → s.testBit j = t.testBit j) : sumB f k s = sumB f k t := by
  unfold sumB
  congr 1
  exact List.map_congr_left fun j hj => by rw [h j (List.mem_range.1 hj)]
structure Good (k : Nat) (wf vf : Nat → Int) (cap : Int) (l : List Ld) : Prop where
  each : ∀ d ∈ l, d.2.2 < 2 ^ k ∧ d.1 = sumB wf k d.2.2 ∧ d.2.1 = sumB vf k d.2.2 ∧ d.1 ≤ cap
  dom : ∀ s, s < 2 ^ k → sumB wf k s ≤ cap → ∃ d ∈ l, d.1 ≤ sumB wf k s ∧ sumB vf k s ≤ d.2.1
  len : l.length ≤ 2 ^ k
theorem Good.start {wf vf : Nat → Int} {cap : Int} (h : 0 ≤ cap) : Good 0 wf vf cap [(0, 0, 0)] where
  each := fun d hd => by
    obtain rfl := List.mem_singleton.1 hd
    exact ⟨by simp, rfl, rfl, h⟩
  dom := fun s hs _ => ⟨(0, 0, 0), by simp, by simp [sumB, sumL], by simp [sumB, sumL]⟩
  len := by simp
theorem bit_low {s k : Nat} (h : s < 2 ^ k) : s.testBit k = false := Nat.testBit_lt_two_pow h
theorem Good.step {k : Nat} {wf vf : Nat → Int} {cap : Int} {l l2 : List Ld} (h : Good k wf vf cap l) (hw : 0 ≤ wf k) (hp : l2.Perm (l ++ withP l k (wf k) (vf k) cap)) : Good (k + 1) wf vf cap (keepL [] l2) := by
  have e2 : 2 ^ (k + 1) = 2 ^ k + 2 ^ k := by rw [Nat.pow_succ]; omega
  have hl : ∀ d ∈ l, d.2.2 < 2 ^ (k + 1) ∧ d.1 = sumB wf (k + 1) d.2.2 ∧ d.2.1 = sumB vf (k + 1) d.2.2 ∧ d.1 ≤ cap := fun d hd => by
    obtain ⟨h1, h2, h3, h4⟩ := h.each d hd
    rw [sumB_succ, sumB_succ, bit_low h1]
    exact ⟨by omega, by simpa using h2, by simpa using h3, h4⟩
  have hb : ∀ s : Nat, s < 2 ^ k → (∀ j, j < k → (s ||| 2 ^ k).testBit j = s.testBit j) ∧ (s ||| 2 ^ k).testBit k = true := fun s _ => by
    refine ⟨fun j hj => ?_, ?_⟩
    · rw [Nat.testBit_or, Nat.testBit_two_pow_of_ne (by omega), Bool.or_false]
    · rw [Nat.testBit_or, Nat.testBit_two_pow_self, Bool.or_true]
  have hm : ∀ d ∈ keepL [] l2, d ∈ l ∨ d ∈ withP l k (wf k) (vf k) cap := fun d hd => by
    rcases keepL_mem hd with h1 | h1
    · cases h1
    · exact List.mem_append.1 (hp.mem_iff.1 h1)
  refine ⟨fun d hd => ?_, fun s hs hc => ?_, ?_⟩
  · rcases hm d hd with h1 | h1
    · exact hl d h1
    · obtain ⟨q, hq, rfl⟩ := List.mem_map.1 h1
      obtain ⟨hq, hf⟩ := List.mem_filter.1 hq
      obtain ⟨h1, h2, h3, _⟩ := h.each q hq
      obtain ⟨b1, b2⟩ := hb q.2.2 h1
      have hlt : q.2.2 ||| 2 ^ k < 2 ^ (k + 1) := Nat.or_lt_two_pow (by omega) (by omega)
      refine ⟨hlt, ?_, ?_, by simpa using hf⟩
      · show q.1 + wf k = sumB wf (k + 1) (q.2.2 ||| 2 ^ k)
        rw [sumB_succ, b2, sumB_congr b1, if_pos rfl, h2]
      · show q.2.1 + vf k = sumB vf (k + 1) (q.2.2 ||| 2 ^ k)
        rw [sumB_succ, b2, sumB_congr b1, if_pos rfl, h3]
  · have fin : ∀ d : Ld, d ∈ l ++ withP l k (wf k) (vf k) cap → d.1 ≤ sumB wf (k + 1) s → sumB vf (k + 1) s ≤ d.2.1 → ∃ d ∈ keepL [] l2, d.1 ≤ sumB wf (k + 1) s ∧ sumB vf (k + 1) s ≤ d.2.1 := fun d hd h1 h2 => by
      obtain ⟨m, m1, m2, m3⟩ := keepL_dom (acc := []) (.inr (hp.mem_iff.2 hd))
      exact ⟨m, m1, by omega, by omega⟩
    rw [sumB_succ] at hc
    by_cases hk : s.testBit k = true
    · rw [if_pos hk] at hc
      have hs' : s % 2 ^ k < 2 ^ k := Nat.mod_lt _ (Nat.two_pow_pos k)
      have hbits : ∀ j, j < k → (s % 2 ^ k).testBit j = s.testBit j := fun j hj => by rw [Nat.testBit_mod_two_pow]; simp [hj]
      have e3 := sumB_congr (f := wf) hbits
      have e4 := sumB_congr (f := vf) hbits
      obtain ⟨d, d1, d2, d3⟩ := h.dom (s % 2 ^ k) hs' (by omega)
      refine fin (d.1 + wf k, d.2.1 + vf k, d.2.2 ||| 2 ^ k) (List.mem_append_right _ (List.mem_map.2 ⟨d, List.mem_filter.2 ⟨d1, by simp; omega⟩, rfl⟩)) ?_ ?_
      · show d.1 + wf k ≤ _
        rw [sumB_succ, if_pos hk]
        omega
      · show _ ≤ d.2.1 + vf k
        rw [sumB_succ, if_pos hk]
        omega
    · rw [if_neg hk] at hc
      have hs2 : s < 2 ^ k := by
        refine Nat.lt_pow_two_of_testBit (n := k) _ fun i hi => ?_
        by_cases e : i = k
        · rw [e]; simpa using hk
        · exact Nat.testBit_lt_two_pow (Nat.lt_of_lt_of_le hs (Nat.pow_le_pow_right (by omega) (by omega)))
      obtain ⟨d, d1, d2, d3⟩ := h.dom s hs2 (by omega)
      refine fin d (List.mem_append_left _ d1) ?_ ?_
      · rw [sumB_succ, if_neg hk]; omega
      · rw [sumB_succ, if_neg hk]; omega
  · refine Nat.le_trans keepL_len ?_
    rw [hp.length_eq, List.length_append]
    have := withP_len l k (wf k) (vf k) cap
    have := h.len
    simp
    omega
/-- the first of the best -/
def topL : Ld → List Ld → Ld
  | t, [] => t
  | t, d :: l => topL (if t.2.1 < d.2.1 then d else t) l
theorem topL_ge : ∀ {l : List Ld} {t : Ld}, t.2.1 ≤ (topL t l).2.1 ∧ (∀ d ∈ l, d.2.1 ≤ (topL t l).2.1) ∧ (topL t l = t ∨ topL t l ∈ l)
  | [], t => ⟨Int.le_refl _, (fun d h => by cases h), Or.inl rfl⟩
  | e :: l, t => by
    have ih := topL_ge (l := l) (t := if t.2.1 < e.2.1 then e else t)
    unfold topL
    by_cases h : t.2.1 < e.2.1
    · rw [if_pos h] at ih ⊢
      refine ⟨by have := ih.1; omega, fun d hd => ?_, ?_⟩
      · rcases List.mem_cons.1 hd with rfl | hd
        · exact ih.1
        · exact ih.2.1 d hd
      · rcases ih.2.2 with h2 | h2
        · right
          rw [h2]
          simp
        · exact .inr (List.mem_cons_of_mem _ h2)
    · rw [if_neg h] at ih ⊢
      refine ⟨ih.1, fun d hd => ?_, ?_⟩
      · rcases List.mem_cons.1 hd with rfl | hd
        · have := ih.1
          omega
        · exact ih.2.1 d hd
      · rcases ih.2.2 with h2 | h2
        · exact .inl h2
        · exact .inr (List.mem_cons_of_mem _ h2)
end Go.Proofs.YtleckhbmciiooaaDoor
namespace Go.Proofs.YtleckhbmciiooaaDoor
open Go.RowKit Go.ChangeShapes Go.WideShapes Go.ChangeAt Go.Deep

/-- what fill keeps, ahead of set g -/
structure FillS (rows : List (List Int)) (n N : Nat) (w wr : World) (base tc tb g : Nat) : Prop where
  mod : Mod (fun b => b = tc ∨ b = tb) w wr
  tabs : ∃ r r2 T Bk, WayM wr base tc N n g r T ∧ WayM wr base tb N n g r2 (fun g l => ((Bk g l : Nat) : Int)) ∧ WayOk rows n T Bk g ∧ (∀ a b, 1 ≤ a → a < g → 1 ≤ b → b < g → r a ≠ r2 b)
theorem WayM.putF {w w' : World} {base tc N n G q : Nat} {r : Nat → Nat} {T : Nat → Nat → Int} {u : Nat → Int} {cs : Array Value} (h : WayM w base tc N n G r T) (hb : Blk w tc 22 cs) (hs : cs.size = N) (hc : ∀ g, 1 ≤ g → g < G → cs[g]? = some (.slice (some ⟨r g, 0, none⟩) n n)) (hG : G < N) (m : Mod (fun b => b = tc) w w')
    (hF : Blk w' tc 22 (cs.setIfInBounds G (.slice (some ⟨q, 0, none⟩) n n))) (hq : Arr w' q n u) (hbq : base ≤ q) : WayM w' base tc N n (G + 1) (fun g => if g = G then q else r g) (fun g => if g = G then u else T g) := by
  refine ⟨⟨_, hF, by simpa using hs, fun g h1 h2 => ?_⟩, fun g h1 h2 => ?_⟩
  · by_cases e : g = G
    · subst e
      simp [Array.getElem?_setIfInBounds, hs, hG]
    · rw [if_neg e, Array.getElem?_setIfInBounds, if_neg (fun h => e h.symm)]
      exact hc g h1 (by omega)
  · by_cases e : g = G
    · simp only [if_pos e]
      exact ⟨hq, hbq⟩
    · simp only [if_neg e]
      have h3 := h.row g h1 (by omega)
      exact ⟨h3.1.mod m (h3.1.ne hb (by decide)), h3.2⟩
/-- the rows of one set, as far as city l -/
structure RowS (co : List (List Int)) (n : Nat) (T : Nat → Nat → Int) (g qa qb l : Nat) (w wr : World) : Prop where
  mod : Mod (fun b => b = qa ∨ b = qb) w wr
  a : Arr wr qa n (fun j => if j < l then (wayN co n T g j).1 else 0)
  b : Arr wr qb n (fun j => ((if j < l then (wayN co n T g j).2 else 0 : Nat) : Int))
/-- the rows of one set, at one of its cities, as far as the cities ahead k -/
structure RowAh (co : List (List Int)) (n : Nat) (T : Nat → Nat → Int) (g rs qa qb l k : Nat) (w wr : World) : Prop where
  mod : Mod (fun b => b = qa ∨ b = qb) w wr
  a : Arr wr qa n (fun j => if j = l then (leastW (fun a => T rs a + costAt co (a + 1) (l + 1)) rs k).1 else if j < l then (wayN co n T g j).1 else 0)
  b : Arr wr qb n (fun j => ((if j = l then (leastW (fun a => T rs a + costAt co (a + 1) (l + 1)) rs k).2 else if j < l then (wayN co n T g j).2 else 0 : Nat) : Int))
section
variable {co : List (List Int)} {n : Nat} {T : Nat → Nat → Int} {g rs qa qb l k : Nat} {w wr : World}
theorem RowAh.rows (h : RowAh co n T g rs qa qb l n w wr) (hb : g.testBit l = true) (hr : clrM g l = rs) (h0 : rs ≠ 0) : RowS co n T g qa qb (l + 1) w wr := by
  have wN : wayN co n T g l = leastW (fun a => T rs a + costAt co (a + 1) (l + 1)) rs n := by
    unfold wayN
    rw [if_pos hb, hr, if_neg h0]
  refine ⟨h.mod, h.a.congr fun j _ => ?_, h.b.congr fun j _ => ?_⟩
  · by_cases e : j = l
    · subst e
      rw [if_pos rfl, if_pos (by omega), wN]
    · simp only [if_neg e]
      by_cases e2 : j < l
      · simp only [if_pos e2, if_pos (show j < l + 1 by omega)]
      · simp only [if_neg e2, if_neg (show ¬ j < l + 1 by omega)]
  · by_cases e : j = l
    · subst e
      rw [if_pos rfl, if_pos (by omega), wN]
    · simp only [if_neg e]
      by_cases e2 : j < l
      · simp only [if_pos e2, if_pos (show j < l + 1 by omega)]
      · simp only [if_neg e2, if_neg (show ¬ j < l + 1 by omega)]
theorem RowAh.same (h : RowAh co n T g rs qa qb l k w wr) (e : leastW (fun a => T rs a + costAt co (a + 1) (l + 1)) rs (k + 1) = leastW (fun a => T rs a + costAt co (a + 1) (l + 1)) rs k) : RowAh co n T g rs qa qb l (k + 1) w wr :=
  ⟨h.mod, h.a.congr fun j _ => by rw [e], h.b.congr fun j _ => by rw [e]⟩
theorem RowAh.take (h : RowAh co n T g rs qa qb l k w wr) (hn : qa ≠ qb) {c : Int} (e : leastW (fun a => T rs a + costAt co (a + 1) (l + 1)) rs (k + 1) = (c, k)) :
    RowAh co n T g rs qa qb l (k + 1) w ((wr.setCell ⟨qa, l, none⟩ (.int .i64 c)).setCell ⟨qb, l, none⟩ (.int .i64 k)) := by
  refine ⟨(h.mod.set (p := ⟨qa, l, none⟩) (.inl (.inl rfl)) _).set (p := ⟨qb, l, none⟩) (.inl (.inr rfl)) _, ((h.a.set l c).far (a := ⟨qb, l, none⟩) hn _).congr fun j _ => ?_, ((h.b.far (a := ⟨qa, l, none⟩) (fun e => hn e.symm) _).set l (k : Int)).congr fun j _ => ?_⟩
  · rw [e]
    by_cases e2 : j = l <;> simp [e2]
  · rw [e]
    by_cases e2 : j = l <;> simp [e2]
end
/-- the first table has got its row -/
def FormF (csT : Array Value) (n g base tc : Nat) (T : Nat → Nat) (W : World) : Prop := ∃ h, Blk W tc 22 (csT.setIfInBounds g (.slice (some ⟨h, 0, none⟩) n n)) ∧ Arr W h n (fun _ => 0) ∧ base ≤ h ∧ T h = 11
theorem FormF.ext {csT : Array Value} {n g base tc : Nat} {T T' : Nat → Nat} {W W' : World} (f : FormF csT n g base tc T W) (x : Ext W W') (hT : ∀ h, h < W.heap.size → T' h = T h) : FormF csT n g base tc T' W' := by
  obtain ⟨h, h1, h2, h3, h4⟩ := f
  exact ⟨h, h1.ext x, h2.ext x, h3, by rw [hT h h2.lt]; exact h4⟩
theorem FormF.of {csT : Array Value} {n g base tc h : Nat} {T : Nat → Nat} {W : World} (f : Blk W tc 22 csT ∨ FormF csT n g base tc T W) (a : Arr W h n (fun _ => 0)) (hb : base ≤ h) (hT : T h = 11) : FormF csT n g base tc T (W.setCell ⟨tc, g, none⟩ (.slice (some ⟨h, 0, none⟩) n n)) := by
  rcases f with b | ⟨h', b, _⟩
  · exact ⟨h, b.set g _, a.far (a.ne b (by decide)) _, hb, hT⟩
  · refine ⟨h, ?_, a.far (a.ne b (by decide)) _, hb, hT⟩
    have := b.set g (.slice (some ⟨h, 0, none⟩) n n)
    rw [Array.setIfInBounds_setIfInBounds] at this
    exact this
theorem FormF.can {csT : Array Value} {n g base tc : Nat} {T : Nat → Nat} {W : World} (f : Blk W tc 22 csT ∨ FormF csT n g base tc T W) (hv : ∃ v, csT[g]? = some v) : (∃ v, W.cell? ⟨tc, g, none⟩ = some v) ∧ W.frozen? ⟨tc, g, none⟩ = false := by
  obtain ⟨v, hv⟩ := hv
  rcases f with b | ⟨h', b, _⟩
  · exact ⟨⟨v, by rw [b.cell]; exact hv⟩, b.free g⟩
  · refine ⟨⟨.slice (some ⟨h', 0, none⟩) n n, ?_⟩, b.free g⟩
    rw [b.cell, Array.getElem?_setIfInBounds_self_of_lt]
    exact (Array.getElem?_eq_some_iff.1 hv).1
set_option maxRecDepth 100000 in
set_option maxHeartbeats 4000000 in
theorem fill_any (i : InstP) (us : List Value) (w0 w : World) (H : RInst w0 us i) (X : Ext w0 w) (rok : RowsOk i.cost) (n N gp tc tb : Nat) (hn : i.n = n + 1) (hl : i.cost.length = n + 1) (n1 : 1 ≤ n) (n11 : n ≤ 11) (hN : N = 2 ^ n)
    (hP : Blk w gp 110 #[.slice (some ⟨tc, 0, none⟩) N N, .slice (some ⟨tb, 0, none⟩) N N]) (S1 : FillS i.cost n N w w w0.heap.size tc tb 1) (hc : w0.heap.size ≤ tc) (hb : w0.heap.size ≤ tb) (hcb : tc ≠ tb) :
    Calls Tryd.prog 69 #[.pointer (some ⟨gp, 0, none⟩), .agg (List.toArray us)] w fun e w' => e = .returned (.tuple #[]) ∧ FillS i.cost n N w w' w0.heap.size tc tb N := by
  have num := ends_num rok
  obtain ⟨kind, nn, cap, xw, xv, co⟩ := i
  obtain ⟨A, a, B, b, D, d, rfl, -, -, hC⟩ := H
  simp only at *
  subst hn
  have PM : ∀ W, Mod (fun b => b = tc ∨ b = tb) w W → Blk W gp 110 #[.slice (some ⟨tc, 0, none⟩) N N, .slice (some ⟨tb, 0, none⟩) N N] := fun W m => hP.mod m (by
    obtain ⟨_, _, _, _, h1, h2, _⟩ := S1.tabs
    obtain ⟨cs, h3, _⟩ := h1.tab
    obtain ⟨cs2, h4, _⟩ := h2.tab
    rintro (e | e)
    · exact Blk.ne hP h3 (by decide) e
    · exact Blk.ne hP h4 (by decide) e)
  have N2 : N ≤ 2048 := by
    have : 2 ^ n ≤ 2 ^ 11 := Nat.pow_le_pow_right (by omega) n11
    omega
  have N3 : 2 ≤ N := by
    have : 2 ^ 1 ≤ 2 ^ n := Nat.pow_le_pow_right (by omega) n1
    omega
  have SH : IntKind.i64.wrap ((2 : Int) ^ n) = (N : Int) := by rw [hN]; exact shl_wrap_i64 n (by omega)
  have w1 : IntKind.i64.wrap ((n : Int) + 1 - 1) = (n : Int) := by rw [show (n : Int) + 1 - 1 = (n : Int) by omega]; exact IntWalk.i64_in _ (by omega)
  replace S1 := Lib.hid S1
  replace PM := Lib.hid PM
  replace num := Lib.hid num
  replace rok := Lib.hid rok
  replace hC := Lib.hid hC
  replace hN := Lib.hid hN
  replace X := Lib.hid X
  have B1 : Hid (Blk (w.alloc (.cells #[.int .i64 kind, .int .i64 (n + 1), .int .i64 cap, .slice A xw.length a, .slice B xv.length b, .slice D co.length d] 25)) w.heap.size 25 #[.int .i64 kind, .int .i64 (n + 1), .int .i64 cap, .slice A xw.length a, .slice B xv.length b, .slice D co.length d]) := .new rfl
  have X1 : Hid (Ext w (w.alloc (.cells #[.int .i64 kind, .int .i64 (n + 1), .int .i64 cap, .slice A xw.length a, .slice B xv.length b, .slice D co.length d] 25))) := (Ext.rf _).alloc _
  rw [hl] at B1 X1 ⊢
  replace hl := Lib.hid hl
  clear hP
  go_enter Tryd.func69, Tryd.ntmps69
  go_upto_region 2 with (fail)
  generalize w.alloc (.cells #[.int .i64 kind, .int .i64 (n + 1), .int .i64 cap, .slice A xw.length a, .slice B xv.length b, .slice D (n + 1) d] 25) = w1 at *
  obtain ⟨gi, hgi⟩ : ∃ gi, gi = w.heap.size := ⟨_, rfl⟩
  rw [← hgi] at B1 ⊢
  replace hgi := Lib.hid hgi
  have S2 : Hid (FillS co n N w w1 w0.heap.size tc tb 1) := by
    obtain ⟨r, r2, T, Bk, h1, h2, h3, h4⟩ := S1.out.tabs
    exact ⟨S1.out.mod.ext X1.out, r, r2, T, Bk, h1.ext X1.out, h2.ext X1.out, h3, h4⟩
  go_wp2_with (fail)
  go_loopw [5] (fun v5 wr => ∃ g : Nat, v5 = .int .i64 g ∧ 1 ≤ g ∧ g ≤ N ∧ Hid (FillS co n N w wr w0.heap.size tc tb g) ∧ Hid (Blk wr gi 25 #[.int .i64 kind, .int .i64 (n + 1), .int .i64 cap, .slice A xw.length a, .slice B xv.length b, .slice D (n + 1) d])) (fun v5 _ => N - (intOf v5).toNat)
  case atStart => exact ⟨1, rfl, by omega, by omega, S2, B1⟩
  case round =>
    clear S2 B1
    obtain ⟨wo, rfl⟩ : ∃ wo : World, wo = wr := ⟨_, rfl⟩
    obtain ⟨g, rfl, hg1, hg2, FS, Bi⟩ := hrel
    by_cases hlt : g < N
    · have q1 : (g : Int) < (N : Int) := by omega
      obtain ⟨r, r2, T, Bk, hT, hB, hW, hR⟩ := FS.out.tabs
      have Pp := PM.out wo FS.out.mod
      have zc := (hT.any hlt).2.2
      have zb := (hB.any hlt).2.2
      have zl := FS.out.mod.size
      have zw0 := X.out.size
      replace hT := Lib.hid hT
      replace hB := Lib.hid hB
      replace hW := Lib.hid hW
      replace hR := Lib.hid hR
      replace Pp := Lib.hid Pp
      go_wp2_with (fail)
      refine wp_region_any (by kernel_rfl) ?_
      change wpAny _ _ _ _ _ _ _ (World.drew _)
      refine wpAny_T (i := 0) (op := Op.move (Operand.tmp 0)) (t := 108) (d := some 19) (v := ?_) rfl (by decide +kernel) (by decide +kernel) (by decide +kernel) (fun _ _ _ h => h) ?_ ?_
      case refine_2 => (intro _; unfold exec2; go_simp; try with_reducible rfl)
      try simp only [Act.put, List.setIfInBounds_toArray, List.set_cons_zero, List.set_cons_succ]
      refine wpAny_T (i := 1) (op := Op.nilCheck (Operand.tmp 19)) (t := 0) (d := some 20) (v := ?_) rfl (by decide +kernel) (by decide +kernel) (by decide +kernel) (fun _ _ _ h => h) ?_ ?_
      case refine_2 => (intro _; unfold exec2; go_simp; try with_reducible rfl)
      try simp only [Act.put, List.setIfInBounds_toArray, List.set_cons_zero, List.set_cons_succ]
      refine wpAny_T (i := 2) (op := Op.fieldAddr 110 (Operand.tmp 20) 0) (t := 0) (d := some 21) (v := ?_) rfl (by decide +kernel) (by decide +kernel) (by decide +kernel) (fun _ _ _ h => h) ?_ ?_
      case refine_2 => (intro _; unfold exec2; go_simp; try with_reducible rfl)
      try simp only [Act.put, List.setIfInBounds_toArray, List.set_cons_zero, List.set_cons_succ]
      refine wpAny_T (i := 4) (op := Op.move (Operand.tmp 5)) (t := 3) (d := some 23) (v := ?_) rfl (by decide +kernel) (by decide +kernel) (by decide +kernel) (fun _ _ _ h => h) ?_ ?_
      case refine_2 => (intro _; unfold exec2; go_simp; try with_reducible rfl)
      try simp only [Act.put, List.setIfInBounds_toArray, List.set_cons_zero, List.set_cons_succ]
      refine wpAny_T (i := 5) (op := Op.move (Operand.tmp 0)) (t := 108) (d := some 24) (v := ?_) rfl (by decide +kernel) (by decide +kernel) (by decide +kernel) (fun _ _ _ h => h) ?_ ?_
      case refine_2 => (intro _; unfold exec2; go_simp; try with_reducible rfl)
      try simp only [Act.put, List.setIfInBounds_toArray, List.set_cons_zero, List.set_cons_succ]
      refine wpAny_T (i := 6) (op := Op.nilCheck (Operand.tmp 24)) (t := 0) (d := some 25) (v := ?_) rfl (by decide +kernel) (by decide +kernel) (by decide +kernel) (fun _ _ _ h => h) ?_ ?_
      case refine_2 => (intro _; unfold exec2; go_simp; try with_reducible rfl)
      try simp only [Act.put, List.setIfInBounds_toArray, List.set_cons_zero, List.set_cons_succ]
      refine wpAny_T (i := 7) (op := Op.fieldAddr 110 (Operand.tmp 25) 1) (t := 0) (d := some 26) (v := ?_) rfl (by decide +kernel) (by decide +kernel) (by decide +kernel) (fun _ _ _ h => h) ?_ ?_
      case refine_2 => (intro _; unfold exec2; go_simp; try with_reducible rfl)
      try simp only [Act.put, List.setIfInBounds_toArray, List.set_cons_zero, List.set_cons_succ]
      refine wpAny_T (i := 9) (op := Op.move (Operand.tmp 5)) (t := 3) (d := some 28) (v := ?_) rfl (by decide +kernel) (by decide +kernel) (by decide +kernel) (fun _ _ _ h => h) ?_ ?_
      case refine_2 => (intro _; unfold exec2; go_simp; try with_reducible rfl)
      try simp only [Act.put, List.setIfInBounds_toArray, List.set_cons_zero, List.set_cons_succ]
      refine wpAny_T (i := 10) (op := Op.move (Operand.tmp 4)) (t := 3) (d := some 29) (v := ?_) rfl (by decide +kernel) (by decide +kernel) (by decide +kernel) (fun _ _ _ h => h) ?_ ?_
      case refine_2 => (intro _; unfold exec2; go_simp; try with_reducible rfl)
      try simp only [Act.put, List.setIfInBounds_toArray, List.set_cons_zero, List.set_cons_succ]
      refine wpAny_T (i := 12) (op := Op.move (Operand.tmp 4)) (t := 3) (d := some 31) (v := ?_) rfl (by decide +kernel) (by decide +kernel) (by decide +kernel) (fun _ _ _ h => h) ?_ ?_
      case refine_2 => (intro _; unfold exec2; go_simp; try with_reducible rfl)
      try simp only [Act.put, List.setIfInBounds_toArray, List.set_cons_zero, List.set_cons_succ]
      obtain ⟨csT, bT0, sT, hcsT⟩ := hT.out.tab
      obtain ⟨csB, bB0, _⟩ := hB.out.tab
      have vT : ∃ v, csT[g]? = some v := ⟨csT[g], Array.getElem?_eq_getElem (by omega)⟩
      refine wpAny_core4 (n := 2) (σ := Nat → Nat) [(3, some 22), (8, some 27), (11, some 30), (13, some 32), (14, some 33), (15, none)]
        (fun T W => Mod (fun b => b = tc) wo W ∧ (Blk W tc 22 csT ∨ FormF csT n g wo.heap.size tc T W))
        (fun i v T W => (i = 3 → v = .slice (some ⟨tc, 0, none⟩) N N) ∧ (i = 8 → v = .slice (some ⟨tb, 0, none⟩) N N) ∧ (i = 11 ∨ i = 13 → ∃ h, v = .slice (some ⟨h, 0, none⟩) n n ∧ Arr W h n (fun _ => 0) ∧ wo.heap.size ≤ h ∧ T h = i) ∧ (i = 14 → v = .pointer (some ⟨tc, g, none⟩)) ∧ (i = 15 → FormF csT n g wo.heap.size tc T W))
        (fun T W T' W' => Mod (fun b => b = tc) W W' ∧ (∀ h, h < W.heap.size → T' h = T h) ∧ (FormF csT n g wo.heap.size tc T W → FormF csT n g wo.heap.size tc T' W')) #[true, true, true, true, true, true, true, true, true, true, true, true, true, true, true, true, false, false] (by decide +kernel) ?_ ?_ ?_ (s0 := fun _ => 0) ⟨(Mod.rf _).drew, .inl bT0.drew⟩
      · rintro j v T W T' W' ⟨h1, h2, h3, h4, h5⟩ ⟨hx, hT, hF⟩
        refine ⟨h1, h2, fun hj => ?_, h4, fun hj => hF (h5 hj)⟩
        obtain ⟨h, k1, k2, k3, k4⟩ := h3 hj
        exact ⟨h, k1, k2.mod hx (by omega), k3, by rw [hT h k2.lt]; exact k4⟩
      · intro pq hpm u T W hRW hD K hK
        obtain ⟨hMW, hTW⟩ := hRW
        have bpw : Blk W gp 110 #[.slice (some ⟨tc, 0, none⟩) N N, .slice (some ⟨tb, 0, none⟩) N N] := Pp.out.mod hMW (Blk.ne Pp.out bT0 (by decide))
        have c0 : W.cell? ⟨gp, 0, none⟩ = some (.slice (some ⟨tc, 0, none⟩) N N) := bpw.cell 0
        have c1 : W.cell? ⟨gp, 1, none⟩ = some (.slice (some ⟨tb, 0, none⟩) N N) := bpw.cell 1
        have MK : ∀ (i : Nat) (W' : World), i = 11 ∨ i = 13 → Arr W' W.heap.size n (fun _ => 0) → Ext W W' → ((i = 3 → Value.slice (some ⟨W.heap.size, 0, none⟩) n n = .slice (some ⟨tc, 0, none⟩) N N) ∧ (i = 8 → Value.slice (some ⟨W.heap.size, 0, none⟩) n n = .slice (some ⟨tb, 0, none⟩) N N) ∧ (i = 11 ∨ i = 13 → ∃ h, Value.slice (some ⟨W.heap.size, 0, none⟩) n n = .slice (some ⟨h, 0, none⟩) n n ∧ Arr W' h n (fun _ => 0) ∧ wo.heap.size ≤ h ∧ (fun x => if x = W.heap.size then i else T x) h = i) ∧ (i = 14 → Value.slice (some ⟨W.heap.size, 0, none⟩) n n = .pointer (some ⟨tc, g, none⟩)) ∧ (i = 15 → FormF csT n g wo.heap.size tc (fun x => if x = W.heap.size then i else T x) W')) ∧ (Mod (fun b => b = tc) wo W' ∧ (Blk W' tc 22 csT ∨ FormF csT n g wo.heap.size tc (fun x => if x = W.heap.size then i else T x) W')) ∧ (Mod (fun b => b = tc) W W' ∧ (∀ h, h < W.heap.size → (fun x => if x = W.heap.size then i else T x) h = T h) ∧ (FormF csT n g wo.heap.size tc T W → FormF csT n g wo.heap.size tc (fun x => if x = W.heap.size then i else T x) W')) := fun i W' hi a x => by
          have tg : ∀ h, h < W.heap.size → (fun x => if x = W.heap.size then i else T x) h = T h := fun h hh => if_neg (by omega)
          have ff : FormF csT n g wo.heap.size tc T W → FormF csT n g wo.heap.size tc (fun x => if x = W.heap.size then i else T x) W' := fun f => f.ext x tg
          exact ⟨⟨(fun h => by omega), (fun h => by omega), (fun _ => ⟨_, rfl, a, hMW.size, if_pos rfl⟩), (fun h => by omega), (fun h => by omega)⟩, ⟨hMW.ext x, hTW.elim (fun b => .inl (b.ext x)) fun f => .inr (ff f)⟩, Mod.of_ext x, tg, ff⟩
        have ID : Mod (fun b => b = tc) W W ∧ (∀ h, h < W.heap.size → T h = T h) ∧ (FormF csT n g wo.heap.size tc T W → FormF csT n g wo.heap.size tc T W) := ⟨Mod.rf _, fun _ _ => rfl, fun f => f⟩
        simp only [List.mem_cons, List.not_mem_nil, or_false] at hpm
        rcases hpm with rfl | rfl | rfl | rfl | rfl | rfl
        · exact op_ld (T := 23) rfl (.pointer (some ⟨gp, 0, none⟩)) (by kernel_rfl) (.slice (some ⟨tc, 0, none⟩) N N) (by go_simp) (hK _ T W ⟨fun _ => rfl, (fun h => by cases h), (fun h => by omega), (fun h => by cases h), (fun h => by cases h)⟩ ⟨hMW, hTW⟩ ID)
        · exact op_ld (T := 23) rfl (.pointer (some ⟨gp, 1, none⟩)) (by kernel_rfl) (.slice (some ⟨tb, 0, none⟩) N N) (by go_simp) (hK _ T W ⟨(fun h => by cases h), fun _ => rfl, (fun h => by omega), (fun h => by cases h), (fun h => by cases h)⟩ ⟨hMW, hTW⟩ ID)
        · exact op_make_a rfl n (n : Int) (by kernel_rfl) (by kernel_rfl) rfl (by omega) fun W' a x => hK _ _ _ (MK 11 W' (.inl rfl) a x).1 (MK 11 W' (.inl rfl) a x).2.1 (MK 11 W' (.inl rfl) a x).2.2
        · exact op_make_a rfl n (n : Int) (by kernel_rfl) (by kernel_rfl) rfl (by omega) fun W' a x => hK _ _ _ (MK 13 W' (.inr rfl) a x).1 (MK 13 W' (.inr rfl) a x).2.1 (MK 13 W' (.inr rfl) a x).2.2
        · have h3 := (hD 3 (depIn (by kernel_rfl))).1 rfl
          exact op_ix (T := 23) rfl (.slice (some ⟨tc, 0, none⟩) N N) (.int .i64 g) (Eq.trans (b := u 3) (by kernel_rfl) h3) (by kernel_rfl) (.pointer (some ⟨tc, g, none⟩)) (by go_simp) (hK _ T W ⟨(fun h => by cases h), (fun h => by cases h), (fun h => by omega), (fun _ => rfl), (fun h => by cases h)⟩ ⟨hMW, hTW⟩ ID)
        · have h14 := (hD 14 (depIn (by kernel_rfl))).2.2.2.1 rfl
          obtain ⟨h, h11, a11, z11, e11⟩ := (hD 11 (depIn (by kernel_rfl))).2.2.1 (.inl rfl)
          have NF : FormF csT n g wo.heap.size tc T (W.setCell ⟨tc, g, none⟩ (.slice (some ⟨h, 0, none⟩) n n)) := FormF.of hTW a11 z11 e11
          obtain ⟨⟨vc, kc⟩, fc⟩ : (∃ v, W.cell? ⟨tc, g, none⟩ = some v) ∧ W.frozen? ⟨tc, g, none⟩ = false := FormF.can hTW vT
          exact op_st rfl (.pointer (some ⟨tc, g, none⟩)) (.slice (some ⟨h, 0, none⟩) n n) (Eq.trans (b := u 14) (by kernel_rfl) h14) (Eq.trans (b := u 11) (by kernel_rfl) h11) (by go_simp) (hK undef T _ ⟨(fun h => by cases h), (fun h => by cases h), (fun h => by omega), (fun h => by cases h), (fun _ => NF)⟩ ⟨hMW.set (p := ⟨tc, g, none⟩) (.inl rfl) _, .inr NF⟩ ⟨(Mod.rf (S := fun b => b = tc) _).set (p := ⟨tc, g, none⟩) (.inl rfl) _, fun _ _ => rfl, fun _ => NF⟩)
      · intro u T9 W hRW hV
        obtain ⟨hMW, -⟩ := hRW
        have h8 := (hV (8, some 27) (by simp)).2.1 rfl
        obtain ⟨qb, h13, a13, z13, e13⟩ := (hV (13, some 32) (by simp)).2.2.1 (.inr rfl)
        obtain ⟨qa, bF, a11, z11, e11⟩ := (hV (15, none) (by simp)).2.2.2.2 rfl
        have nab : qa ≠ qb := by rintro rfl; omega
        simp only [putAll, h8, h13]
        generalize u 3 = y3 at *
        generalize u 11 = y11 at *
        generalize u 14 = y14 at *
        clear hV h8 h13 e11 e13
        have PT := hT.out.putF bT0 sT hcsT hlt hMW bF a11 (by omega : w0.heap.size ≤ qa)
        have hB2 := hB.out.mod hMW (fun e => hcb e.symm) (fun x h1 h2 => (hB.out.row x h1 h2).1.ne bT0 (by decide))
        have bB := bB0.mod hMW (fun e => hcb e.symm)
        obtain ⟨⟨vb, kb⟩, fb, _⟩ := hB2.any hlt
        have PB := hB2.put hlt a13 (by omega : w0.heap.size ≤ qb)
        have PT2 := PT.mod (S := fun b => b = tb) (w' := W.setCell ⟨tb, g, none⟩ (.slice (some ⟨qb, 0, none⟩) n n)) ((Mod.rf (S := fun b => b = tb) _).set (p := ⟨tb, g, none⟩) (.inl rfl) _) hcb (fun x h1 h2 => by
          by_cases e : x = g
          · rw [if_pos e]; exact a11.ne bB (by decide)
          · rw [if_neg e]; exact ((hT.out.row x h1 (by omega)).1.ne bB0 (by decide)))
        have MQ : Mod (fun b => b = tc ∨ b = tb) wo (W.setCell ⟨tb, g, none⟩ (.slice (some ⟨qb, 0, none⟩) n n)) := (hMW.mono (fun _ _ h => .inl h)).set (p := ⟨tb, g, none⟩) (.inl (.inr rfl)) _
        have BI : Blk (W.setCell ⟨tb, g, none⟩ (.slice (some ⟨qb, 0, none⟩) n n)) gi 25 #[.int .i64 kind, .int .i64 (n + 1), .int .i64 cap, .slice A xw.length a, .slice B xv.length b, .slice D (n + 1) d] := by
          have b9 := Bi.out.mod hMW (Blk.ne Bi.out bT0 (by decide))
          exact b9.far (p := ⟨tb, g, none⟩) (Blk.ne b9 bB (by decide)) _
        have BP : Blk (W.setCell ⟨tb, g, none⟩ (.slice (some ⟨qb, 0, none⟩) n n)) gp 110 #[.slice (some ⟨tc, 0, none⟩) N N, .slice (some ⟨tb, 0, none⟩) N N] := by
          have b9 := Pp.out.mod hMW (Blk.ne Pp.out bT0 (by decide))
          exact b9.far (p := ⟨tb, g, none⟩) (Blk.ne b9 bB (by decide)) _
        replace PT2 := Lib.hid PT2
        replace PB := Lib.hid PB
        replace MQ := Lib.hid MQ
        replace BI := Lib.hid BI
        replace BP := Lib.hid BP
        clear PT bB hB2 a11 a13 bF bT0 bB0 hcsT sT vT Pp Bi hMW
        try simp only [Act.put, List.setIfInBounds_toArray, List.set_cons_zero, List.set_cons_succ]
        refine wpAny_next 16 (by decide +kernel) (op_ix (T := 23) rfl (.slice (some ⟨tb, 0, none⟩) N N) (.int .i64 g) (by kernel_rfl) (by kernel_rfl) (.pointer (some ⟨tb, g, none⟩)) (by go_simp) ?_)
        try simp only [Act.put, List.setIfInBounds_toArray, List.set_cons_zero, List.set_cons_succ]
        refine wpAny_next 17 (by decide +kernel) (op_st rfl (.pointer (some ⟨tb, g, none⟩)) (.slice (some ⟨qb, 0, none⟩) n n) (by kernel_rfl) (by kernel_rfl) (by go_simp; rfl) ?_)
        refine wpAny_done (by kernel_rfl) ?_ _
        generalize W.setCell ⟨tb, g, none⟩ (.slice (some ⟨qb, 0, none⟩) n n) = W2 at *
        clear kb fb
        go_simp
        go_wp2_with (fail)
        have RA : Arr W2 qa n (fun _ => 0) := by
          have h1 := (PT2.out.row g hg1 (by omega)).1
          simpa using h1
        have RB : Arr W2 qb n (fun _ => 0) := by
          have h1 := (PB.out.row g hg1 (by omega)).1
          simpa using h1
        have R0 : Hid (RowS co n T g qa qb 0 W2 W2) := ⟨Mod.rf _, RA.congr fun i _ => by simp, RB.congr fun i _ => by simp⟩
        have LOW : Hid (∀ wr, Mod (fun b => b = qa ∨ b = qb) W2 wr → WayM wr w0.heap.size tc N n g r T ∧ wr.cell? ⟨tc, g, none⟩ = some (.slice (some ⟨qa, 0, none⟩) n n) ∧ wr.cell? ⟨tb, g, none⟩ = some (.slice (some ⟨qb, 0, none⟩) n n) ∧ Blk wr gi 25 #[.int .i64 kind, .int .i64 (n + 1), .int .i64 cap, .slice A xw.length a, .slice B xv.length b, .slice D (n + 1) d] ∧ Blk wr gp 110 #[.slice (some ⟨tc, 0, none⟩) N N, .slice (some ⟨tb, 0, none⟩) N N]) := fun wr m => by
          obtain ⟨cs, hb, hs, hcs⟩ := PT2.out.tab
          obtain ⟨cs2, hb2, hs2, hcs2⟩ := PB.out.tab
          have m1 := hb.mod m (by rintro (e | e); exact RA.ne hb (by decide) e.symm; exact RB.ne hb (by decide) e.symm)
          have m2 := hb2.mod m (by rintro (e | e); exact RA.ne hb2 (by decide) e.symm; exact RB.ne hb2 (by decide) e.symm)
          refine ⟨⟨⟨cs, m1, hs, fun x h1 h2 => ?_⟩, fun x h1 h2 => ?_⟩, ?_, ?_, BI.out.mod m (by rintro (e | e); exact RA.ne BI.out (by decide) e.symm; exact RB.ne BI.out (by decide) e.symm), BP.out.mod m (by rintro (e | e); exact RA.ne BP.out (by decide) e.symm; exact RB.ne BP.out (by decide) e.symm)⟩
          · have h3 := hcs x h1 (by omega)
            rw [if_neg (by omega)] at h3
            exact h3
          · have h3 := PT2.out.row x h1 (by omega)
            have h4 : ¬ x = g := by omega
            simp only [if_neg h4] at h3
            have h5 := (hT.out.row x h1 h2).1.lt
            exact ⟨h3.1.mod m (by rintro (e | e) <;> omega), h3.2⟩
          · rw [m1.cell, hcs g hg1 (by omega), if_pos rfl]
          · rw [m2.cell, hcs2 g hg1 (by omega), if_pos rfl]
        clear RA RB
        go_loopw [36] (fun v36 wr => ∃ l : Nat, v36 = .int .i64 l ∧ l ≤ n ∧ Hid (RowS co n T g qa qb l W2 wr)) (fun v36 _ => n - (intOf v36).toNat)
        case atStart => exact ⟨0, rfl, by omega, R0⟩
        case round =>
          clear R0
          obtain ⟨wp, rfl⟩ : ∃ wp : World, wp = wr := ⟨_, rfl⟩
          obtain ⟨l, rfl, hl2, RS⟩ := hrel
          by_cases hll : l < n
          · obtain ⟨l1, l2, l3, l4, l5⟩ := LOW.out wp RS.out.mod
            have c0 : wp.cell? ⟨gp, 0, none⟩ = some (.slice (some ⟨tc, 0, none⟩) N N) := l5.cell 0
            have ka := RS.out.a.cell hll
            have fa := RS.out.a.free l
            have q2 : (l : Int) < (n : Int) := by omega
            have BT := bit_zero_i64 g l (by omega)
            have RF : Hid (Mod (fun b => b = qa ∨ b = qb) W2 (wp.setCell ⟨qa, l, none⟩ (.int .i64 farT)) ∧ Arr (wp.setCell ⟨qa, l, none⟩ (.int .i64 farT)) qa n (fun i => if i = l then farT else if i < l then (wayN co n T g i).1 else 0) ∧ Arr (wp.setCell ⟨qa, l, none⟩ (.int .i64 farT)) qb n (fun j => ((if j < l then (wayN co n T g j).2 else 0 : Nat) : Int))) := ⟨RS.out.mod.set (p := ⟨qa, l, none⟩) (.inl (.inl rfl)) _, RS.out.a.set l farT, RS.out.b.far (a := ⟨qa, l, none⟩) (fun e => nab e.symm) _⟩
            replace l1 := Lib.hid l1
            replace l4 := Lib.hid l4
            replace l5 := Lib.hid l5
            unfold farT at RF
            by_cases hbit : g.testBit l = true
            · rw [hbit] at BT
              simp only [Bool.not_true] at BT
              have CL : bits .andNot .i64 (g : Int) ((2 : Int) ^ l) = ((clrM g l : Nat) : Int) := by
                have h9 := clr_i64 g l (by omega) (by omega)
                rw [Int.natCast_pow] at h9
                exact h9
              have SHL := shl_wrap_i64 l (by omega)
              obtain ⟨rs, hrs⟩ : ∃ rs, Hid (clrM g l = rs) := ⟨_, rfl⟩
              rw [hrs.out] at CL
              by_cases hz : rs = 0
              · subst hz
                have CL0 : bits .andNot .i64 (g : Int) ((2 : Int) ^ l) = 0 := CL
                have XF : Ext w0 (wp.setCell ⟨qa, l, none⟩ (.int .i64 1152921504606846976)) := ((X.out.mod FS.out.mod (fun k hk e => by rcases e with e | e <;> omega)).mod MQ.out (fun k hk e => by rcases e with e | e <;> omega)).mod RF.out.1 (fun k hk e => by rcases e with e | e <;> omega)
                obtain ⟨cb, cof, rb, ro, d', rfl, x1, x2⟩ := cost_at rok.out (hC.out.1.ext XF fun _ _ h => h.ext XF) (r := 0) (c := l + 1) (by have := hl.out; omega) (by have := hl.out; omega)
                rw [hl.out, Nat.add_zero] at x1
                obtain ⟨p1, hp1⟩ : ∃ p1, Hid (l + 1 = p1) := ⟨_, rfl⟩
                rw [hp1.out] at x2
                have q5 : (p1 : Int) < (n : Int) + 1 := by have := hp1.out; omega
                have LF := LOW.out _ RF.out.1
                have y0 := LF.2.2.2.2.cell 0
                have y1 := LF.2.1
                have y5 := LF.2.2.2.1.cell 5
                have ya := RF.out.2.1.cell hll
                have yf := RF.out.2.1.free l
                clear CL
                go_upto_region 13 with (fail)
                generalize wp.setCell ⟨qa, l, none⟩ (.int .i64 1152921504606846976) = wf at *
                clear ka fa
                obtain ⟨cst, hcst⟩ : ∃ cst, Hid (costAt co 0 p1 = cst) := ⟨_, rfl⟩
                rw [hcst.out] at x2
                have wl : IntKind.i64.wrap ((l : Int) + 1) = (p1 : Int) := by rw [show (l : Int) + 1 = (p1 : Int) by have := hp1.out; omega]; exact IntWalk.i64_in _ (by omega)
                refine wp_region_any (by kernel_rfl) ?_
                change wpAny _ _ _ _ _ _ _ (World.drew _)
                refine wpAny_T (i := 0) (op := Op.move (Operand.tmp 0)) (t := 108) (d := some 59) (v := ?_) rfl (by decide +kernel) (by decide +kernel) (by decide +kernel) (fun _ _ _ h => h) ?_ ?_
                case refine_2 => (intro _; unfold exec2; go_simp; try with_reducible rfl)
                try simp only [Act.put, List.setIfInBounds_toArray, List.set_cons_zero, List.set_cons_succ]
                refine wpAny_T (i := 1) (op := Op.nilCheck (Operand.tmp 59)) (t := 0) (d := some 60) (v := ?_) rfl (by decide +kernel) (by decide +kernel) (by decide +kernel) (fun _ _ _ h => h) ?_ ?_
                case refine_2 => (intro _; unfold exec2; go_simp; try with_reducible rfl)
                try simp only [Act.put, List.setIfInBounds_toArray, List.set_cons_zero, List.set_cons_succ]
                refine wpAny_T (i := 2) (op := Op.fieldAddr 110 (Operand.tmp 60) 0) (t := 0) (d := some 61) (v := ?_) rfl (by decide +kernel) (by decide +kernel) (by decide +kernel) (fun _ _ _ h => h) ?_ ?_
                case refine_2 => (intro _; unfold exec2; go_simp; try with_reducible rfl)
                try simp only [Act.put, List.setIfInBounds_toArray, List.set_cons_zero, List.set_cons_succ]
                refine wpAny_T (i := 4) (op := Op.move (Operand.tmp 5)) (t := 3) (d := some 63) (v := ?_) rfl (by decide +kernel) (by decide +kernel) (by decide +kernel) (fun _ _ _ h => h) ?_ ?_
                case refine_2 => (intro _; unfold exec2; go_simp; try with_reducible rfl)
                try simp only [Act.put, List.setIfInBounds_toArray, List.set_cons_zero, List.set_cons_succ]
                refine wpAny_T (i := 7) (op := Op.move (Operand.tmp 6)) (t := 3) (d := some 66) (v := ?_) rfl (by decide +kernel) (by decide +kernel) (by decide +kernel) (fun _ _ _ h => h) ?_ ?_
                case refine_2 => (intro _; unfold exec2; go_simp; try with_reducible rfl)
                try simp only [Act.put, List.setIfInBounds_toArray, List.set_cons_zero, List.set_cons_succ]
                refine wpAny_T (i := 8) (op := Op.fieldAddr 25 (Operand.tmp 3) 5) (t := 0) (d := some 67) (v := ?_) rfl (by decide +kernel) (by decide +kernel) (by decide +kernel) (fun _ _ _ h => h) ?_ ?_
                case refine_2 => (intro _; unfold exec2; go_simp; try with_reducible rfl)
                try simp only [Act.put, List.setIfInBounds_toArray, List.set_cons_zero, List.set_cons_succ]
                refine wpAny_T (i := 12) (op := Op.move (Operand.tmp 6)) (t := 3) (d := some 71) (v := ?_) rfl (by decide +kernel) (by decide +kernel) (by decide +kernel) (fun _ _ _ h => h) ?_ ?_
                case refine_2 => (intro _; unfold exec2; go_simp; try with_reducible rfl)
                try simp only [Act.put, List.setIfInBounds_toArray, List.set_cons_zero, List.set_cons_succ]
                refine wpAny_T (i := 13) (op := Op.binOp BinOp.add 3 (Operand.tmp 71) (Operand.const (Value.int IntKind.i64 1)) 3) (t := 3) (d := some 72) (v := ?_) rfl (by decide +kernel) (by decide +kernel) (by decide +kernel) (fun _ _ _ h => h) ?_ ?_
                case refine_2 => (intro _; unfold exec2; go_simp; try with_reducible rfl)
                try simp only [Act.put, List.setIfInBounds_toArray, List.set_cons_zero, List.set_cons_succ]
                refine wpAny_reads2 (n := 2) [(3, some 62), (5, some 64), (6, some 65), (9, some 68), (10, some 69), (11, some 70), (14, some 73), (15, some 74)] (fun | 3 => .slice (some ⟨tc, 0, none⟩) N N | 5 => .pointer (some ⟨tc, g, none⟩) | 6 => .slice (some ⟨qa, 0, none⟩) n n | 9 => .slice (some ⟨cb, cof, none⟩) (n + 1) d | 10 => .pointer (some ⟨cb, cof, none⟩) | 11 => .slice (some ⟨rb, ro, none⟩) (n + 1) d' | 14 => .pointer (some ⟨rb, ro + p1, none⟩) | 15 => .int .i64 cst | _ => undef) #[true, true, true, true, true, true, true, true, true, true, true, true, true, true, true, true, false, false] (by decide +kernel) ?_ ?_
                · intro pS hpm uS hD K hK
                  simp only [List.mem_cons, List.not_mem_nil, or_false] at hpm
                  rcases hpm with rfl | rfl | rfl | rfl | rfl | rfl | rfl | rfl
                  · exact op_ld (T := 23) (x := Operand.tmp 61) (t := 23) (d := some 62) rfl (.pointer (some ⟨gp, 0, none⟩)) (by kernel_rfl) (.slice (some ⟨tc, 0, none⟩) N N) (by go_simp) hK
                  · exact op_ix (T := 23) (x := Operand.tmp 62) (y := Operand.tmp 63) (t := 0) (d := some 64) rfl (.slice (some ⟨tc, 0, none⟩) N N) (.int .i64 g) (Eq.trans (b := uS 3) (by kernel_rfl) (hD 3 (depIn (by kernel_rfl)))) (by kernel_rfl) (.pointer (some ⟨tc, g, none⟩)) (by go_simp) hK
                  · exact op_ld (T := 22) (x := Operand.tmp 64) (t := 22) (d := some 65) rfl (.pointer (some ⟨tc, g, none⟩)) (Eq.trans (b := uS 5) (by kernel_rfl) (hD 5 (depIn (by kernel_rfl)))) (.slice (some ⟨qa, 0, none⟩) n n) (by go_simp) hK
                  · exact op_ld (T := 23) (x := Operand.tmp 67) (t := 23) (d := some 68) rfl (.pointer (some ⟨gi, 5, none⟩)) (by kernel_rfl) (.slice (some ⟨cb, cof, none⟩) (n + 1) d) (by go_simp) hK
                  · exact op_ix (T := 23) (x := Operand.tmp 68) (y := Operand.const (Value.int IntKind.i64 0)) (t := 0) (d := some 69) rfl (.slice (some ⟨cb, cof, none⟩) (n + 1) d) (.int .i64 0) (Eq.trans (b := uS 9) (by kernel_rfl) (hD 9 (depIn (by kernel_rfl)))) (by kernel_rfl) (.pointer (some ⟨cb, cof, none⟩)) (by go_simp) hK
                  · exact op_ld (T := 22) (x := Operand.tmp 69) (t := 22) (d := some 70) rfl (.pointer (some ⟨cb, cof, none⟩)) (Eq.trans (b := uS 10) (by kernel_rfl) (hD 10 (depIn (by kernel_rfl)))) (.slice (some ⟨rb, ro, none⟩) (n + 1) d') (by go_simp) hK
                  · exact op_ix (T := 22) (x := Operand.tmp 70) (y := Operand.tmp 72) (t := 0) (d := some 73) rfl (.slice (some ⟨rb, ro, none⟩) (n + 1) d') (.int .i64 p1) (Eq.trans (b := uS 11) (by kernel_rfl) (hD 11 (depIn (by kernel_rfl)))) (by kernel_rfl) (.pointer (some ⟨rb, ro + p1, none⟩)) (by go_simp) hK
                  · exact op_ld (T := 3) (x := Operand.tmp 73) (t := 3) (d := some 74) rfl (.pointer (some ⟨rb, ro + p1, none⟩)) (Eq.trans (b := uS 14) (by kernel_rfl) (hD 14 (depIn (by kernel_rfl)))) (.int .i64 cst) (by go_simp) hK
                simp only [putAll, Act.put, List.setIfInBounds_toArray, List.set_cons_zero, List.set_cons_succ]
                refine wpAny_next 16 (by decide +kernel) (op_ix (T := 22) rfl (.slice (some ⟨qa, 0, none⟩) n n) (.int .i64 l) (by kernel_rfl) (by kernel_rfl) (.pointer (some ⟨qa, l, none⟩)) (by go_simp) ?_)
                try simp only [Act.put, List.setIfInBounds_toArray, List.set_cons_zero, List.set_cons_succ]
                refine wpAny_next 17 (by decide +kernel) (op_st rfl (.pointer (some ⟨qa, l, none⟩)) (.int .i64 cst) (by kernel_rfl) (by kernel_rfl) (by go_simp; rfl) ?_)
                refine wpAny_done (by kernel_rfl) ?_ _
                have wN : wayN co n T g l = (cst, 0) := by
                  unfold wayN
                  rw [if_pos hbit, if_pos hrs.out, ← hcst.out, ← hp1.out]
                have RN : Hid (RowS co n T g qa qb (l + 1) W2 (wf.drew.setCell ⟨qa, l, none⟩ (.int .i64 cst))) := by
                  refine ⟨(RF.out.1.drew).set (p := ⟨qa, l, none⟩) (.inl (.inl rfl)) _, ((RF.out.2.1.ext ((Ext.rf _).drew)).set l cst).congr fun j _ => ?_, ((RF.out.2.2.ext ((Ext.rf _).drew)).far (a := ⟨qa, l, none⟩) (fun e => nab e.symm) _).congr fun j _ => ?_⟩
                  · by_cases e : j = l
                    · subst e
                      rw [if_pos rfl, if_pos (by omega), wN]
                    · simp only [if_neg e]
                      by_cases e2 : j < l
                      · simp only [if_pos e2, if_pos (show j < l + 1 by omega)]
                      · simp only [if_neg e2, if_neg (show ¬ j < l + 1 by omega)]
                  · by_cases e : j = l
                    · subst e
                      rw [if_neg (by omega), if_pos (by omega), wN]
                    · by_cases e2 : j < l
                      · simp only [if_pos e2, if_pos (show j < l + 1 by omega)]
                      · simp only [if_neg e2, if_neg (show ¬ j < l + 1 by omega)]
                have hl9 : Hid (l + 1 ≤ n) := by
                  have h9 : l + 1 ≤ n := hll
                  exact h9
                clear RF wN y0 y1 y5 ya yf x1 x2 wl q5
                go_simp
                go_wp2_with (fail)
                go_roundw
                case rel => exact ⟨l + 1, by go_num, hl9.out, RN⟩
                case measure => (have h9 := hl9.out; simp [intOf]; omega)
              · have e0 : ((rs : Nat) : Int) ≠ 0 := by omega
                have e0' : (((rs : Nat) : Int) == 0) = false := by simpa using e0
                have rsl : rs < g := by rw [← hrs.out]; exact clr_less (n := n) (by omega) (by have := hN.out; omega) hbit
                have rs1 : 1 ≤ rs := by omega
                have XK : Hid (∀ wr, Mod (fun b => b = qa ∨ b = qb) W2 wr → Ext w0 wr) := fun wr m => ((X.out.mod FS.out.mod (fun k hk e => by rcases e with e | e <;> omega)).mod MQ.out (fun k hk e => by rcases e with e | e <;> omega)).mod m (fun k hk e => by rcases e with e | e <;> omega)
                have BD : Hid (∀ k, k < n → rs.testBit k = true → 0 ≤ T rs k ∧ T rs k ≤ rs * 2147483647) := fun k h1 h2 => WayOk.bd (n := n) (by omega) (by have := hN.out; omega) hW.out (fun a b ha hb => num.out a b (by have := hl.out; omega) (by have := hl.out; omega)) rs k rsl h1 h2
                obtain ⟨rr, hrr⟩ : ∃ rr, Hid (r rs = rr) := ⟨_, rfl⟩
                have ROW : Hid (∀ wr, Mod (fun b => b = qa ∨ b = qb) W2 wr → wr.cell? ⟨tc, rs, none⟩ = some (.slice (some ⟨rr, 0, none⟩) n n) ∧ ∀ k, k < n → wr.cell? ⟨rr, k, none⟩ = some (.int .i64 (T rs k))) := fun wr m => by
                  rw [← hrr.out]
                  exact ⟨(LOW.out wr m).1.cell rs1 rsl, fun k hk => ((LOW.out wr m).1.num rs1 rsl hk).1⟩
                have RA0 : Hid (RowAh co n T g rs qa qb l 0 W2 (wp.setCell ⟨qa, l, none⟩ (.int .i64 1152921504606846976))) := ⟨RF.out.1, RF.out.2.1, RF.out.2.2.congr fun j _ => by
                  by_cases e : j = l
                  · subst e
                    rw [if_neg (by omega), if_pos rfl]
                    rfl
                  · rw [if_neg e]⟩
                have RR : Hid (∀ wr, RowAh co n T g rs qa qb l n W2 wr → RowS co n T g qa qb (l + 1) W2 wr) := fun wr h => h.rows hbit hrs.out hz
                have p11 : (rs : Int) ≤ 2048 := by omega
                clear RF RS hbit
                go_wp2_with (fail)
                go_loopw [77] (fun v77 wr => ∃ k : Nat, v77 = .int .i64 k ∧ k ≤ n ∧ Hid (RowAh co n T g rs qa qb l k W2 wr)) (fun v77 _ => n - (intOf v77).toNat)
                case atStart => exact ⟨0, rfl, by omega, RA0⟩
                case round =>
                  clear RA0 ka fa CL SHL BT
                  obtain ⟨wk, rfl⟩ : ∃ wk : World, wk = wr := ⟨_, rfl⟩
                  obtain ⟨k, rfl, hk2, RK⟩ := hrel
                  by_cases hkk : k < n
                  · have q3 : (k : Int) < (n : Int) := by omega
                    have BT := bit_zero_i64 rs k (by omega)
                    by_cases hbk : rs.testBit k = true
                    · rw [hbk] at BT
                      simp only [Bool.not_true] at BT
                      have bd := BD.out k hkk hbk
                      obtain ⟨m1, m2, m3, m4, m5⟩ := LOW.out wk RK.out.mod
                      have y0 : wk.cell? ⟨gp, 0, none⟩ = some (.slice (some ⟨tc, 0, none⟩) N N) := m5.cell 0
                      have y1 : wk.cell? ⟨gp, 1, none⟩ = some (.slice (some ⟨tb, 0, none⟩) N N) := m5.cell 1
                      have y5 := m4.cell 5
                      have yr := (ROW.out wk RK.out.mod).1
                      have yk := (ROW.out wk RK.out.mod).2 k hkk
                      have XF := XK.out wk RK.out.mod
                      obtain ⟨cb, cof, rb, ro, d', rfl, x1, x2⟩ := cost_at rok.out (hC.out.1.ext XF fun _ _ h => h.ext XF) (r := k + 1) (c := l + 1) (by have := hl.out; omega) (by have := hl.out; omega)
                      have cn := num.out (k + 1) (l + 1) (by have := hl.out; omega) (by have := hl.out; omega)
                      rw [hl.out] at x1
                      have lst : leastW (fun a => T rs a + costAt co (a + 1) (l + 1)) rs (k + 1) = if T rs k + costAt co (k + 1) (l + 1) < (leastW (fun a => T rs a + costAt co (a + 1) (l + 1)) rs k).1 then (T rs k + costAt co (k + 1) (l + 1), k) else leastW (fun a => T rs a + costAt co (a + 1) (l + 1)) rs k := by
                        rw [leastW, if_pos hbk]
                      have ya := RK.out.a.cell hll
                      have yb := RK.out.b.cell hll
                      have fa := RK.out.a.free l
                      have fb := RK.out.b.free l
                      simp only [if_true] at ya yb
                      have RSM : Hid (¬ (T rs k + costAt co (k + 1) (l + 1) < (leastW (fun a => T rs a + costAt co (a + 1) (l + 1)) rs k).1) → RowAh co n T g rs qa qb l (k + 1) W2 wk.drew) := fun h => ⟨(RK.out.same (by rw [lst, if_neg h])).mod.drew, (RK.out.same (by rw [lst, if_neg h])).a.ext (Ext.rf _).drew, (RK.out.same (by rw [lst, if_neg h])).b.ext (Ext.rf _).drew⟩
                      have RTK : Hid (T rs k + costAt co (k + 1) (l + 1) < (leastW (fun a => T rs a + costAt co (a + 1) (l + 1)) rs k).1 → ∀ W, Ext wk W → RowAh co n T g rs qa qb l (k + 1) W2 ((W.setCell ⟨qa, l, none⟩ (.int .i64 (T rs k + costAt co (k + 1) (l + 1)))).setCell ⟨qb, l, none⟩ (.int .i64 k))) := fun h W x => by
                        have h1 : RowAh co n T g rs qa qb l k W2 W := ⟨RK.out.mod.ext x, RK.out.a.ext x, RK.out.b.ext x⟩
                        exact h1.take nab (by rw [lst, if_pos h])
                      clear lst
                      generalize (leastW (fun a => T rs a + costAt co (a + 1) (l + 1)) rs k).1 = cu at *
                      obtain ⟨bk, eb⟩ : ∃ bk, Hid ((leastW (fun a => T rs a + costAt co (a + 1) (l + 1)) rs k).2 = bk) := ⟨_, rfl⟩
                      rw [eb.out] at yb
                      obtain ⟨p1, hp1⟩ : ∃ p1, Hid (l + 1 = p1) := ⟨_, rfl⟩
                      obtain ⟨k1, hk1⟩ : ∃ k1, Hid (k + 1 = k1) := ⟨_, rfl⟩
                      obtain ⟨cst, hcst⟩ : ∃ cst, Hid (costAt co (k + 1) (l + 1) = cst) := ⟨_, rfl⟩
                      obtain ⟨tt, htt⟩ : ∃ tt, Hid (T rs k = tt) := ⟨_, rfl⟩
                      rw [hcst.out, htt.out] at RSM RTK
                      rw [htt.out] at yk bd
                      rw [hcst.out] at x2 cn
                      rw [hp1.out] at x2
                      rw [hk1.out] at x1
                      have q5 : (p1 : Int) < (n : Int) + 1 := by have := hp1.out; omega
                      have q6 : (k1 : Int) < (n : Int) + 1 := by have := hk1.out; omega
                      have q7 : (rs : Int) < (N : Int) := by omega
                      have q8 : (g : Int) < (N : Int) := by omega
                      have wl : IntKind.i64.wrap ((l : Int) + 1) = (p1 : Int) := by rw [show (l : Int) + 1 = (p1 : Int) by have := hp1.out; omega]; exact IntWalk.i64_in _ (by omega)
                      have wk1 : IntKind.i64.wrap ((k : Int) + 1) = (k1 : Int) := by rw [show (k : Int) + 1 = (k1 : Int) by have := hk1.out; omega]; exact IntWalk.i64_in _ (by omega)
                      have ws : IntKind.i64.wrap (tt + cst) = tt + cst := IntWalk.i64_in _ (by omega)
                      have YB : Hid (∀ W, Ext wk W → (W.setCell ⟨qa, l, none⟩ (.int .i64 (tt + cst))).cell? ⟨qb, l, none⟩ = some (.int .i64 bk) ∧ (W.setCell ⟨qa, l, none⟩ (.int .i64 (tt + cst))).frozen? ⟨qb, l, none⟩ = false) := fun W x => by
                        have h1 := (RK.out.b.ext x).far (a := ⟨qa, l, none⟩) (fun e => nab e.symm) (.int .i64 (tt + cst))
                        have h2 := h1.cell hll
                        rw [if_pos rfl, eb.out] at h2
                        exact ⟨h2, h1.free l⟩
                      clear cn bd m1 m4 m5
                      go_wp2_with (fail)
                      refine wp_region_any (by kernel_rfl) ?_
                      change wpAny _ _ _ _ _ _ _ (World.drew _)
                      refine wpAny_T (i := 0) (op := Op.move (Operand.tmp 0)) (t := 108) (d := some 85) (v := ?_) rfl (by decide +kernel) (by decide +kernel) (by decide +kernel) (fun _ _ _ h => h) ?_ ?_
                      case refine_2 => (intro _; unfold exec2; go_simp; try with_reducible rfl)
                      try simp only [Act.put, List.setIfInBounds_toArray, List.set_cons_zero, List.set_cons_succ]
                      refine wpAny_T (i := 1) (op := Op.nilCheck (Operand.tmp 85)) (t := 0) (d := some 86) (v := ?_) rfl (by decide +kernel) (by decide +kernel) (by decide +kernel) (fun _ _ _ h => h) ?_ ?_
                      case refine_2 => (intro _; unfold exec2; go_simp; try with_reducible rfl)
                      try simp only [Act.put, List.setIfInBounds_toArray, List.set_cons_zero, List.set_cons_succ]
                      refine wpAny_T (i := 2) (op := Op.fieldAddr 110 (Operand.tmp 86) 0) (t := 0) (d := some 87) (v := ?_) rfl (by decide +kernel) (by decide +kernel) (by decide +kernel) (fun _ _ _ h => h) ?_ ?_
                      case refine_2 => (intro _; unfold exec2; go_simp; try with_reducible rfl)
                      try simp only [Act.put, List.setIfInBounds_toArray, List.set_cons_zero, List.set_cons_succ]
                      refine wpAny_T (i := 4) (op := Op.move (Operand.tmp 7)) (t := 3) (d := some 89) (v := ?_) rfl (by decide +kernel) (by decide +kernel) (by decide +kernel) (fun _ _ _ h => h) ?_ ?_
                      case refine_2 => (intro _; unfold exec2; go_simp; try with_reducible rfl)
                      try simp only [Act.put, List.setIfInBounds_toArray, List.set_cons_zero, List.set_cons_succ]
                      refine wpAny_T (i := 7) (op := Op.move (Operand.tmp 8)) (t := 3) (d := some 92) (v := ?_) rfl (by decide +kernel) (by decide +kernel) (by decide +kernel) (fun _ _ _ h => h) ?_ ?_
                      case refine_2 => (intro _; unfold exec2; go_simp; try with_reducible rfl)
                      try simp only [Act.put, List.setIfInBounds_toArray, List.set_cons_zero, List.set_cons_succ]
                      refine wpAny_T (i := 10) (op := Op.fieldAddr 25 (Operand.tmp 3) 5) (t := 0) (d := some 95) (v := ?_) rfl (by decide +kernel) (by decide +kernel) (by decide +kernel) (fun _ _ _ h => h) ?_ ?_
                      case refine_2 => (intro _; unfold exec2; go_simp; try with_reducible rfl)
                      try simp only [Act.put, List.setIfInBounds_toArray, List.set_cons_zero, List.set_cons_succ]
                      refine wpAny_T (i := 12) (op := Op.move (Operand.tmp 8)) (t := 3) (d := some 97) (v := ?_) rfl (by decide +kernel) (by decide +kernel) (by decide +kernel) (fun _ _ _ h => h) ?_ ?_
                      case refine_2 => (intro _; unfold exec2; go_simp; try with_reducible rfl)
                      try simp only [Act.put, List.setIfInBounds_toArray, List.set_cons_zero, List.set_cons_succ]
                      refine wpAny_T (i := 13) (op := Op.binOp BinOp.add 3 (Operand.tmp 97) (Operand.const (Value.int IntKind.i64 1)) 3) (t := 3) (d := some 98) (v := ?_) rfl (by decide +kernel) (by decide +kernel) (by decide +kernel) (fun _ _ _ h => h) ?_ ?_
                      case refine_2 => (intro _; unfold exec2; go_simp; try with_reducible rfl)
                      try simp only [Act.put, List.setIfInBounds_toArray, List.set_cons_zero, List.set_cons_succ]
                      refine wpAny_T (i := 16) (op := Op.move (Operand.tmp 6)) (t := 3) (d := some 101) (v := ?_) rfl (by decide +kernel) (by decide +kernel) (by decide +kernel) (fun _ _ _ h => h) ?_ ?_
                      case refine_2 => (intro _; unfold exec2; go_simp; try with_reducible rfl)
                      try simp only [Act.put, List.setIfInBounds_toArray, List.set_cons_zero, List.set_cons_succ]
                      refine wpAny_T (i := 17) (op := Op.binOp BinOp.add 3 (Operand.tmp 101) (Operand.const (Value.int IntKind.i64 1)) 3) (t := 3) (d := some 102) (v := ?_) rfl (by decide +kernel) (by decide +kernel) (by decide +kernel) (fun _ _ _ h => h) ?_ ?_
                      case refine_2 => (intro _; unfold exec2; go_simp; try with_reducible rfl)
                      try simp only [Act.put, List.setIfInBounds_toArray, List.set_cons_zero, List.set_cons_succ]
                      refine wpAny_reads2 (n := 2) [(3, some 88), (5, some 90), (6, some 91), (8, some 93), (9, some 94), (11, some 96), (14, some 99), (15, some 100), (18, some 103), (19, some 104)] (fun | 3 => .slice (some ⟨tc, 0, none⟩) N N | 5 => .pointer (some ⟨tc, rs, none⟩) | 6 => .slice (some ⟨rr, 0, none⟩) n n | 8 => .pointer (some ⟨rr, k, none⟩) | 9 => .int .i64 tt | 11 => .slice (some ⟨cb, cof, none⟩) (n + 1) d | 14 => .pointer (some ⟨cb, cof + k1, none⟩) | 15 => .slice (some ⟨rb, ro, none⟩) (n + 1) d' | 18 => .pointer (some ⟨rb, ro + p1, none⟩) | 19 => .int .i64 cst | _ => undef) #[true, true, true, true, true, true, true, true, true, true, true, true, true, true, true, true, true, true, true, true, false, false] (by decide +kernel) ?_ ?_
                      · intro pS hpm uS hD K hK
                        simp only [List.mem_cons, List.not_mem_nil, or_false] at hpm
                        rcases hpm with rfl | rfl | rfl | rfl | rfl | rfl | rfl | rfl | rfl | rfl
                        · exact op_ld (T := 23) (x := Operand.tmp 87) (t := 23) (d := some 88) rfl (.pointer (some ⟨gp, 0, none⟩)) (by kernel_rfl) (.slice (some ⟨tc, 0, none⟩) N N) (by go_simp) hK
                        · exact op_ix (T := 23) (x := Operand.tmp 88) (y := Operand.tmp 89) (t := 0) (d := some 90) rfl (.slice (some ⟨tc, 0, none⟩) N N) (.int .i64 rs) (Eq.trans (b := uS 3) (by kernel_rfl) (hD 3 (depIn (by kernel_rfl)))) (by kernel_rfl) (.pointer (some ⟨tc, rs, none⟩)) (by go_simp) hK
                        · exact op_ld (T := 22) (x := Operand.tmp 90) (t := 22) (d := some 91) rfl (.pointer (some ⟨tc, rs, none⟩)) (Eq.trans (b := uS 5) (by kernel_rfl) (hD 5 (depIn (by kernel_rfl)))) (.slice (some ⟨rr, 0, none⟩) n n) (by go_simp) hK
                        · exact op_ix (T := 22) (x := Operand.tmp 91) (y := Operand.tmp 92) (t := 0) (d := some 93) rfl (.slice (some ⟨rr, 0, none⟩) n n) (.int .i64 k) (Eq.trans (b := uS 6) (by kernel_rfl) (hD 6 (depIn (by kernel_rfl)))) (by kernel_rfl) (.pointer (some ⟨rr, k, none⟩)) (by go_simp) hK
                        · exact op_ld (T := 3) (x := Operand.tmp 93) (t := 3) (d := some 94) rfl (.pointer (some ⟨rr, k, none⟩)) (Eq.trans (b := uS 8) (by kernel_rfl) (hD 8 (depIn (by kernel_rfl)))) (.int .i64 tt) (by go_simp) hK
                        · exact op_ld (T := 23) (x := Operand.tmp 95) (t := 23) (d := some 96) rfl (.pointer (some ⟨gi, 5, none⟩)) (by kernel_rfl) (.slice (some ⟨cb, cof, none⟩) (n + 1) d) (by go_simp) hK
                        · exact op_ix (T := 23) (x := Operand.tmp 96) (y := Operand.tmp 98) (t := 0) (d := some 99) rfl (.slice (some ⟨cb, cof, none⟩) (n + 1) d) (.int .i64 k1) (Eq.trans (b := uS 11) (by kernel_rfl) (hD 11 (depIn (by kernel_rfl)))) (by kernel_rfl) (.pointer (some ⟨cb, cof + k1, none⟩)) (by go_simp) hK
                        · exact op_ld (T := 22) (x := Operand.tmp 99) (t := 22) (d := some 100) rfl (.pointer (some ⟨cb, cof + k1, none⟩)) (Eq.trans (b := uS 14) (by kernel_rfl) (hD 14 (depIn (by kernel_rfl)))) (.slice (some ⟨rb, ro, none⟩) (n + 1) d') (by go_simp) hK
                        · exact op_ix (T := 22) (x := Operand.tmp 100) (y := Operand.tmp 102) (t := 0) (d := some 103) rfl (.slice (some ⟨rb, ro, none⟩) (n + 1) d') (.int .i64 p1) (Eq.trans (b := uS 15) (by kernel_rfl) (hD 15 (depIn (by kernel_rfl)))) (by kernel_rfl) (.pointer (some ⟨rb, ro + p1, none⟩)) (by go_simp) hK
                        · exact op_ld (T := 3) (x := Operand.tmp 103) (t := 3) (d := some 104) rfl (.pointer (some ⟨rb, ro + p1, none⟩)) (Eq.trans (b := uS 18) (by kernel_rfl) (hD 18 (depIn (by kernel_rfl)))) (.int .i64 cst) (by go_simp) hK
                      simp only [putAll, Act.put, List.setIfInBounds_toArray, List.set_cons_zero, List.set_cons_succ]
                      refine wpAny_T (i := 20) (op := Op.binOp BinOp.add 3 (Operand.tmp 94) (Operand.tmp 104) 3) (t := 3) (d := some 105) (v := ?_) rfl (by decide +kernel) (by decide +kernel) (by decide +kernel) (fun _ _ _ h => h) ?_ ?_
                      case refine_2 => (intro _; unfold exec2; go_simp; try with_reducible rfl)
                      try simp only [Act.put, List.setIfInBounds_toArray, List.set_cons_zero, List.set_cons_succ]
                      refine wpAny_T (i := 21) (op := Op.assign (Operand.tmp 105)) (t := 3) (d := some 9) (v := ?_) rfl (by decide +kernel) (by decide +kernel) (by decide +kernel) (fun _ _ _ h => h) ?_ ?_
                      case refine_2 => (intro _; unfold exec2; go_simp; try with_reducible rfl)
                      try simp only [Act.put, List.setIfInBounds_toArray, List.set_cons_zero, List.set_cons_succ]
                      refine wpAny_done (by kernel_rfl) ?_ _
                      clear x1 x2 y5 yk yr
                      by_cases hlt9 : tt + cst < cu
                      · have FT := Lib.hid (RTK.out hlt9)
                        clear RSM RTK
                        go_wp2_with (fail)
                        refine wp_region_any (by kernel_rfl) ?_
                        change wpAny _ _ _ _ _ _ _ (World.drew _)
                        refine wpAny_T (i := 0) (op := Op.move (Operand.tmp 0)) (t := 108) (d := some 118) (v := ?_) rfl (by decide +kernel) (by decide +kernel) (by decide +kernel) (fun _ _ _ h => h) ?_ ?_
                        case refine_2 => (intro _; unfold exec2; go_simp; try with_reducible rfl)
                        try simp only [Act.put, List.setIfInBounds_toArray, List.set_cons_zero, List.set_cons_succ]
                        refine wpAny_T (i := 1) (op := Op.nilCheck (Operand.tmp 118)) (t := 0) (d := some 119) (v := ?_) rfl (by decide +kernel) (by decide +kernel) (by decide +kernel) (fun _ _ _ h => h) ?_ ?_
                        case refine_2 => (intro _; unfold exec2; go_simp; try with_reducible rfl)
                        try simp only [Act.put, List.setIfInBounds_toArray, List.set_cons_zero, List.set_cons_succ]
                        refine wpAny_T (i := 2) (op := Op.fieldAddr 110 (Operand.tmp 119) 0) (t := 0) (d := some 120) (v := ?_) rfl (by decide +kernel) (by decide +kernel) (by decide +kernel) (fun _ _ _ h => h) ?_ ?_
                        case refine_2 => (intro _; unfold exec2; go_simp; try with_reducible rfl)
                        try simp only [Act.put, List.setIfInBounds_toArray, List.set_cons_zero, List.set_cons_succ]
                        refine wpAny_T (i := 4) (op := Op.move (Operand.tmp 5)) (t := 3) (d := some 122) (v := ?_) rfl (by decide +kernel) (by decide +kernel) (by decide +kernel) (fun _ _ _ h => h) ?_ ?_
                        case refine_2 => (intro _; unfold exec2; go_simp; try with_reducible rfl)
                        try simp only [Act.put, List.setIfInBounds_toArray, List.set_cons_zero, List.set_cons_succ]
                        refine wpAny_T (i := 7) (op := Op.move (Operand.tmp 6)) (t := 3) (d := some 125) (v := ?_) rfl (by decide +kernel) (by decide +kernel) (by decide +kernel) (fun _ _ _ h => h) ?_ ?_
                        case refine_2 => (intro _; unfold exec2; go_simp; try with_reducible rfl)
                        try simp only [Act.put, List.setIfInBounds_toArray, List.set_cons_zero, List.set_cons_succ]
                        refine wpAny_T (i := 8) (op := Op.move (Operand.tmp 0)) (t := 108) (d := some 126) (v := ?_) rfl (by decide +kernel) (by decide +kernel) (by decide +kernel) (fun _ _ _ h => h) ?_ ?_
                        case refine_2 => (intro _; unfold exec2; go_simp; try with_reducible rfl)
                        try simp only [Act.put, List.setIfInBounds_toArray, List.set_cons_zero, List.set_cons_succ]
                        refine wpAny_T (i := 9) (op := Op.nilCheck (Operand.tmp 126)) (t := 0) (d := some 127) (v := ?_) rfl (by decide +kernel) (by decide +kernel) (by decide +kernel) (fun _ _ _ h => h) ?_ ?_
                        case refine_2 => (intro _; unfold exec2; go_simp; try with_reducible rfl)
                        try simp only [Act.put, List.setIfInBounds_toArray, List.set_cons_zero, List.set_cons_succ]
                        refine wpAny_T (i := 10) (op := Op.fieldAddr 110 (Operand.tmp 127) 1) (t := 0) (d := some 128) (v := ?_) rfl (by decide +kernel) (by decide +kernel) (by decide +kernel) (fun _ _ _ h => h) ?_ ?_
                        case refine_2 => (intro _; unfold exec2; go_simp; try with_reducible rfl)
                        try simp only [Act.put, List.setIfInBounds_toArray, List.set_cons_zero, List.set_cons_succ]
                        refine wpAny_T (i := 12) (op := Op.move (Operand.tmp 5)) (t := 3) (d := some 130) (v := ?_) rfl (by decide +kernel) (by decide +kernel) (by decide +kernel) (fun _ _ _ h => h) ?_ ?_
                        case refine_2 => (intro _; unfold exec2; go_simp; try with_reducible rfl)
                        try simp only [Act.put, List.setIfInBounds_toArray, List.set_cons_zero, List.set_cons_succ]
                        refine wpAny_T (i := 15) (op := Op.move (Operand.tmp 6)) (t := 3) (d := some 133) (v := ?_) rfl (by decide +kernel) (by decide +kernel) (by decide +kernel) (fun _ _ _ h => h) ?_ ?_
                        case refine_2 => (intro _; unfold exec2; go_simp; try with_reducible rfl)
                        try simp only [Act.put, List.setIfInBounds_toArray, List.set_cons_zero, List.set_cons_succ]
                        refine wpAny_T (i := 16) (op := Op.move (Operand.tmp 9)) (t := 3) (d := some 134) (v := ?_) rfl (by decide +kernel) (by decide +kernel) (by decide +kernel) (fun _ _ _ h => h) ?_ ?_
                        case refine_2 => (intro _; unfold exec2; go_simp; try with_reducible rfl)
                        try simp only [Act.put, List.setIfInBounds_toArray, List.set_cons_zero, List.set_cons_succ]
                        refine wpAny_T (i := 17) (op := Op.move (Operand.tmp 8)) (t := 3) (d := some 135) (v := ?_) rfl (by decide +kernel) (by decide +kernel) (by decide +kernel) (fun _ _ _ h => h) ?_ ?_
                        case refine_2 => (intro _; unfold exec2; go_simp; try with_reducible rfl)
                        try simp only [Act.put, List.setIfInBounds_toArray, List.set_cons_zero, List.set_cons_succ]
                        refine wpAny_reads2 (n := 4) [(3, some 121), (5, some 123), (6, some 124), (11, some 129), (13, some 131), (14, some 132)] (fun | 3 => .slice (some ⟨tc, 0, none⟩) N N | 5 => .pointer (some ⟨tc, g, none⟩) | 6 => .slice (some ⟨qa, 0, none⟩) n n | 11 => .slice (some ⟨tb, 0, none⟩) N N | 13 => .pointer (some ⟨tb, g, none⟩) | 14 => .slice (some ⟨qb, 0, none⟩) n n | _ => undef) #[true, true, true, true, true, true, true, true, true, true, true, true, true, true, true, true, true, true, false, false, false, false] (by decide +kernel) ?_ ?_
                        · intro pS hpm uS hD K hK
                          simp only [List.mem_cons, List.not_mem_nil, or_false] at hpm
                          rcases hpm with rfl | rfl | rfl | rfl | rfl | rfl
                          · exact op_ld (T := 23) (x := Operand.tmp 120) (t := 23) (d := some 121) rfl (.pointer (some ⟨gp, 0, none⟩)) (by kernel_rfl) (.slice (some ⟨tc, 0, none⟩) N N) (by go_simp) hK
                          · exact op_ix (T := 23) (x := Operand.tmp 121) (y := Operand.tmp 122) (t := 0) (d := some 123) rfl (.slice (some ⟨tc, 0, none⟩) N N) (.int .i64 g) (Eq.trans (b := uS 3) (by kernel_rfl) (hD 3 (depIn (by kernel_rfl)))) (by kernel_rfl) (.pointer (some ⟨tc, g, none⟩)) (by go_simp) hK
                          · exact op_ld (T := 22) (x := Operand.tmp 123) (t := 22) (d := some 124) rfl (.pointer (some ⟨tc, g, none⟩)) (Eq.trans (b := uS 5) (by kernel_rfl) (hD 5 (depIn (by kernel_rfl)))) (.slice (some ⟨qa, 0, none⟩) n n) (by go_simp) hK
                          · exact op_ld (T := 23) (x := Operand.tmp 128) (t := 23) (d := some 129) rfl (.pointer (some ⟨gp, 1, none⟩)) (by kernel_rfl) (.slice (some ⟨tb, 0, none⟩) N N) (by go_simp) hK
                          · exact op_ix (T := 23) (x := Operand.tmp 129) (y := Operand.tmp 130) (t := 0) (d := some 131) rfl (.slice (some ⟨tb, 0, none⟩) N N) (.int .i64 g) (Eq.trans (b := uS 11) (by kernel_rfl) (hD 11 (depIn (by kernel_rfl)))) (by kernel_rfl) (.pointer (some ⟨tb, g, none⟩)) (by go_simp) hK
                          · exact op_ld (T := 22) (x := Operand.tmp 131) (t := 22) (d := some 132) rfl (.pointer (some ⟨tb, g, none⟩)) (Eq.trans (b := uS 13) (by kernel_rfl) (hD 13 (depIn (by kernel_rfl)))) (.slice (some ⟨qb, 0, none⟩) n n) (by go_simp) hK
                        simp only [putAll, Act.put, List.setIfInBounds_toArray, List.set_cons_zero, List.set_cons_succ]
                        refine wpAny_next 18 (by decide +kernel) (op_ix (T := 22) rfl (.slice (some ⟨qa, 0, none⟩) n n) (.int .i64 l) (by kernel_rfl) (by kernel_rfl) (.pointer (some ⟨qa, l, none⟩)) (by go_simp) ?_)
                        try simp only [Act.put, List.setIfInBounds_toArray, List.set_cons_zero, List.set_cons_succ]
                        refine wpAny_next 19 (by decide +kernel) (op_st rfl (.pointer (some ⟨qa, l, none⟩)) (.int .i64 (tt + cst)) (by kernel_rfl) (by kernel_rfl) (by go_simp; rfl) ?_)
                        try simp only [Act.put, List.setIfInBounds_toArray, List.set_cons_zero, List.set_cons_succ]
                        obtain ⟨z1, z2⟩ := YB.out wk.drew.drew (Ext.rf _).drew.drew
                        refine wpAny_next 20 (by decide +kernel) (op_ix (T := 22) rfl (.slice (some ⟨qb, 0, none⟩) n n) (.int .i64 l) (by kernel_rfl) (by kernel_rfl) (.pointer (some ⟨qb, l, none⟩)) (by go_simp) ?_)
                        try simp only [Act.put, List.setIfInBounds_toArray, List.set_cons_zero, List.set_cons_succ]
                        refine wpAny_next 21 (by decide +kernel) (op_st rfl (.pointer (some ⟨qb, l, none⟩)) (.int .i64 k) (by kernel_rfl) (by kernel_rfl) (by go_simp; rfl) ?_)
                        refine wpAny_done (by kernel_rfl) ?_ _
                        have RN := Lib.hid (FT.out wk.drew.drew (Ext.rf _).drew.drew)
                        have hl9 : Hid (k + 1 ≤ n) := by
                          have h9 : k + 1 ≤ n := hkk
                          exact h9
                        clear FT YB z1 z2 wl wk1 q5 q6
                        go_simp
                        go_wp2_with (fail)
                        go_roundw
                        case rel => exact ⟨k + 1, by go_num, hl9.out, RN⟩
                        case measure => (have h9 := hl9.out; simp [intOf]; omega)
                      · have RN := Lib.hid (RSM.out (by omega))
                        have hl9 : Hid (k + 1 ≤ n) := by
                          have h9 : k + 1 ≤ n := hkk
                          exact h9
                        clear RSM RTK YB wl wk1 q5 q6
                        go_wp2_with (fail)
                        go_roundw
                        case rel => exact ⟨k + 1, by go_num, hl9.out, RN⟩
                        case measure => (have h9 := hl9.out; simp [intOf]; omega)
                    · have hbk2 : rs.testBit k = false := by simpa using hbk
                      rw [hbk2] at BT
                      simp only [Bool.not_false] at BT
                      have RN : Hid (RowAh co n T g rs qa qb l (k + 1) W2 wk) := RK.out.same (by rw [leastW, if_neg hbk])
                      clear hbk hbk2
                      go_wp2_with (fail)
                      go_roundw
                      case rel => exact ⟨k + 1, by go_num, by omega, RN⟩
                      case measure => simp [intOf]; omega
                  · obtain rfl : k = n := by omega
                    have q3 : ¬ ((k : Int) < (k : Int)) := by omega
                    have RN := Lib.hid (RR.out wk RK.out)
                    go_wp2_with (fail)
                    go_roundw
                    case rel => exact ⟨l + 1, by go_num, by omega, RN⟩
                    case measure => simp [intOf]; omega
            · have hbit2 : g.testBit l = false := by simpa using hbit
              rw [hbit2] at BT
              simp only [Bool.not_false] at BT
              have RN : Hid (RowS co n T g qa qb (l + 1) W2 (wp.setCell ⟨qa, l, none⟩ (.int .i64 1152921504606846976))) := by
                refine ⟨RF.out.1, RF.out.2.1.congr fun j _ => ?_, RF.out.2.2.congr fun j _ => ?_⟩
                · by_cases e : j = l
                  · subst e
                    rw [if_pos rfl, if_pos (by omega)]
                    unfold wayN farT
                    rw [if_neg hbit]
                  · rw [if_neg e]
                    by_cases e2 : j < l
                    · rw [if_pos e2, if_pos (by omega)]
                    · rw [if_neg e2, if_neg (by omega)]
                · by_cases e : j = l
                  · subst e
                    rw [if_neg (by omega), if_pos (by omega)]
                    unfold wayN
                    rw [if_neg hbit]
                  · by_cases e2 : j < l
                    · rw [if_pos e2, if_pos (by omega)]
                    · rw [if_neg e2, if_neg (by omega)]
              clear RF hbit hbit2
              go_wp2_with (fail)
              go_roundw
              case rel => exact ⟨l + 1, by go_num, by omega, RN⟩
              case measure => simp [intOf]; omega
          · obtain rfl : l = n := by omega
            have m4 := RS.out.mod
            have hra : ∀ x, 1 ≤ x → x < g → r x < wo.heap.size := fun x h1 h2 => (hT.out.row x h1 h2).1.lt
            have hrb : ∀ x, 1 ≤ x → x < g → r2 x < wo.heap.size := fun x h1 h2 => (hB.out.row x h1 h2).1.lt
            obtain ⟨cs, hb, -⟩ := PT2.out.tab
            obtain ⟨cs2, hb2, -⟩ := PB.out.tab
            have NS : Hid (FillS co l N w wp w0.heap.size tc tb (g + 1)) := by
              refine ⟨FS.out.mod.tr' (MQ.out.tr' m4 (S := fun b => b = tc ∨ b = tb) (fun k hk hs => by rcases hs with e | e <;> omega)) (fun k _ hs => hs), fun x => if x = g then qa else r x, fun x => if x = g then qb else r2 x, _, _, ?_, ?_, WayOk.next (T := T) (Bk := Bk) n11 (by have := hN.out; omega) hW.out (fun a b ha hb => num.out a b (by have := hl.out; omega) (by have := hl.out; omega)), ?_⟩
              · refine (PT2.out.last (u := fun j => (wayN co l T g j).1) m4 (by rintro (e | e) <;> (subst e; omega)) (fun x h1 h2 => by rw [if_neg (by omega)]; have := hra x h1 h2; rintro (e | e) <;> omega) (by rw [if_pos rfl]; exact RS.out.a.congr fun j hj => if_pos hj) hg1).congr fun x j _ _ _ => ?_
                by_cases e : x = g
                · simp [e]
                · simp [e]
              · refine (PB.out.last (u := fun j => (((wayN co l T g j).2 : Nat) : Int)) m4 (by rintro (e | e) <;> (subst e; omega)) (fun x h1 h2 => by rw [if_neg (by omega)]; have := hrb x h1 h2; rintro (e | e) <;> omega) (by rw [if_pos rfl]; exact RS.out.b.congr fun j hj => by rw [if_pos hj]) hg1).congr fun x j _ _ _ => ?_
                by_cases e : x = g
                · simp [e]
                · simp [e]
              · intro x y x1 x2 y1 y2
                by_cases ex : x = g <;> by_cases ey : y = g
                · simp only [if_pos ex, if_pos ey]; exact nab
                · simp only [if_pos ex, if_neg ey]; have := hrb y y1 (by omega); omega
                · simp only [if_neg ex, if_pos ey]; have := hra x x1 (by omega); omega
                · simp only [if_neg ex, if_neg ey]; exact hR.out x y x1 (by omega) y1 (by omega)
            have NI := Lib.hid (LOW.out wp m4).2.2.2.1
            have q3 : ¬ ((l : Int) < (l : Int)) := by omega
            have wg : IntKind.i64.wrap ((g : Int) + 1) = ((g + 1 : Nat) : Int) := by rw [show (g : Int) + 1 = ((g + 1 : Nat) : Int) by omega]; exact IntWalk.i64_in _ (by omega)
            clear hb hb2 m4 hra hrb LOW
            go_wp2_with (fail)
            go_roundw
            case rel => exact ⟨g + 1, by go_num, by omega, by omega, NS, NI⟩
            case measure => simp [intOf]; omega
    · obtain rfl : g = N := by omega
      have q1 : ¬ ((g : Int) < (g : Int)) := by omega
      go_wp2_with (fail)
      go_end0
      exact ⟨rfl, FS.out⟩
end Go.Proofs.YtleckhbmciiooaaDoor
namespace Go.Proofs.YtleckhbmciiooaaDoor
open Go.RowKit Go.ChangeShapes Go.WideShapes Go.ChangeAt Go.Deep

set_option maxRecDepth 100000 in
theorem with_any (m i : Nat) (hm : m < 18446744073709551616) (hi : i < 64) (w : World) : Calls Tryd.prog 94 #[setV m, .int .i64 i] w fun e w' => e = .returned (setV (m ||| 2 ^ i)) ∧ Ext w w' := by
  unfold setV
  have K := bits_or_u64_nat m (2 ^ i) hm (Nat.pow_lt_pow_right (by omega) hi)
  have sh := shl_wrap i hi
  generalize 2 ^ i = b2 at *
  generalize m ||| b2 = z at *
  replace K := Lib.hid K
  replace sh := Lib.hid sh
  have B1' : Blk ((w.alloc (.cells #[.int .u64 m, .int .u64 0] 94)).alloc (.cells #[.int .u64 0, .int .u64 0] 94)) w.heap.size 94 #[.int .u64 m, .int .u64 0] := .alloc (.new rfl) _
  have B2 : Blk ((w.alloc (.cells #[.int .u64 m, .int .u64 0] 94)).alloc (.cells #[.int .u64 0, .int .u64 0] 94)) (w.heap.size + 1) 94 #[.int .u64 0, .int .u64 0] := .new (by simp)
  have B1 : Blk (w.alloc (.cells #[.int .u64 m, .int .u64 0] 94)) w.heap.size 94 #[.int .u64 m, .int .u64 0] := .new rfl
  go_enter Tryd.func94, Tryd.ntmps94
  go_wp2_with (fail)
  refine (within_any _ _).mono ?_
  rintro e w1 ⟨rfl, x1⟩
  have e1 : (decide (0 ≤ (i : Int)) && decide ((i : Int) < 128)) = true := by simp; omega
  rw [e1]
  have c0 : w1.cell? ⟨w.heap.size, 0, none⟩ = some (.int .u64 m) := (B1'.ext x1).cell 0
  have c1 : w1.cell? ⟨w.heap.size, 1, none⟩ = some (.int .u64 0) := (B1'.ext x1).cell 1
  have f0 := (B1'.ext x1).free 0
  have r0 : w1.cell? ⟨w.heap.size + 1, 0, none⟩ = some (.int .u64 0) := (B2.ext x1).cell 0
  have r1 : w1.cell? ⟨w.heap.size + 1, 1, none⟩ = some (.int .u64 0) := (B2.ext x1).cell 1
  have g0 := (B2.ext x1).free 0
  have g1 := (B2.ext x1).free 1
  have X1 := Lib.hid (Ext.tr (a := w) (by (repeat (first | assumption | exact Ext.rf _ | apply Ext.drew | apply Ext.drewN | apply Ext.alloc))) x1)
  replace K := K.out
  replace sh := sh.out
  have wz : IntKind.i64.wrap 0 = 0 := by decide
  have q1 : (i : Int) / 64 = 0 := by omega
  have q2 : (i : Int).tmod 64 = (i : Int) := by rw [Int.tmod_eq_emod_of_nonneg (by omega)]; omega
  have bA := B1'.ext x1
  have bR := B2.ext x1
  clear x1 B1' B2 e1 c1 f0 r0 r1 g0 g1
  have bA2 := Lib.hid (bA.set 0 (.int .u64 z))
  have bR2 := Lib.hid (bR.far (p := ⟨w.heap.size, 0, none⟩) (by simp) (.int .u64 z))
  have X2 := Lib.hid (X1.out.setNew (p := ⟨w.heap.size, 0, none⟩) (Nat.le_refl _) (.int .u64 z))
  have fA : w1.frozen? ⟨w.heap.size, 0, none⟩ = false := bA.free 0
  go_upto_region 2 with (fail)
  refine wp_region_any (by kernel_rfl) ?_
  change wpAny _ _ _ _ _ _ _ (World.drew _)
  refine wpAny_T (i := 0) (op := Op.move (Operand.tmp 1)) (t := 3) (d := some 7) (v := ?_) rfl (by decide +kernel) (by decide +kernel) (by decide +kernel) (fun _ _ _ h => h) ?_ ?_
  case refine_2 => (intro _; unfold exec2; go_simp; try with_reducible rfl)
  try simp only [Act.put, List.setIfInBounds_toArray, List.set_cons_zero, List.set_cons_succ]
  refine wpAny_T (i := 1) (op := Op.binOp BinOp.quo 3 (Operand.tmp 7) (Operand.const (Value.int IntKind.i64 64)) 3) (t := 3) (d := some 8) (v := ?_) rfl (by decide +kernel) (by decide +kernel) (by decide +kernel) (fun _ _ _ h => h) ?_ ?_
  case refine_2 => (intro _; unfold exec2; go_simp; try with_reducible rfl)
  try simp only [Act.put, List.setIfInBounds_toArray, List.set_cons_zero, List.set_cons_succ]
  refine wpAny_T (i := 2) (op := Op.indexAddr 94 (Operand.tmp 2) (Operand.tmp 8)) (t := 0) (d := some 9) (v := ?_) rfl (by decide +kernel) (by decide +kernel) (by decide +kernel) (fun _ _ _ h => h) ?_ ?_
  case refine_2 => (intro _; unfold exec2; go_simp; try with_reducible rfl)
  try simp only [Act.put, List.setIfInBounds_toArray, List.set_cons_zero, List.set_cons_succ]
  refine wpAny_T (i := 4) (op := Op.move (Operand.tmp 1)) (t := 3) (d := some 11) (v := ?_) rfl (by decide +kernel) (by decide +kernel) (by decide +kernel) (fun _ _ _ h => h) ?_ ?_
  case refine_2 => (intro _; unfold exec2; go_simp; try with_reducible rfl)
  try simp only [Act.put, List.setIfInBounds_toArray, List.set_cons_zero, List.set_cons_succ]
  refine wpAny_T (i := 5) (op := Op.binOp BinOp.rem 3 (Operand.tmp 11) (Operand.const (Value.int IntKind.i64 64)) 3) (t := 3) (d := some 12) (v := ?_) rfl (by decide +kernel) (by decide +kernel) (by decide +kernel) (fun _ _ _ h => h) ?_ ?_
  case refine_2 => (intro _; unfold exec2; go_simp; try with_reducible rfl)
  try simp only [Act.put, List.setIfInBounds_toArray, List.set_cons_zero, List.set_cons_succ]
  refine wpAny_T (i := 6) (op := Op.binOp BinOp.shl 28 (Operand.const (Value.int IntKind.u64 1)) (Operand.tmp 12) 3) (t := 28) (d := some 13) (v := ?_) rfl (by decide +kernel) (by decide +kernel) (by decide +kernel) (fun _ _ _ h => h) ?_ ?_
  case refine_2 => (intro _; unfold exec2; go_simp; try with_reducible rfl)
  try simp only [Act.put, List.setIfInBounds_toArray, List.set_cons_zero, List.set_cons_succ]
  refine wpAny_next 3 (by decide +kernel) (op_ld (T := 28) (x := Operand.tmp 9) (t := 28) (d := some 10) rfl (.pointer (some ⟨w.heap.size, 0, none⟩)) (by kernel_rfl) (.int .u64 m) (by go_simp) ?_)
  try simp only [Act.put, List.setIfInBounds_toArray, List.set_cons_zero, List.set_cons_succ]
  refine wpAny_T (i := 7) (op := Op.binOp BinOp.or 28 (Operand.tmp 10) (Operand.tmp 13) 28) (t := 28) (d := some 14) (v := ?_) rfl (by decide +kernel) (by decide +kernel) (by decide +kernel) (fun _ _ _ h => h) ?_ ?_
  case refine_2 => (intro _; unfold exec2; go_simp; try with_reducible rfl)
  try simp only [Act.put, List.setIfInBounds_toArray, List.set_cons_zero, List.set_cons_succ]
  refine wpAny_T (i := 8) (op := Op.indexAddr 94 (Operand.tmp 2) (Operand.tmp 8)) (t := 0) (d := some 15) (v := ?_) rfl (by decide +kernel) (by decide +kernel) (by decide +kernel) (fun _ _ _ h => h) ?_ ?_
  case refine_2 => (intro _; unfold exec2; go_simp; try with_reducible rfl)
  try simp only [Act.put, List.setIfInBounds_toArray, List.set_cons_zero, List.set_cons_succ]
  refine wpAny_next 9 (by decide +kernel) (op_st rfl (.pointer (some ⟨w.heap.size, 0, none⟩)) (.int .u64 z) (by kernel_rfl) (by kernel_rfl) (by go_simp; rfl) ?_)
  refine wpAny_done (by kernel_rfl) ?_ _
  clear c0 fA bA bR X1 hm K sh
  generalize w1.setCell ⟨w.heap.size, 0, none⟩ (.int .u64 z) = w2 at *
  clear w1
  have c0 : w2.cell? ⟨w.heap.size, 0, none⟩ = some (.int .u64 z) := bA2.out.cell 0
  have c1 : w2.cell? ⟨w.heap.size, 1, none⟩ = some (.int .u64 0) := bA2.out.cell 1
  have r0 : w2.cell? ⟨w.heap.size + 1, 0, none⟩ = some (.int .u64 0) := bR2.out.cell 0
  have r1 : w2.cell? ⟨w.heap.size + 1, 1, none⟩ = some (.int .u64 0) := bR2.out.cell 1
  have g0 := bR2.out.free 0
  have g1 := bR2.out.free 1
  go_simp
  go_wp2_with (fail)
  refine bodyPost_ret (v := .agg #[.int .u64 z, .int .u64 0]) (by simp [results, Tryd.results94, go_sem, *]) rfl ⟨rfl, ?_⟩
  exact ((X2.out.setNew (p := ⟨w.heap.size + 1, 0, none⟩) (by simp) _).setNew (p := ⟨w.heap.size + 1, 1, none⟩) (by simp) _).drew
end Go.Proofs.YtleckhbmciiooaaDoor
namespace Go.Proofs.YtleckhbmciiooaaDoor
open Go.RowKit Go.ChangeShapes Go.WideShapes Go.ChangeAt Go.Deep

/-- each number is an int -/
def InstInts (i : InstP) : Prop := Ints i.weight ∧ Ints i.value ∧ ∀ r ∈ i.cost, Ints r
theorem RInst.ints {w : World} {vs : List Value} {i : InstP} (h : RInst w vs i) : InstInts i := by
  obtain ⟨A, a, B, b, C, c, rfl, ⟨_, h2, _⟩, ⟨_, h4, _⟩, ⟨h5, _⟩⟩ := h
  refine ⟨h2, h4, fun r hr => ?_⟩
  obtain ⟨k, hk, rfl⟩ := List.mem_iff_getElem.1 hr
  obtain ⟨_, _, _, row, _, _, _, _, he, _, _, hi, _⟩ := h5.ints hk
  have h := he.out
  rw [List.getElem?_eq_getElem hk] at h
  rw [Option.some.inj h]
  exact hi
theorem InstO.rinst {w : World} {base : Nat} {vs : List Value} {i : InstP} (h : InstO w base vs i) (hi : InstInts i) : RInst w vs i := by
  obtain ⟨A, a, B, b, C, c, us, rfl, h1, h2, h3, h4⟩ := h
  refine ⟨A, a, B, b, C, c, rfl, ⟨h1.read, hi.1, h1.le.1, h1.le.2⟩, ⟨h2.read, hi.2.1, h2.le.1, h2.le.2⟩, ?_, h3.le.1, h3.le.2⟩
  rcases h3.read with h0 | ⟨b', off, cur, hA, hb, hc⟩
  · left
    have := h4.1
    rw [h0] at this
    exact List.eq_nil_of_length_eq_zero this.symm
  · refine .inr ⟨b', off, hA, (Array.getElem?_eq_some_iff.1 hb).1, fun k r hr => ?_⟩
    obtain ⟨A', c', hu, ho⟩ := h4.2 k r hr
    refine ⟨[.slice A' r.length c'], ⟨A', c', rfl, ho.read, hi.2.2 r (List.mem_of_getElem? hr), ho.le.1, ho.le.2⟩, rfl, fun j v hj => ?_⟩
    cases j with
    | zero =>
      simp at hj
      subst hj
      rw [cell_of_row w b' _ cur _ (0, 0) hb]
      simpa using hc k _ hu
    | succ j => simp at hj
theorem InstO.ext {w w' : World} {base : Nat} {vs : List Value} {i : InstP} (h : InstO w base vs i) (x : Ext w w') : InstO w' base vs i := by
  obtain ⟨A, a, B, b, C, c, us, rfl, h1, h2, h3, h4⟩ := h
  exact ⟨A, a, B, b, C, c, us, rfl, h1.ext x, h2.ext x, h3.ext x, h4.ext x⟩
theorem InstO.modT {w w' : World} {base base' : Nat} {ts : List TypeId} {vs : List Value} {i : InstP} (h : InstO w base vs i) (k : ModT base' ts w w') (h1 : 3 ∉ ts) (h2 : 22 ∉ ts) : InstO w' base vs i := by
  obtain ⟨A, a, B, b, C, c, us, rfl, g1, g2, g3, g4⟩ := h
  exact ⟨A, a, B, b, C, c, us, rfl, g1.modT k h1, g2.modT k h1, g3.modT k h2, g4.modT k h1⟩
end Go.Proofs.YtleckhbmciiooaaDoor
namespace Go.Proofs.YtleckhbmciiooaaDoor

/-- a problem over a square, in form -/
structure SquareOk (i : InstP) : Prop where
  n1 : 1 ≤ i.n
  n2 : i.n ≤ 24
  len : (i.cost.length : Int) = i.n
  row : ∀ r ∈ i.cost, (r.length : Int) = i.n
  num : ∀ r ∈ i.cost, ∀ x ∈ r, 0 ≤ x ∧ x ≤ 2147483647
  w : i.weight = []
  v : i.value = []
theorem numP_none {n : Int} (h : numP n = 0) : 0 ≤ n ∧ n ≤ 2147483647 := by
  unfold numP at h
  split at h
  · cases h
  · split at h
    · cases h
    · omega
theorem rowE_zero : ∀ {l : List Int} {k : Int} {r c : Nat}, rowE k r c l = 0 → ∀ x ∈ l, 0 ≤ x ∧ x ≤ 2147483647
  | [], _, _, _, _, x, hx => by cases hx
  | n :: l, k, r, c, h, x, hx => by
    unfold rowE at h
    split at h
    · rename_i hn
      split at h
      · cases h
      · rcases List.mem_cons.1 hx with rfl | hx
        · exact numP_none hn
        · exact rowE_zero h x hx
    · rename_i hn
      exact absurd h hn
theorem rowsE_zero : ∀ {l : List (List Int)} {k : Int} {r : Nat}, rowsE k r l = 0 → ∀ q ∈ l, ∀ x ∈ q, 0 ≤ x ∧ x ≤ 2147483647
  | [], _, _, _, q, hq => by cases hq
  | row :: l, k, r, h, q, hq => by
    unfold rowsE at h
    split at h
    · rename_i hr
      rcases List.mem_cons.1 hq with rfl | hq
      · exact rowE_zero hr
      · exact rowsE_zero h q hq
    · rename_i hr
      exact absurd h hr
theorem square_ok {i : InstP} (h : checkP i = 0) (hk : i.kind ≠ 1) : SquareOk i := by
  unfold checkP at h
  by_cases hs : sizeP i.kind i.n = 0
  · rw [if_pos hs] at h
    by_cases hsh : shapeP i = true
    · rw [if_pos hsh, if_neg hk] at h
      unfold shapeP at hsh
      rw [if_neg hk] at hsh
      simp only [Bool.and_eq_true, beq_iff_eq, decide_eq_true_eq, Bool.not_eq_true', List.any_eq_false, bne_iff_ne, ne_eq, Decidable.not_not] at hsh
      obtain ⟨⟨⟨h1, h2⟩, h3⟩, h4⟩ := hsh
      unfold sizeP at hs
      rw [if_neg hk] at hs
      have hn : 1 ≤ i.n ∧ i.n ≤ 24 := by
        split at hs
        · split at hs
          · cases hs
          · split at hs
            · cases hs
            · omega
        · split at hs
          · split at hs
            · cases hs
            · split at hs
              · cases hs
              · omega
          · cases hs
      exact ⟨hn.1, hn.2, h1, h4, rowsE_zero h, List.eq_nil_of_length_eq_zero (by omega), List.eq_nil_of_length_eq_zero (by omega)⟩
    · rw [if_neg hsh] at h
      cases h
  · rw [if_neg hs] at h
    exact absurd h hs
theorem rows_ok {i : InstP} (h : SquareOk i) : RowsOk i.cost := by
  have h1 := h.n1
  have h2 := h.n2
  have h3 := h.len
  refine ⟨by omega, by omega, fun r hr => ?_, h.num⟩
  have := h.row r hr
  omega
end Go.Proofs.YtleckhbmciiooaaDoor
namespace Go.Proofs.YtleckhbmciiooaaDoor
open Go.RowKit Go.ChangeShapes Go.WideShapes Go.ChangeAt Go.Deep

def orP (m : Nat) : List Nat → Nat
  | [] => m
  | x :: l => orP (m ||| 2 ^ x) l
theorem orP_bit : ∀ (l : List Nat) (m j : Nat), (orP m l).testBit j = (m.testBit j || decide (j ∈ l))
  | [], m, j => by simp [orP]
  | x :: l, m, j => by
    rw [orP, orP_bit l, Nat.testBit_or, Nat.testBit_two_pow]
    by_cases e : x = j
    · subst e; simp
    · have e' : ¬ j = x := fun h => e h.symm
      simp [e, e']
theorem orP_snoc : ∀ (l : List Nat) (m x : Nat), orP m (l ++ [x]) = orP m l ||| 2 ^ x
  | [], m, x => rfl
  | y :: l, m, x => by rw [List.cons_append, orP, orP_snoc l, orP]
theorem orP_lt {l : List Nat} (h : ∀ x ∈ l, x < 64) : orP 0 l < 18446744073709551616 := by
  refine Nat.lt_pow_two_of_testBit (n := 64) _ fun i hi => ?_
  rw [orP_bit]
  simp
  intro hm
  have := h i hm
  omega
theorem orP_full {l : List Nat} {n : Nat} (h : l.Perm (List.range n)) : orP 0 l = 2 ^ n - 1 := by
  refine Nat.eq_of_testBit_eq fun j => ?_
  rw [orP_bit, Nat.testBit_two_pow_sub_one]
  have : j ∈ l ↔ j < n := by rw [h.mem_iff, List.mem_range]
  simp [this]
theorem eq_sets (x y : Int) (u : World) : (Op.equalIn 10000 94 (.agg #[.int .u64 x, .int .u64 0]) (.agg #[.int .u64 y, .int .u64 0])).run Tryd.prog u = .ok (x == y) u := by
  unfold Op.equalIn
  simp only [Sem.run_bind, run_underlying Tryd.underlying94, Result.andThen_ok]
  have e9 : List.range' 0 2 1 = [0, 1] := rfl
  simp only [Std.Legacy.Range.forIn_eq_forIn_range', Std.Legacy.Range.size, Nat.sub_zero, Nat.add_one_sub_one, Nat.div_one, e9, List.forIn_cons, List.forIn_nil]
  by_cases hx : x = y
  · subst hx
    go_simp
  · have hx' : (x == y) = false := by simpa using hx
    go_simp
set_option maxRecDepth 100000 in
theorem of_any (A : Option Addr) (c : Nat) (l : List Nat) (hl : ∀ x ∈ l, x < 64) (hn : l.length ≤ 1000) (w : World) (hA : RdI w A (intsN l)) :
    Calls Tryd.prog 123 #[.slice A l.length c] w fun e w' => e = .returned (setV (orP 0 l)) ∧ Ext w w' := by
  have B0 : Hid (Blk ((w.alloc (.cells #[.int .u64 0, .int .u64 0] 94)).alloc (.cells #[.int .u64 0, .int .u64 0] 94)) w.heap.size 94 #[.int .u64 0, .int .u64 0]) := Blk.alloc (.new rfl) _
  have B1 : Hid (Blk ((w.alloc (.cells #[.int .u64 0, .int .u64 0] 94)).alloc (.cells #[.int .u64 0, .int .u64 0] 94)) (w.heap.size + 1) 94 #[.int .u64 ((orP 0 (l.take 0) : Nat) : Int), .int .u64 0]) := .new (by simp)
  have X0 : Hid (Ext w ((w.alloc (.cells #[.int .u64 0, .int .u64 0] 94)).alloc (.cells #[.int .u64 0, .int .u64 0] 94))) := ((Ext.rf w).alloc _).alloc _
  have WI := fun (m i : Nat) (h : m < 18446744073709551616) (hi : i < 64) (W : World) => with_any m i h hi W
  unfold setV at WI ⊢
  replace WI := Lib.hid WI
  replace hA := Lib.hid hA
  replace hl := Lib.hid hl
  go_enter Tryd.func123, Tryd.ntmps123
  go_wp2_with (fail)
  go_loopw [8] (fun i wr => ∃ k : Nat, i = .int .i64 k ∧ k ≤ l.length ∧ Hid (Blk wr (w.heap.size + 1) 94 #[.int .u64 ((orP 0 (l.take k) : Nat) : Int), .int .u64 0]) ∧ Hid (Blk wr w.heap.size 94 #[.int .u64 0, .int .u64 0]) ∧ Hid (Ext w wr)) (fun i _ => l.length - (intOf i).toNat)
  case atStart => exact ⟨0, rfl, by omega, B1, B0, X0⟩
  case round =>
    clear B0 B1 X0
    obtain ⟨wo, rfl⟩ : ∃ wo : World, wo = wr := ⟨_, rfl⟩
    obtain ⟨k, rfl, hk, B1, B0, X0⟩ := hrel
    by_cases hlt : k < l.length
    · obtain ⟨b, off, x, rfl, zb, cx, ex, _⟩ := (hA.out.ext X0.out).at (k := k) (by rw [intsN_len]; exact hlt)
      obtain ⟨y, hy⟩ : ∃ y, Hid (l[k]? = some y) := ⟨l[k], List.getElem?_eq_getElem hlt⟩
      obtain rfl : x = (y : Int) := by
        have h1 := ex.out
        simp only [intsN, List.getElem?_map, hy.out, Option.map_some, Option.some.injEq] at h1
        exact h1.symm
      have hy64 := hl.out y (List.mem_of_getElem? hy.out)
      have hm := orP_lt (l := l.take k) (fun x hx => hl.out x (List.mem_of_mem_take hx))
      have HS : orP 0 (l.take (k + 1)) = orP 0 (l.take k) ||| 2 ^ y := by
        rw [List.take_add_one, hy.out]
        exact orP_snoc _ _ _
      have HW := Lib.hid (WI.out (orP 0 (l.take k)) y hm hy64)
      rw [← HS] at HW
      clear HS hm hy64 ex
      generalize orP 0 (l.take k) = m at *
      obtain ⟨m2, hm2⟩ : ∃ m2, Hid (orP 0 (l.take (k + 1)) = m2) := ⟨_, rfl⟩
      rw [hm2.out] at HW
      have c0 : wo.cell? ⟨w.heap.size + 1, 0, none⟩ = some (.int .u64 m) := B1.out.cell 0
      have c1 : wo.cell? ⟨w.heap.size + 1, 1, none⟩ = some (.int .u64 0) := B1.out.cell 1
      have q1 : (k : Int) < (l.length : Int) := by omega
      go_wp2_with (fail)
      refine (HW.out _).mono ?_
      rintro e w1 ⟨rfl, x1⟩
      have b1 := B1.out.ext x1
      have d0 : w1.cell? ⟨w.heap.size + 1, 0, none⟩ = some (.int .u64 m) := b1.cell 0
      have d1 : w1.cell? ⟨w.heap.size + 1, 1, none⟩ = some (.int .u64 0) := b1.cell 1
      have f0 := b1.free 0
      have f1 := b1.free 1
      have B1' := Lib.hid ((b1.set 0 (.int .u64 m2)).set 1 (.int .u64 0))
      have B0' := Lib.hid (((B0.out.ext x1).far (p := ⟨w.heap.size + 1, 0, none⟩) (by simp) (.int .u64 m2)).far (p := ⟨w.heap.size + 1, 1, none⟩) (by simp) (.int .u64 0))
      have X1 := Lib.hid (((X0.out.tr x1).setNew (p := ⟨w.heap.size + 1, 0, none⟩) (by simp) (.int .u64 m2)).setNew (p := ⟨w.heap.size + 1, 1, none⟩) (by simp) (.int .u64 0))
      clear b1 x1 B0 B1 X0 c0 c1
      go_wp2_with (fail)
      go_roundw
      case rel => exact ⟨k + 1, by go_num, by omega, by rw [hm2.out]; exact B1', B0', X1⟩
      case measure => simp [intOf]; omega
    · obtain rfl : k = l.length := by omega
      rw [List.take_length] at B1
      obtain ⟨m, hm⟩ : ∃ m, Hid (orP 0 l = m) := ⟨_, rfl⟩
      rw [hm.out] at B1
      have c0 : wo.cell? ⟨w.heap.size + 1, 0, none⟩ = some (.int .u64 m) := B1.out.cell 0
      have c1 : wo.cell? ⟨w.heap.size + 1, 1, none⟩ = some (.int .u64 0) := B1.out.cell 1
      have r0 : wo.cell? ⟨w.heap.size, 0, none⟩ = some (.int .u64 0) := B0.out.cell 0
      have r1 : wo.cell? ⟨w.heap.size, 1, none⟩ = some (.int .u64 0) := B0.out.cell 1
      have g0 := B0.out.free 0
      have g1 := B0.out.free 1
      go_wp2_with (fail)
      refine bodyPost_ret (v := .agg #[.int .u64 m, .int .u64 0]) (by simp [results, Tryd.results123, go_sem, *]) rfl ⟨by rw [hm.out], ?_⟩
      exact (X0.out.setNew (p := ⟨w.heap.size, 0, none⟩) (by simp) _).setNew (p := ⟨w.heap.size, 1, none⟩) (by simp) _
set_option maxRecDepth 100000 in
theorem order_yes (A : Option Addr) (c n : Nat) (l : List Nat) (hl : l.Perm (List.range n)) (hn : n < 64) (w : World) (hA : RdI w A (intsN l)) :
    Calls Tryd.prog 101 #[.slice A n c, .int .i64 n] w fun e w' => e = .returned (.bool true) ∧ Ext w w' := by
  have lk : l.length = n := by rw [hl.length_eq, List.length_range]
  have OF := fun (W : World) (x : Ext w W) => of_any A c l (fun x hx => by have := List.mem_range.1 (hl.mem_iff.1 hx); omega) (by omega) W (hA.ext x)
  have FU := fun (W : World) => full_any n hn W
  rw [orP_full hl, lk] at OF
  clear lk hl hA
  unfold setV at OF FU
  generalize 2 ^ n - 1 = m at *
  have EQ := fun u : World => eq_sets (m : Int) (m : Int) u
  simp only [beq_self_eq_true] at EQ
  have en : ((n : Int) == (n : Int)) = true := by simp
  replace OF := Lib.hid OF
  replace FU := Lib.hid FU
  go_enter Tryd.func101, Tryd.ntmps101
  go_wp2_with (fail)
  refine (OF.out _ (by (repeat (first | assumption | exact Ext.rf _ | apply Ext.drew | apply Ext.drewN | apply Ext.alloc)))).mono ?_
  rintro e w1 ⟨rfl, x1⟩
  go_wp2_with (fail)
  refine (FU.out _).mono ?_
  rintro e w2 ⟨rfl, x2⟩
  have X2 := Lib.hid (Ext.tr (Ext.tr (a := w) (by (repeat (first | assumption | exact Ext.rf _ | apply Ext.drew | apply Ext.drewN | apply Ext.alloc))) x1) x2)
  clear x1 x2
  go_wp2_with (fail)
  go_ret
  exact ⟨rfl, X2.out⟩
/-- what the first rows cost -/
def costK (rows : List (List Int)) (l : List Nat) (k : Nat) : Int := sumL ((List.range k).map fun j => costAt rows j (l.getD j 0))
theorem costK_succ (rows : List (List Int)) (l : List Nat) (k : Nat) : costK rows l (k + 1) = costK rows l k + costAt rows k (l.getD k 0) := by
  unfold costK
  rw [List.range_succ, List.map_append, sumL_append]
  simp [sumL]
set_option maxRecDepth 100000 in
set_option maxHeartbeats 2000000 in
theorem vcost2_any (i : InstP) (us : List Value) (P : Option Addr) (c : Nat) (l : List Nat) (w : World) (H : RInst w us i) (hc : checkP i = 0) (hk : i.kind = 2) (hP : RdI w P (intsN l)) (hl : l.Perm (List.range i.cost.length)) :
    Calls Tryd.prog 75 #[.agg (List.toArray us), .slice P i.cost.length c] w fun e w' => e = .returned (.tuple #[.int .i64 (costF i.cost (intsN l)), .int .i64 0]) ∧ Ext w w' := by
  have sq := square_ok hc (by omega)
  have rok := rows_ok sq
  have CH := fun (W : World) (x : Ext w W) => check_any i us W (H.ext x) (by rw [sq.w]; simp) (by rw [sq.v]; simp)
  have lk : l.length = i.cost.length := by rw [hl.length_eq, List.length_range]
  have OY := fun (W : World) (x : Ext w W) => order_yes P c i.cost.length l hl (by have := rok.n2; omega) W (hP.ext x)
  have CF : Hid (costF i.cost (intsN l) = costK i.cost l i.cost.length) := by
    have h : costF i.cost (intsN l) = costK i.cost l i.cost.length := by rw [costF_range lk.symm, lk]; rfl
    exact h
  have hln := sq.len
  rw [hc] at CH
  obtain ⟨kind, nn, cap, xw, xv, co⟩ := i
  obtain ⟨A, a, B, b, D, d, rfl, -, -, hC, -⟩ := H
  simp only at *
  subst hk
  have n1 := rok.n1
  have n2 := rok.n2
  obtain ⟨n, hn⟩ : ∃ n, co.length = n := ⟨_, rfl⟩
  rw [hn] at CH OY CF lk hln hl n1 n2 ⊢
  have lt : ∀ k, k < n → l.getD k 0 < n := fun k hk => by
    have h1 : l[k]? = some (l[k]'(by omega)) := List.getElem?_eq_getElem _
    rw [getD_some h1]
    exact List.mem_range.1 (hl.mem_iff.1 (List.getElem_mem _))
  have CA := fun (W : World) (x : Ext w W) (r c : Nat) (hr : r < n) (hc : c < n) => cost_at rok (hC.ext x fun _ _ h => h.ext x) (r := r) (c := c) (by omega) (by omega)
  rw [hn] at CA
  have EB := fun r c (hr : r < n) (hc : c < n) => ends_num rok r c (by omega) (by omega)
  have B1 : Hid (Blk (w.alloc (.cells #[.int .i64 2, .int .i64 nn, .int .i64 cap, .slice A xw.length a, .slice B xv.length b, .slice D n d] 25)) w.heap.size 25 #[.int .i64 2, .int .i64 nn, .int .i64 cap, .slice A xw.length a, .slice B xv.length b, .slice D n d]) := .new rfl
  subst hln
  replace CH := Lib.hid CH
  replace OY := Lib.hid OY
  replace CA := Lib.hid CA
  replace EB := Lib.hid EB
  replace hP := Lib.hid hP
  replace lk := Lib.hid lk
  replace lt := Lib.hid lt
  replace hn := Lib.hid hn
  clear hc hl hC rok sq
  go_enter Tryd.func75, Tryd.ntmps75
  go_wp2_with (fail)
  refine (CH.out _ (by (repeat (first | assumption | exact Ext.rf _ | apply Ext.drew | apply Ext.drewN | apply Ext.alloc)))).mono ?_
  rintro e w1 ⟨rfl, x1⟩
  have X1 := Lib.hid (Ext.tr (a := w) (by (repeat (first | assumption | exact Ext.rf _ | apply Ext.drew | apply Ext.drewN | apply Ext.alloc))) x1)
  have b1 := Lib.hid (B1.out.ext x1)
  have t0 : w1.cell? ⟨w.heap.size, 0, none⟩ = some (.int .i64 2) := b1.out.cell 0
  have t1 : w1.cell? ⟨w.heap.size, 1, none⟩ = some (.int .i64 n) := b1.out.cell 1
  clear x1 B1
  go_wp2_with (fail)
  refine (OY.out _ (X1.out.tr (by (repeat (first | assumption | exact Ext.rf _ | apply Ext.drew | apply Ext.drewN | apply Ext.alloc))))).mono ?_
  rintro e w2 ⟨rfl, x2⟩
  have X2 := Lib.hid (X1.out.tr (Ext.tr (by (repeat (first | assumption | exact Ext.rf _ | apply Ext.drew | apply Ext.drewN | apply Ext.alloc))) x2))
  have b2 := Lib.hid (b1.out.ext (Ext.tr (by (repeat (first | assumption | exact Ext.rf _ | apply Ext.drew | apply Ext.drewN | apply Ext.alloc))) x2))
  have s0 : w2.cell? ⟨w.heap.size, 0, none⟩ = some (.int .i64 2) := b2.out.cell 0
  clear x2 b1 X1 t0 t1
  go_wp2_with (fail)
  go_loopw [7, 44] (fun sv i wr => ∃ k : Nat, i = .int .i64 k ∧ sv = .int .i64 (costK co l k) ∧ k ≤ n ∧ Hid (0 ≤ costK co l k ∧ costK co l k ≤ k * 2147483647) ∧ Hid (Ext w2 wr)) (fun _ i _ => n - (intOf i).toNat)
  case atStart => exact ⟨0, rfl, rfl, by omega, ⟨Int.le_refl _, by simp [costK, sumL]⟩, Ext.rf _⟩
  case round =>
    clear s0
    obtain ⟨wo, rfl⟩ : ∃ wo : World, wo = wr := ⟨_, rfl⟩
    obtain ⟨k, rfl, rfl, hk, BD, X3⟩ := hrel
    by_cases hlt : k < n
    · obtain ⟨y, hy⟩ : ∃ y, Hid (l.getD k 0 = y) := ⟨_, rfl⟩
      have yn : y < n := by rw [← hy.out]; exact lt.out k hlt
      obtain ⟨pb, po, x, rfl, zp, cp, ex, _⟩ := ((hP.out.ext X2.out).ext X3.out).at (k := k) (by rw [intsN_len, lk.out]; exact hlt)
      obtain rfl : x = (y : Int) := by
        have h1 := ex.out
        have h2 : l[k]? = some (l[k]'(by rw [lk.out]; exact hlt)) := List.getElem?_eq_getElem _
        have h3 := hy.out
        rw [getD_some h2] at h3
        simp only [intsN, List.getElem?_map, h2, Option.map_some, Option.some.injEq, h3] at h1
        exact h1.symm
      obtain ⟨cb, cof, rb, ro, d', rfl, k1, k2⟩ := CA.out wo (X2.out.tr X3.out) k y hlt yn
      have eb := EB.out k y hlt yn
      have HK : Hid (costK co l (k + 1) = costK co l k + costAt co k y) := by
        have h : costK co l (k + 1) = costK co l k + costAt co k y := by rw [costK_succ, hy.out]
        exact h
      have b3 := b2.out.ext X3.out
      have s0 : wo.cell? ⟨w.heap.size, 0, none⟩ = some (.int .i64 2) := b3.cell 0
      have s5 : wo.cell? ⟨w.heap.size, 5, none⟩ = some (.slice (some ⟨cb, cof, none⟩) n d) := b3.cell 5
      obtain ⟨b0, b1⟩ := BD.out
      generalize costK co l k = su at *
      generalize costAt co k y = cv at *
      have wv : IntKind.i64.wrap (su + cv) = su + cv := IntWalk.i64_in _ (by omega)
      have q1 : (k : Int) < (n : Int) := by omega
      have q2 : (y : Int) < (n : Int) := by omega
      have bd2 : 0 ≤ su + cv ∧ su + cv ≤ ((k + 1 : Nat) : Int) * 2147483647 := by omega
      replace bd2 := Lib.hid bd2
      clear b0 b1 eb BD b3 ex
      go_wp2_with (fail)
      go_roundw
      case rel => exact ⟨k + 1, by go_num, by rw [HK.out], by omega, by rw [HK.out]; exact bd2, X3.out.tr (by (repeat (first | assumption | exact Ext.rf _ | apply Ext.drew | apply Ext.drewN | apply Ext.alloc)))⟩
      case measure => simp [intOf]; omega
    · obtain rfl : k = n := by omega
      go_wp2_with (fail)
      go_ret2
      exact ⟨by rw [CF.out]; rfl, X2.out.tr X3.out⟩
end Go.Proofs.YtleckhbmciiooaaDoor
namespace Go.Proofs.YtleckhbmciiooaaDoor

/-- what is left of a round trip behind its first so many ways -/
def restW (co : List (List Int)) : List Nat → Int
  | [] => 0
  | u :: q => pathT co u q
theorem pathT_bd {rows : List (List Int)} (num : ∀ a b, a < rows.length → b < rows.length → 0 ≤ costAt rows a b ∧ costAt rows a b ≤ 2147483647) : ∀ (q : List Nat) (s : Nat), s < rows.length → (∀ x ∈ q, x < rows.length) → 0 ≤ pathT rows s q ∧ pathT rows s q ≤ 2147483647 * ((q.length : Int) + 1)
  | [], s, hs, _ => by have := num s 0 hs (by omega); simp only [pathT, List.length_nil]; omega
  | u :: q, s, hs, h => by
    have h1 := num s u hs (h u (by simp))
    have h2 := pathT_bd num q u (h u (by simp)) fun x hx => h x (by simp [hx])
    simp only [pathT, List.length_cons]
    omega
theorem intsN_at {l : List Nat} {k y : Nat} (h : l[k]? = some y) : (intsN l)[k]? = some (y : Int) := by simp [intsN, h]
end Go.Proofs.YtleckhbmciiooaaDoor
namespace Go.Proofs.YtleckhbmciiooaaDoor
open Go.RowKit Go.ChangeShapes Go.WideShapes Go.ChangeAt Go.Deep

set_option maxRecDepth 100000 in
set_option maxHeartbeats 4000000 in
theorem vcost3_any (i : InstP) (us : List Value) (P : Option Addr) (c : Nat) (q : List Nat) (w : World) (H : RInst w us i) (hc : checkP i = 0) (hk : i.kind = 3) (hP : RdI w P (intsN (0 :: q))) (hl : (0 :: q).Perm (List.range i.cost.length)) :
    Calls Tryd.prog 75 #[.agg (List.toArray us), .slice P i.cost.length c] w fun e w' => e = .returned (.tuple #[.int .i64 (pathT i.cost 0 q), .int .i64 0]) ∧ Ext w w' := by
  have sq := square_ok hc (by omega)
  have rok := rows_ok sq
  have CH := fun (W : World) (x : Ext w W) => check_any i us W (H.ext x) (by rw [sq.w]; simp) (by rw [sq.v]; simp)
  have OY := fun (W : World) (x : Ext w W) => order_yes P c i.cost.length (0 :: q) hl (by have := rok.n2; omega) W (hP.ext x)
  rw [hc] at CH
  have hnn : i.n = (i.cost.length : Int) := sq.len.symm
  have hlt : Hid (∀ x ∈ 0 :: q, x < i.cost.length) := fun x hx => List.mem_range.1 (hl.mem_iff.1 hx)
  have hlen : Hid ((0 :: q).length = i.cost.length) := by
    have h : (0 :: q).length = i.cost.length := by rw [hl.length_eq, List.length_range]
    exact h
  have n24 := rok.n2
  have n1 := rok.n1
  clear hl hc sq
  obtain ⟨kind, nn, cap, xw, xv, co⟩ := i
  obtain ⟨A, a, B, b, D, d, rfl, -, -, hC, -⟩ := H
  simp only at *
  subst hk hnn
  obtain ⟨cb, cof, _, _, _, rfl, _, _⟩ := cost_at rok hC (r := 0) (c := 0) (by omega) (by omega)
  have num := ends_num rok
  have CA := Lib.hid (fun (W : World) (x : Ext w W) (r c : Nat) (hr : r < co.length) (hc : c < co.length) => cost_in rok (hC.ext x fun _ _ h => h.ext x) hr hc)
  obtain ⟨tot, htot⟩ : ∃ tot, Hid (pathT co 0 q = tot) := ⟨_, rfl⟩
  rw [htot.out]
  have bt : 0 ≤ tot ∧ tot ≤ 2147483647 * 24 := by
    have h1 := pathT_bd num q 0 (by omega) fun x hx => hlt.out x (by simp [hx])
    have h2 := hlen.out
    rw [List.length_cons] at h2
    rw [htot.out] at h1
    omega
  have START : Hid ((0 : Int) + restW co ((0 :: q).drop 0) = tot) := by
    have h : (0 : Int) + restW co ((0 :: q).drop 0) = tot := by rw [← htot.out]; simp [restW]
    exact h
  obtain ⟨l, hll⟩ : ∃ l, Hid (0 :: q = l) := ⟨_, rfl⟩
  have h00 : Hid (l[0]? = some 0) := by
    have h : l[0]? = some 0 := by rw [← hll.out]; rfl
    exact h
  rw [hll.out] at hP hlt hlen START
  obtain ⟨pb, po, x0, rfl, zp0, cp0, ep0, _⟩ := hP.at (k := 0) (by rw [intsN_len, hlen.out]; omega)
  obtain rfl : x0 = 0 := by
    have h := ep0.out
    rw [intsN_at h00.out] at h
    exact (Option.some.inj h).symm
  replace cp0 : w.cell? ⟨pb, po, none⟩ = some (.int .i64 0) := cp0
  have DR : Hid (∀ k, k < co.length → ∃ u, l[k]? = some u ∧ u < co.length ∧ l.drop k = u :: l.drop (k + 1)) := fun k hk => by
    have h : k < l.length := by rw [hlen.out]; exact hk
    exact ⟨l[k], List.getElem?_eq_getElem h, hlt.out _ (List.getElem_mem h), List.drop_eq_getElem_cons h⟩
  replace CH := Lib.hid CH
  replace OY := Lib.hid OY
  replace hP := Lib.hid hP
  replace hC := Lib.hid hC
  replace rok := Lib.hid rok
  replace num := Lib.hid num
  have B1 : Hid (Blk (w.alloc (.cells #[.int .i64 3, .int .i64 co.length, .int .i64 cap, .slice A xw.length a, .slice B xv.length b, .slice (some ⟨cb, cof, none⟩) co.length d] 25)) w.heap.size 25 #[.int .i64 3, .int .i64 co.length, .int .i64 cap, .slice A xw.length a, .slice B xv.length b, .slice (some ⟨cb, cof, none⟩) co.length d]) := .new rfl
  have q00 : (0 : Int) < (co.length : Int) := by omega
  clear ep0
  go_enter Tryd.func75, Tryd.ntmps75
  go_wp2_with (fail)
  refine (CH.out _ (by (repeat (first | assumption | exact Ext.rf _ | apply Ext.drew | apply Ext.drewN | apply Ext.alloc)))).mono ?_
  rintro e w1 ⟨rfl, x1⟩
  have X1 := Lib.hid (Ext.tr (a := w) (by (repeat (first | assumption | exact Ext.rf _ | apply Ext.drew | apply Ext.drewN | apply Ext.alloc))) x1)
  have b1 := Lib.hid (B1.out.ext x1)
  have t0 : w1.cell? ⟨w.heap.size, 0, none⟩ = some (.int .i64 3) := b1.out.cell 0
  have t1 : w1.cell? ⟨w.heap.size, 1, none⟩ = some (.int .i64 co.length) := b1.out.cell 1
  clear x1 B1
  go_wp2_with (fail)
  refine (OY.out _ (X1.out.tr (by (repeat (first | assumption | exact Ext.rf _ | apply Ext.drew | apply Ext.drewN | apply Ext.alloc))))).mono ?_
  rintro e w2 ⟨rfl, x2⟩
  have X2 := Lib.hid (X1.out.tr (Ext.tr (by (repeat (first | assumption | exact Ext.rf _ | apply Ext.drew | apply Ext.drewN | apply Ext.alloc))) x2))
  have BC := Lib.hid (b1.out.ext (Ext.tr (by (repeat (first | assumption | exact Ext.rf _ | apply Ext.drew | apply Ext.drewN | apply Ext.alloc))) x2))
  have s0 : w2.cell? ⟨w.heap.size, 0, none⟩ = some (.int .i64 3) := BC.out.cell 0
  have e2 : w2.cell? ⟨pb, po, none⟩ = some (.int .i64 0) := keepEL X2.out zp0 cp0
  clear x2 b1 X1 t0 t1
  go_wp2_with (fail)
  go_loopw [7, 44] (fun s v wr => ∃ (k : Nat) (su : Int), v = .int .i64 k ∧ s = .int .i64 su ∧ k ≤ co.length ∧ Hid (0 ≤ su ∧ su + restW co (l.drop k) = tot) ∧ Hid (Ext w2 wr)) (fun _ v _ => co.length - (intOf v).toNat)
  case atStart => exact ⟨0, 0, rfl, rfl, by omega, by exact (show (0 : Int) ≤ 0 ∧ (0 : Int) + restW co (l.drop 0) = tot from ⟨by omega, START.out⟩), Ext.rf _⟩
  case round =>
    clear s0
    obtain ⟨wo, rfl⟩ : ∃ wo : World, wo = wr := ⟨_, rfl⟩
    obtain ⟨k, su, rfl, rfl, hk, HS, Y⟩ := hrel
    have s0 : wo.cell? ⟨w.heap.size, 0, none⟩ = some (.int .i64 3) := (BC.out.ext Y.out).cell 0
    have d1 : wo.cell? ⟨w.heap.size, 1, none⟩ = some (.int .i64 co.length) := (BC.out.ext Y.out).cell 1
    have d5 : wo.cell? ⟨w.heap.size, 5, none⟩ = some (.slice (some ⟨cb, cof, none⟩) co.length d) := (BC.out.ext Y.out).cell 5
    have XW := Lib.hid (X2.out.tr Y.out)
    clear e2 START
    by_cases hkl : k < co.length
    · obtain ⟨u, ek, hun, edr⟩ := DR.out k hkl
      obtain ⟨pb', po', xu, hPq, zpk, cpk, epk, _⟩ := (hP.out.ext XW.out).at (k := k) (by rw [intsN_len, hlen.out]; exact hkl)
      obtain ⟨rfl, rfl⟩ : pb = pb' ∧ po = po' := by simpa using hPq
      obtain rfl : xu = (u : Int) := by
        have h := epk.out
        rw [intsN_at ek] at h
        exact (Option.some.inj h).symm
      have HS1 := HS.out
      rw [edr] at HS1
      have q1 : (k : Int) < (co.length : Int) := by omega
      have q2 : (u : Int) < (co.length : Int) := by omega
      have hw0 : IntKind.i64.wrap ((k : Int) + 1) = (k : Int) + 1 := IntWalk.i64_in _ (by omega)
      clear ek edr hPq epk HS
      by_cases hlast : k + 1 = co.length
      · have e1 : l.drop (k + 1) = [] := List.drop_of_length_le (by rw [hlen.out]; omega)
        rw [e1] at HS1
        obtain ⟨rb, ro, d', c1, c2⟩ := CA.out _ XW.out u 0 hun (by omega)
        have nu := num.out u 0 hun (by omega)
        obtain ⟨y, hy⟩ : ∃ y, Hid (costAt co u 0 = y) := ⟨_, rfl⟩
        simp only [restW, pathT] at HS1
        rw [hy.out] at c2 nu HS1
        replace c2 : wo.cell? ⟨rb, ro, none⟩ = some (.int .i64 y) := c2
        have hrem : ((k : Int) + 1).tmod (co.length : Int) = 0 := by
          have h : (k : Int) + 1 = (co.length : Int) := by omega
          rw [h, Int.tmod_self]
        have hw1 : IntKind.i64.wrap 0 = 0 := IntWalk.i64_in _ (by omega)
        have hw : IntKind.i64.wrap (su + y) = su + y := IntWalk.i64_in _ (by omega)
        have p0 : wo.cell? ⟨pb, po, none⟩ = some (.int .i64 0) := keepEL XW.out zp0 cp0
        have NEW : Hid (0 ≤ su + y ∧ su + y + restW co (l.drop (k + 1)) = tot) := by
          have h : 0 ≤ su + y ∧ su + y + restW co (l.drop (k + 1)) = tot := by
            rw [e1]
            simp only [restW]
            omega
          exact h
        have hnz : ((co.length : Int) == 0) = false := by rw [beq_eq_false_iff_ne]; omega
        clear HS1 e1
        replace hlast := Lib.hid hlast
        go_wp2_with (fail)
        go_quiet (fail)
        go_wp2_with (fail)
        go_roundw
        case rel => exact ⟨k + 1, su + y, by go_num, rfl, by omega, NEW, Y.out.drewN _⟩
        case measure => simp [intOf]; omega
      · have hk1 : k + 1 < co.length := by omega
        obtain ⟨v, ek1, hvn, edr1⟩ := DR.out (k + 1) hk1
        obtain ⟨pb', po', xu, hPq, zpk1, cpk1, epk1, _⟩ := (hP.out.ext XW.out).at (k := k + 1) (by rw [intsN_len, hlen.out]; exact hk1)
        obtain ⟨rfl, rfl⟩ : pb = pb' ∧ po = po' := by simpa using hPq
        obtain rfl : xu = (v : Int) := by
          have h := epk1.out
          rw [intsN_at ek1] at h
          exact (Option.some.inj h).symm
        rw [edr1] at HS1
        obtain ⟨rb, ro, d', c1, c2⟩ := CA.out _ XW.out u v hun hvn
        have nu := num.out u v hun hvn
        obtain ⟨y, hy⟩ : ∃ y, Hid (costAt co u v = y) := ⟨_, rfl⟩
        simp only [restW, pathT] at HS1
        rw [hy.out] at c2 nu HS1
        have hpp := (pathT_bd num.out (l.drop (k + 1 + 1)) v hvn fun x hx => hlt.out x (List.mem_of_mem_drop hx)).1
        have hrem : ((k : Int) + 1).tmod (co.length : Int) = ((k + 1 : Nat) : Int) := by
          rw [Int.tmod_eq_emod_of_nonneg (by omega), Int.emod_eq_of_lt (by omega) (by omega)]
          omega
        have hw1 : IntKind.i64.wrap ((k + 1 : Nat) : Int) = ((k + 1 : Nat) : Int) := IntWalk.i64_in _ (by omega)
        have hw : IntKind.i64.wrap (su + y) = su + y := IntWalk.i64_in _ (by omega)
        have NEW : Hid (0 ≤ su + y ∧ su + y + restW co (l.drop (k + 1)) = tot) := by
          have h : 0 ≤ su + y ∧ su + y + restW co (l.drop (k + 1)) = tot := by
            rw [edr1]
            simp only [restW]
            omega
          exact h
        have q3 : (v : Int) < (co.length : Int) := by omega
        have q4 : ((k + 1 : Nat) : Int) < (co.length : Int) := by omega
        have hnz : ((co.length : Int) == 0) = false := by rw [beq_eq_false_iff_ne]; omega
        clear HS1 edr1 ek1 hPq epk1 hpp
        replace hlast := Lib.hid hlast
        go_wp2_with (fail)
        go_quiet (fail)
        go_wp2_with (fail)
        go_roundw
        case rel => exact ⟨k + 1, su + y, by go_num, rfl, by omega, NEW, Y.out.drewN _⟩
        case measure => simp [intOf]; omega
    · have q1 : ¬ (k : Int) < (co.length : Int) := by omega
      have HS2 : Hid (su = tot) := by
        have h := HS.out.2
        rw [List.drop_of_length_le (by rw [hlen.out]; omega)] at h
        simp only [restW] at h
        have h2 : su = tot := by omega
        exact h2
      go_wp2_with (fail)
      go_ret2
      rw [HS2.out]
      exact ⟨rfl, XW.out⟩
set_option maxRecDepth 100000 in
set_option maxHeartbeats 1000000 in
theorem takes3_any (i : InstP) (us : List Value) (w : World) (H : RInst w us i) (hc : checkP i = 0) (hk : i.kind = 3) (h12 : i.n ≤ 12) :
    Calls Tryd.prog 62 #[.agg (List.toArray us), .int .i64 3] w fun e w' => e = .returned (.int .i64 0) ∧ Ext w w' := by
  have sq := square_ok hc (by omega)
  have CH := fun (W : World) (x : Ext w W) => check_any i us W (H.ext x) (by rw [sq.w]; simp) (by rw [sq.v]; simp)
  rw [hc] at CH
  obtain ⟨kind, nn, cap, xw, xv, co⟩ := i
  obtain ⟨A, a, B, b, D, d, rfl, -, -, -⟩ := H
  simp only at *
  subst hk
  have B1 : Hid (Blk (w.alloc (.cells #[.int .i64 3, .int .i64 nn, .int .i64 cap, .slice A xw.length a, .slice B xv.length b, .slice D co.length d] 25)) w.heap.size 25 #[.int .i64 3, .int .i64 nn, .int .i64 cap, .slice A xw.length a, .slice B xv.length b, .slice D co.length d]) := .new rfl
  replace CH := Lib.hid CH
  clear hc sq
  have hq : ¬ 12 < nn := by omega
  go_enter Tryd.func62, Tryd.ntmps62
  go_wp2_with (fail)
  refine (CH.out _ (by (repeat (first | assumption | exact Ext.rf _ | apply Ext.drew | apply Ext.drewN | apply Ext.alloc)))).mono ?_
  rintro e w1 ⟨rfl, x1⟩
  have X1 := Lib.hid (Ext.tr (a := w) (by (repeat (first | assumption | exact Ext.rf _ | apply Ext.drew | apply Ext.drewN | apply Ext.alloc))) x1)
  have b1 := Lib.hid (B1.out.ext x1)
  have t0 : w1.cell? ⟨w.heap.size, 0, none⟩ = some (.int .i64 3) := b1.out.cell 0
  have t1 : w1.cell? ⟨w.heap.size, 1, none⟩ = some (.int .i64 nn) := b1.out.cell 1
  clear x1 B1
  go_wp2_with (fail)
  go_ret
  exact ⟨rfl, X1.out.tr (by (repeat (first | assumption | exact Ext.rf _ | apply Ext.drew | apply Ext.drewN | apply Ext.alloc)))⟩
set_option maxRecDepth 100000 in
set_option maxHeartbeats 1000000 in
theorem told3_any (i : InstP) (us : List Value) (P : Option Addr) (c : Nat) (q : List Nat) (w : World) (H : RInst w us i) (hc : checkP i = 0) (hk : i.kind = 3) (hP : RdI w P (intsN (0 :: q))) (hl : (0 :: q).Perm (List.range i.cost.length)) :
    Calls Tryd.prog 66 #[.agg (List.toArray us), .slice P i.cost.length c] w fun e w' => e = .returned (.tuple #[.slice P i.cost.length c, .int .i64 (pathT i.cost 0 q), .int .i64 0]) ∧ Ext w w' := by
  have VC := fun (W : World) (x : Ext w W) => vcost3_any i us P c q W (H.ext x) hc hk (hP.ext x) hl
  obtain ⟨kind, nn, cap, xw, xv, co⟩ := i
  obtain ⟨A, a, B, b, D, d, rfl, -, -, -⟩ := H
  simp only at *
  generalize pathT co 0 q = cc at *
  replace VC := Lib.hid VC
  clear hc hk hP hl
  go_enter Tryd.func66, Tryd.ntmps66
  go_wp2_with (fail)
  refine (VC.out _ (by (repeat (first | assumption | exact Ext.rf _ | apply Ext.drew | apply Ext.drewN | apply Ext.alloc)))).mono ?_
  rintro e w1 ⟨rfl, x1⟩
  have X1 := Lib.hid (Ext.tr (a := w) (by (repeat (first | assumption | exact Ext.rf _ | apply Ext.drew | apply Ext.drewN | apply Ext.alloc))) x1)
  clear x1
  go_wp2_with (fail)
  go_ret3
  exact ⟨rfl, X1.out.tr (by (repeat (first | assumption | exact Ext.rf _ | apply Ext.drew | apply Ext.drewN | apply Ext.alloc)))⟩
end Go.Proofs.YtleckhbmciiooaaDoor
namespace Go.Proofs.YtleckhbmciiooaaDoor
open Go.RowKit Go.ChangeShapes Go.WideShapes Go.ChangeAt

/-- the first i and the last i have changed places -/
def RevTo (xs ys : List Int) (i : Nat) : Prop := ys.length = xs.length ∧ ∀ k, k < xs.length → ys[k]? = if k < i ∨ xs.length - i ≤ k then xs[xs.length - 1 - k]? else xs[k]?
theorem RevTo.start (xs : List Int) : RevTo xs xs 0 := ⟨rfl, fun k hk => by rw [if_neg (by omega)]⟩
theorem RevTo.step {xs ys : List Int} {i : Nat} {x y : Int} (h : RevTo xs ys i) (hi : i + i + 1 < xs.length) (hx : ys[i]? = some x) (hy : ys[xs.length - 1 - i]? = some y) : RevTo xs ((ys.set i y).set (xs.length - 1 - i) x) (i + 1) := by
  obtain ⟨h1, h2⟩ := h
  have ei := h2 i (by omega)
  have ej := h2 (xs.length - 1 - i) (by omega)
  rw [if_neg (by omega), hx] at ei
  rw [if_neg (by omega), hy] at ej
  refine ⟨by simpa using h1, fun k hk => ?_⟩
  by_cases hkj : xs.length - 1 - i = k
  · subst hkj
    rw [List.getElem?_set_self (by simp; omega), if_pos (by omega), show xs.length - 1 - (xs.length - 1 - i) = i by omega, ← ei]
  · rw [List.getElem?_set_ne hkj]
    by_cases hki : i = k
    · subst hki
      rw [List.getElem?_set_self (by omega), if_pos (by omega), ← ej]
    · rw [List.getElem?_set_ne hki, h2 k hk]
      by_cases hc : k < i ∨ xs.length - i ≤ k
      · rw [if_pos hc, if_pos (by omega)]
      · rw [if_neg hc, if_neg (by omega)]
theorem RevTo.done {xs ys : List Int} {i : Nat} (h : RevTo xs ys i) (hi : xs.length ≤ i + i + 1) : ys = xs.reverse := by
  obtain ⟨h1, h2⟩ := h
  apply List.ext_getElem?
  intro k
  by_cases hk : k < xs.length
  · rw [h2 k hk, List.getElem?_reverse hk]
    split
    · rfl
    · rw [show xs.length - 1 - k = k by omega]
  · rw [List.getElem?_eq_none (by omega), List.getElem?_eq_none (by simp; omega)]
theorem reverse_any (A : Option Addr) (c base : Nat) (xs : List Int) (w : World) (h : OwI w base A c xs) (hl : xs.length ≤ 2 ^ 44) :
    Calls Tryd.prog 70 #[.slice A xs.length c] w fun e w' => e = .returned (.tuple #[]) ∧ OwI w' base A c xs.reverse ∧ Mod (fun k => bl A = some k) w w' := by
  go_enter Tryd.func70, Tryd.ntmps70
  go_wp2_with fail
  go_loopw [2, 3] (fun i j wr => ∃ (k : Nat) (ys : List Int), i = .int .i64 k ∧ j = .int .i64 ((xs.length : Int) - 1 - k) ∧ k + k ≤ xs.length ∧ RevTo xs ys k ∧ OwI wr base A c ys ∧ Mod (fun k => bl A = some k) w wr) (fun i _ _ => xs.length - (intOf i).toNat)
  case atStart => exact ⟨0, xs, rfl, by simp, by omega, RevTo.start _, h, Mod.rf _⟩
  case round =>
    obtain ⟨k, ys, rfl, rfl, hk, hr, ho, hm⟩ := hrel
    by_cases hlt : k + k + 1 < xs.length
    · have hly : ys.length = xs.length := hr.1
      obtain ⟨g, x, rfl, hg, hgl, hc1, hf1, hx, hs1⟩ := ho.at (k := k) (by omega)
      obtain ⟨y, hc2, hf2, _, hy, _⟩ := ho.cell (k := xs.length - 1 - k) (by omega)
      obtain ⟨_, _, _, _, _, hs2⟩ := (hs1.out y).cell (k := xs.length - 1 - k) (by rw [List.length_set]; omega)
      have hr2 := Lib.hid (hr.step hlt hx.out hy.out)
      replace hly := Lib.hid hly
      replace hr := Lib.hid hr
      replace ho := Lib.hid ho
      have hlt' : (k : Int) < (xs.length : Int) - 1 - k := by omega
      have hej : (xs.length : Int) - 1 - (k : Int) = ((xs.length - 1 - k : Nat) : Int) := by omega
      rw [hej] at hlt' ⊢
      generalize hj : xs.length - 1 - k = j at *
      have hkj : k < j := by omega
      have hjl : j < xs.length := by omega
      replace hj := Lib.hid hj
      replace hej := Lib.hid hej
      go_wp2_with (go_region)
      go_roundw
      case rel => exact ⟨k + 1, _, by go_num, by congr 1; have := hej.out; omega, by omega, hr2.out, (hs2.out x).ext ((Ext.rf _).drew), ((hm.set (p := ⟨g, k, none⟩) (.inl rfl) _).set (p := ⟨g, j, none⟩) (.inl rfl) _).drew⟩
      case measure => simp [intOf]; omega
    · have hle : ¬ (k : Int) < (xs.length : Int) - 1 - k := by omega
      go_wp2
      go_end0
      exact ⟨rfl, by have := hr.done (by omega); rw [← this]; exact ho, hm⟩
end Go.Proofs.YtleckhbmciiooaaDoor
namespace Go.Proofs.YtleckhbmciiooaaDoor

/-- so many rows have their columns: no way costs less than its prices, a row's own just them -/
structure HI (n : Nat) (cst : Nat → Nat → Int) (r : Nat) (u v : Nat → Int) (has : Nat → Nat) : Prop where
  le : ∀ c, 1 ≤ c → c ≤ n → has c ≤ r
  all : ∀ i, 1 ≤ i → i ≤ r → ∃ c, 1 ≤ c ∧ c ≤ n ∧ has c = i
  inj : ∀ c c', 1 ≤ c → c ≤ n → 1 ≤ c' → c' ≤ n → has c = has c' → has c ≠ 0 → c = c'
  slack : ∀ i c, 1 ≤ i → i ≤ n → 1 ≤ c → c ≤ n → u i + v c ≤ cst i c
  tight : ∀ c, 1 ≤ c → c ≤ n → has c ≠ 0 → cst (has c) c = u (has c) + v c
  free : ∀ c, 1 ≤ c → c ≤ n → has c = 0 → v c = 0
  neg : ∀ c, 1 ≤ c → c ≤ n → v c ≤ 0
  pos : ∀ i, 0 ≤ u i
  fresh : ∀ i, r < i → u i = 0
theorem HI.start {n : Nat} {cst : Nat → Nat → Int} (num : ∀ i c, 1 ≤ i → i ≤ n → 1 ≤ c → c ≤ n → 0 ≤ cst i c) : HI n cst 0 (fun _ => 0) (fun _ => 0) (fun _ => 0) where
  le := fun _ _ _ => Nat.le_refl _
  all := fun i h1 h2 => by omega
  inj := fun _ _ _ _ _ _ _ h => absurd rfl h
  slack := fun i c h1 h2 h3 h4 => by have := num i c h1 h2 h3 h4; omega
  tight := fun _ _ _ h => absurd rfl h
  free := fun _ _ _ _ => rfl
  neg := fun _ _ _ => Int.le_refl _
  pos := fun _ => Int.le_refl _
  fresh := fun _ _ => rfl
/-- no more numbers below n than n, each once -/
theorem nodup_le {l : List Nat} {n : Nat} (hd : l.Nodup) (h : ∀ x ∈ l, x < n) : l.length ≤ n := by
  have hp : l.Perm ((List.range n).filter fun x => decide (x ∈ l)) := by
    refine (List.perm_ext_iff_of_nodup hd (List.Pairwise.filter _ List.nodup_range)).2 fun x => ?_
    rw [List.mem_filter, List.mem_range]
    exact ⟨fun hx => ⟨h x hx, decide_eq_true hx⟩, fun hx => of_decide_eq_true hx.2⟩
  rw [hp.length_eq]
  have := List.length_filter_le (fun x => decide (x ∈ l)) (List.range n)
  rwa [List.length_range] at this
/-- as long as a row has none there is a column that nobody has -/
theorem HI.some_free {n : Nat} {cst : Nat → Nat → Int} {r : Nat} {u v : Nat → Int} {has : Nat → Nat} (h : HI n cst r u v has) (hr : r < n) : ∃ c, 1 ≤ c ∧ c ≤ n ∧ has c = 0 := by
  cases hd : decide (∃ c, c < n ∧ has (c + 1) = 0) with
  | true =>
    obtain ⟨c, h1, h2⟩ := of_decide_eq_true hd
    exact ⟨c + 1, by omega, by omega, h2⟩
  | false =>
    exfalso
    have hn := of_decide_eq_false hd
    have hne : ∀ c, c < n → has (c + 1) ≠ 0 := fun c hc e => hn ⟨c, hc, e⟩
    have hl := nodup_le (l := (List.range n).map fun c => has (c + 1) - 1) (n := r) ?_ ?_
    · rw [List.length_map, List.length_range] at hl
      omega
    · refine (List.pairwise_map.2 ?_)
      refine List.Pairwise.imp_of_mem ?_ List.nodup_range
      intro a b ha hb hab e
      have ha := List.mem_range.1 ha
      have hb := List.mem_range.1 hb
      have h1 := hne a ha
      have h2 := hne b hb
      have := h.inj (a + 1) (b + 1) (by omega) (by omega) (by omega) (by omega) (by omega) h1
      exact hab (by omega)
    · intro x hx
      obtain ⟨c, hc, rfl⟩ := List.mem_map.1 hx
      have hc := List.mem_range.1 hc
      have h1 := hne c hc
      have h2 := h.le (c + 1) (by omega) (by omega)
      omega
/-- while a way grows: L are the columns that were seen, in their order; at is where one stands -/
structure GI (n : Nat) (cst : Nat → Nat → Int) (far : Int) (R : Nat) (has : Nat → Nat) (L : List Nat) (at' : Nat) (u v least : Nat → Int) (frm : Nat → Nat) : Prop where
  nodup : (L ++ [at']).Nodup
  first : (L ++ [at']).head? = some 0
  le : ∀ c ∈ L ++ [at'], c ≤ n
  seen : ∀ c ∈ L, has c ≠ 0
  way : ∀ (A B : List Nat) (c : Nat), L ++ [at'] = A ++ c :: B → A ≠ [] → frm c ∈ A ∧ cst (has (frm c)) c = u (has (frm c)) + v c
  slack : ∀ i c, 1 ≤ i → i ≤ n → 1 ≤ c → c ≤ n → u i + v c ≤ cst i c
  tight : ∀ c, 1 ≤ c → c ≤ n → has c ≠ 0 → cst (has c) c = u (has c) + v c
  free : ∀ c, 1 ≤ c → c ≤ n → has c = 0 → v c = 0
  neg : ∀ c, 1 ≤ c → c ≤ n → v c ≤ 0
  pos : ∀ i, 0 ≤ u i
  fresh : ∀ i, R < i → u i = 0
  far0 : L = [] → ∀ c, 1 ≤ c → c ≤ n → least c = far
  least1 : ∀ c, 1 ≤ c → c ≤ n → c ∉ L → ∀ s ∈ L, least c ≤ cst (has s) c - u (has s) - v c
  least2 : L ≠ [] → ∀ c, 1 ≤ c → c ≤ n → c ∉ L → frm c ∈ L ∧ least c = cst (has (frm c)) c - u (has (frm c)) - v c
/-- what the rows that have columns, and the new one, are -/
structure HasOk (n R : Nat) (has : Nat → Nat) : Prop where
  le : ∀ c, c ≤ n → has c ≤ R
  zero : has 0 = R
  inj : ∀ c c', c ≤ n → c' ≤ n → has c = has c' → has c ≠ 0 → c = c'
  all : ∀ i, 1 ≤ i → i ≤ R → ∃ c, c ≤ n ∧ has c = i
theorem HI.hasOk {n : Nat} {cst : Nat → Nat → Int} {r : Nat} {u v : Nat → Int} {has has' : Nat → Nat} (h : HI n cst r u v has) (h0 : has' 0 = r + 1) (hs : ∀ c, 1 ≤ c → has' c = has c) : HasOk n (r + 1) has' where
  le := fun c hc => by
    by_cases e : c = 0
    · subst e; omega
    · rw [hs c (by omega)]
      have := h.le c (by omega) hc
      omega
  zero := h0
  inj := fun c c' hc hc' e hne => by
    by_cases e0 : c = 0
    · subst e0
      by_cases e1 : c' = 0
      · exact e1.symm
      · rw [hs c' (by omega), h0] at e
        have := h.le c' (by omega) hc'
        omega
    · by_cases e1 : c' = 0
      · subst e1
        rw [hs c (by omega), h0] at e
        have := h.le c (by omega) hc
        omega
      · rw [hs c (by omega), hs c' (by omega)] at e
        rw [hs c (by omega)] at hne
        exact h.inj c c' (by omega) hc (by omega) hc' e hne
  all := fun i h1 h2 => by
    by_cases e : i = r + 1
    · exact ⟨0, by omega, by rw [h0, e]⟩
    · obtain ⟨c, k1, k2, k3⟩ := h.all i h1 (by omega)
      exact ⟨c, k2, by rw [hs c k1]; exact k3⟩
theorem HI.grow {n : Nat} {cst : Nat → Nat → Int} {r : Nat} {u v least : Nat → Int} {has has' frm : Nat → Nat} {far : Int} (h : HI n cst r u v has) (hs : ∀ c, 1 ≤ c → has' c = has c) (hf : ∀ c, 1 ≤ c → c ≤ n → least c = far) : GI n cst far (r + 1) has' [] 0 u v least frm where
  nodup := by simp
  first := rfl
  le := fun c hc => by simp at hc; omega
  seen := fun c hc => by cases hc
  way := fun A B c e hA => by
    exfalso
    have := congrArg List.length e
    cases A with
    | nil => exact hA rfl
    | cons a A => simp at this
  slack := h.slack
  tight := fun c h1 h2 h3 => by
    rw [hs c h1] at h3 ⊢
    exact h.tight c h1 h2 h3
  free := fun c h1 h2 h3 => by
    rw [hs c h1] at h3
    exact h.free c h1 h2 h3
  neg := h.neg
  pos := h.pos
  fresh := fun i hi => h.fresh i (by omega)
  far0 := fun _ => hf
  least1 := fun c _ _ _ s hs => by cases hs
  least2 := fun h => absurd rfl h
section
variable {n R : Nat} {cst : Nat → Nat → Int} {far : Int} {has frm frm' : Nat → Nat} {L : List Nat} {a next : Nat} {u v least least' u' v' least2 : Nat → Int} {step : Int}
theorem GI.notin (h : GI n cst far R has L a u v least frm) : a ∉ L := fun ha => by
  have := List.nodup_append.1 h.nodup
  exact this.2.2 a ha a (by simp) rfl
/-- one round: the least ones are reckoned anew over the row of where one stands; all prices turn by the least of them -/
theorem GI.round (h : GI n cst far R has L a u v least frm) (ho : HasOk n R has) (hRn : R ≤ n) (hfar : ∀ i c, 1 ≤ i → i ≤ n → 1 ≤ c → c ≤ n → cst i c - u i - v c < far) (ha : has a ≠ 0)
    (k1 : ∀ c, 1 ≤ c → c ≤ n → c ∉ L ++ [a] → (cst (has a) c - u (has a) - v c < least c ∧ least' c = cst (has a) c - u (has a) - v c ∧ frm' c = a) ∨ (least c ≤ cst (has a) c - u (has a) - v c ∧ least' c = least c ∧ frm' c = frm c))
    (k1' : ∀ c, c ∈ L ++ [a] → frm' c = frm c)
    (k2 : 1 ≤ next ∧ next ≤ n ∧ next ∉ L ++ [a] ∧ step = least' next ∧ ∀ c, 1 ≤ c → c ≤ n → c ∉ L ++ [a] → step ≤ least' c)
    (k3 : ∀ i, u' i = if ∃ s, s ∈ L ++ [a] ∧ has s = i then u i + step else u i) (k4 : ∀ c, 1 ≤ c → c ≤ n → v' c = if c ∈ L ++ [a] then v c - step else v c) (k5 : ∀ c, 1 ≤ c → c ≤ n → c ∉ L ++ [a] → least2 c = least' c - step) :
    GI n cst far R has (L ++ [a]) next u' v' least2 frm' ∧ 0 ≤ step := by
  obtain ⟨n1, n2, n3, n4, n5⟩ := k2
  have hseen : ∀ s ∈ L ++ [a], has s ≠ 0 ∧ s ≤ n := fun s hs => by
    refine ⟨?_, h.le s hs⟩
    rcases List.mem_append.1 hs with hs | hs
    · exact h.seen s hs
    · obtain rfl := List.mem_singleton.1 hs
      exact ha
  have hrow : ∀ s ∈ L ++ [a], 1 ≤ has s ∧ has s ≤ n := fun s hs => by
    have := hseen s hs
    have h2 := ho.le s this.2
    omega
  -- the least ones over all that are seen now
  have l1 : ∀ c, 1 ≤ c → c ≤ n → c ∉ L ++ [a] → ∀ s ∈ L ++ [a], least' c ≤ cst (has s) c - u (has s) - v c := fun c h1 h2 h3 s hs => by
    have hcL : c ∉ L := fun hc => h3 (List.mem_append_left _ hc)
    have hk := k1 c h1 h2 h3
    rcases List.mem_append.1 hs with hs | hs
    · have := h.least1 c h1 h2 hcL s hs
      rcases hk with hk | hk <;> omega
    · obtain rfl := List.mem_singleton.1 hs
      rcases hk with hk | hk <;> omega
  have l2 : ∀ c, 1 ≤ c → c ≤ n → c ∉ L ++ [a] → frm' c ∈ L ++ [a] ∧ least' c = cst (has (frm' c)) c - u (has (frm' c)) - v c := fun c h1 h2 h3 => by
    have hcL : c ∉ L := fun hc => h3 (List.mem_append_left _ hc)
    rcases k1 c h1 h2 h3 with ⟨_, e1, e2⟩ | ⟨g1, e1, e2⟩
    · rw [e1, e2]
      exact ⟨by simp, rfl⟩
    · by_cases hL : L = []
      · exfalso
        have := h.far0 hL c h1 h2
        have h4 := hrow a (by simp)
        have := hfar (has a) c h4.1 h4.2 h1 h2
        omega
      · have := h.least2 hL c h1 h2 hcL
        rw [e1, e2]
        exact ⟨List.mem_append_left _ this.1, this.2⟩
  have hst : 0 ≤ step := by
    obtain ⟨m1, m2⟩ := l2 next n1 n2 n3
    have hr := hrow _ m1
    have := h.slack (has (frm' next)) next hr.1 hr.2 n1 n2
    omega
  have ex : ∀ i, (∃ s, s ∈ L ++ [a] ∧ has s = i) ∨ ¬ ∃ s, s ∈ L ++ [a] ∧ has s = i := fun i => Classical.em _
  have uin : ∀ s ∈ L ++ [a], u' (has s) = u (has s) + step := fun s hs => by rw [k3, if_pos ⟨s, hs, rfl⟩]
  have ule : ∀ i, u i ≤ u' i := fun i => by
    rw [k3]
    split <;> omega
  refine ⟨⟨?_, ?_, ?_, fun c hc => (hseen c hc).1, ?_, ?_, ?_, ?_, ?_, ?_, ?_, ?_, ?_, ?_⟩, hst⟩
  · exact List.nodup_append.2 ⟨h.nodup, by simp, fun x hx y hy e => by
      obtain rfl := List.mem_singleton.1 hy
      exact n3 (e ▸ hx)⟩
  · have := h.first
    rw [List.head?_append, this]
    rfl
  · intro c hc
    rcases List.mem_append.1 hc with hc | hc
    · exact h.le c hc
    · obtain rfl := List.mem_singleton.1 hc
      exact n2
  · -- the ways
    intro A B c e hA
    rcases List.eq_nil_or_concat B with rfl | ⟨B', b, rfl⟩
    · have e' : (L ++ [a]) ++ [next] = A ++ [c] := by simpa using e
      obtain ⟨e1, e2⟩ := List.append_inj' e' rfl
      obtain rfl : next = c := by simpa using e2
      subst e1
      obtain ⟨m1, m2⟩ := l2 next n1 n2 n3
      refine ⟨m1, ?_⟩
      rw [uin _ m1, k4 next n1 n2, if_neg n3]
      omega
    · rw [List.concat_eq_append] at e
      have e' : (L ++ [a]) ++ [next] = (A ++ c :: B') ++ [b] := by simpa using e
      obtain ⟨e1, _⟩ := List.append_inj' e' rfl
      have hc : c ∈ L ++ [a] := by rw [e1]; simp
      obtain ⟨m1, m2⟩ := h.way A B' c e1 hA
      rw [k1' c hc]
      refine ⟨m1, ?_⟩
      have hfc : frm c ∈ L ++ [a] := by rw [e1]; exact List.mem_append_left _ m1
      have c1 : 1 ≤ c := by
        rcases Nat.eq_zero_or_pos c with rfl | h1
        · exfalso
          cases A with
          | nil => exact hA rfl
          | cons x A =>
            have hf := h.first
            rw [e1] at hf
            obtain rfl : x = 0 := by simpa using hf
            have hn := h.nodup
            rw [e1] at hn
            exact (List.nodup_cons.1 hn).1 (by simp)
        · exact h1
      rw [uin _ hfc, k4 c c1 (h.le c hc), if_pos hc]
      omega
  · -- no way costs less than its prices
    intro i c h1 h2 h3 h4
    have hs := h.slack i c h1 h2 h3 h4
    rw [k3, k4 c h3 h4]
    by_cases hc : c ∈ L ++ [a]
    · rw [if_pos hc]
      split <;> omega
    · rw [if_neg hc]
      split
      · rename_i hi
        obtain ⟨s, hs1, rfl⟩ := hi
        have g1 := l1 c h3 h4 hc s hs1
        have g2 := n5 c h3 h4 hc
        omega
      · exact hs
  · -- a row's own way costs just its prices
    intro c h1 h2 h3
    have ht := h.tight c h1 h2 h3
    rw [k3, k4 c h1 h2]
    by_cases hc : c ∈ L ++ [a]
    · rw [if_pos ⟨c, hc, rfl⟩, if_pos hc]
      omega
    · rw [if_neg hc, if_neg]
      · exact ht
      · rintro ⟨s, hs1, hs2⟩
        have := ho.inj s c (hseen s hs1).2 h2 hs2 (hseen s hs1).1
        exact hc (this ▸ hs1)
  · intro c h1 h2 h3
    rw [k4 c h1 h2, if_neg (fun hc => (hseen c hc).1 h3)]
    exact h.free c h1 h2 h3
  · intro c h1 h2
    have := h.neg c h1 h2
    rw [k4 c h1 h2]
    split <;> omega
  · intro i
    have := h.pos i
    have := ule i
    omega
  · intro i hi
    rw [k3, if_neg]
    · exact h.fresh i hi
    · rintro ⟨s, hs1, hs2⟩
      have := ho.le s (hseen s hs1).2
      omega
  · intro e
    simp at e
  · intro c h1 h2 h3 s hs
    have g1 := l1 c h1 h2 h3 s hs
    rw [k5 c h1 h2 h3, uin s hs, k4 c h1 h2, if_neg h3]
    omega
  · intro _ c h1 h2 h3
    obtain ⟨m1, m2⟩ := l2 c h1 h2 h3
    refine ⟨m1, ?_⟩
    rw [k5 c h1 h2 h3, uin _ m1, k4 c h1 h2, if_neg h3]
    omega
end
end Go.Proofs.YtleckhbmciiooaaDoor
