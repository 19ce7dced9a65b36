/-
  The document's Check of a problem.
    The document's Check of the other problems, and whole.
  What the laws on kernels share: a copied problem.
  An assignment, plainly: a square in form; which columns a beginning leaves.
  Sets of numbers (Of), orders of 0 to n - 1, what an assignment's answer costs (value.Cost).
  Ways from city to city: what is left of a way, and how much it may cost at most.
  value.Cost, takes, told at a tour.
  slices.Reverse of ints, in place.
  An assignment by prices, plainly: what holds between rows, what holds while a way grows, and when it is turned; at the end no order costs less.
  exact.Tour: a best tour, and what it costs.
  A knapsack in form: what that says.
  value.Cost, told, takes at a knapsack: an answer as a set.
  The library function lies in this program: its bodies, its types, number by number.
  Loads of a knapsack: sorted by the library, in place: a permutation.
  Loads of a knapsack: worse, with.
  Loads of a knapsack: what is no better than something else is left out.
  But for one block, what was there is as it was; a slice of noughts made in a fenced walk.
-/
import Derived.Test.YtleckhbmciiooaaDoorExactBestP2
import Derived.Lib.Hide
import Derived.Shelf.SlLaysF0
import Derived.Shelf.SlSortCmp.WholeK
import Derived.Sort.BigQuietIn
namespace Go.Proofs.YtleckhbmciiooaaDoor
open Go.RowKit Go.ChangeShapes Go.WideShapes Go.ChangeAt Go.Deep

set_option maxRecDepth 100000 in
set_option maxHeartbeats 4000000 in
theorem rcheck_size (k n cap : Int) (a b c : Value) (w : World) (h : sizeP k n ≠ 0) :
    Calls Tryd.prog 29 #[.agg #[.int .i64 k, .int .i64 n, .int .i64 cap, a, b, c]] w fun e w' => e = .returned (.int .i64 (sizeP k n)) ∧ Ext w w' := by
  by_cases k0 : k < 1
  · have hs : Hid (sizeP k n = 14) := by
      have h : sizeP k n = 14 := by unfold sizeP; rw [if_neg (by omega), if_neg (by omega), if_neg (by omega)]
      exact h
    clear h
    go_enter Tryd.func29, Tryd.ntmps29
    go_wp2
    go_ret
    exact ⟨ret_i hs.out.symm, by (repeat (first | assumption | exact Ext.rf _ | apply Ext.drew | apply Ext.drewN | apply Ext.alloc))⟩
  · by_cases k3 : 3 < k
    · have hs : Hid (sizeP k n = 14) := by
        have h : sizeP k n = 14 := by unfold sizeP; rw [if_neg (by omega), if_neg (by omega), if_neg (by omega)]
        exact h
      clear h
      go_enter Tryd.func29, Tryd.ntmps29
      go_wp2
      go_ret
      exact ⟨ret_i hs.out.symm, by (repeat (first | assumption | exact Ext.rf _ | apply Ext.drew | apply Ext.drewN | apply Ext.alloc))⟩
    · by_cases n1 : n < 1
      · have hs : Hid (sizeP k n = 1) := by
          have h : sizeP k n = 1 := by
            unfold sizeP
            by_cases a1 : k = 1
            · rw [if_pos a1, if_pos n1]
            · rw [if_neg a1]
              by_cases a2 : k = 2
              · rw [if_pos a2, if_pos n1]
              · rw [if_neg a2, if_pos (by omega), if_pos n1]
          exact h
        clear h
        go_enter Tryd.func29, Tryd.ntmps29
        go_wp2
        go_ret
        exact ⟨ret_i hs.out.symm, by (repeat (first | assumption | exact Ext.rf _ | apply Ext.drew | apply Ext.drewN | apply Ext.alloc))⟩
      · by_cases a1 : k = 1
        · subst a1
          have n64 : 64 < n := by
            unfold sizeP at h
            rw [if_pos rfl, if_neg n1] at h
            by_cases h2 : 64 < n
            · exact h2
            · rw [if_neg h2] at h; exact absurd rfl h
          have hs : Hid (sizeP 1 n = 5) := by
            have h : sizeP 1 n = 5 := by unfold sizeP; rw [if_pos rfl, if_neg n1, if_pos n64]
            exact h
          clear h
          go_enter Tryd.func29, Tryd.ntmps29
          go_wp2
          go_ret
          exact ⟨ret_i hs.out.symm, by (repeat (first | assumption | exact Ext.rf _ | apply Ext.drew | apply Ext.drewN | apply Ext.alloc))⟩
        · have n24 : 24 < n := by
            unfold sizeP at h
            rw [if_neg a1] at h
            by_cases a2 : k = 2
            · rw [if_pos a2, if_neg n1] at h
              by_cases h2 : 24 < n
              · exact h2
              · rw [if_neg h2] at h; exact absurd rfl h
            · rw [if_neg a2, if_pos (by omega), if_neg n1] at h
              by_cases h2 : 24 < n
              · exact h2
              · rw [if_neg h2] at h; exact absurd rfl h
          have hs : Hid (sizeP k n = 5) := by
            have h : sizeP k n = 5 := by
              unfold sizeP
              rw [if_neg a1]
              by_cases a2 : k = 2
              · rw [if_pos a2, if_neg n1, if_pos n24]
              · rw [if_neg a2, if_pos (by omega), if_neg n1, if_pos n24]
            exact h
          have a1' : (k == 1) = false := by simpa using a1
          clear h a1
          have k1 : 1 < k := by
            have : k ≠ 1 := by simpa using a1'
            omega
          go_enter Tryd.func29, Tryd.ntmps29
          go_wp2
          go_ret
          exact ⟨ret_i hs.out.symm, by (repeat (first | assumption | exact Ext.rf _ | apply Ext.drew | apply Ext.drewN | apply Ext.alloc))⟩
set_option maxRecDepth 100000 in
set_option maxHeartbeats 4000000 in
theorem rcheck_1 (n : Nat) (cap : Int) (A B C : Option Addr) (a b c : Nat) (xs ys : List Int) (l : List (List Int)) (w : World) (hA : RdI w A xs) (hB : RdI w B ys) (n1 : 1 ≤ n) (n2 : n ≤ 64) :
    Calls Tryd.prog 29 #[.agg #[.int .i64 1, .int .i64 n, .int .i64 cap, .slice A xs.length a, .slice B ys.length b, .slice C l.length c]] w fun e w' => e = .returned (.int .i64 (if (((xs.length : Int) == (n : Int)) && ((ys.length : Int) == (n : Int)) && ((l.length : Int) == 0)) = true then itemsP cap xs ys xs.length else 8)) ∧ Ext w w' := by
  have B1 : Hid (Blk (w.alloc (.cells #[.int .i64 1, .int .i64 n, .int .i64 cap, .slice A xs.length a, .slice B ys.length b, .slice C l.length c] 25)) w.heap.size 25 #[.int .i64 1, .int .i64 n, .int .i64 cap, .slice A xs.length a, .slice B ys.length b, .slice C l.length c]) := .new rfl
  have nn1 : ¬ ((n : Int) < 1) := by omega
  have nn2 : ¬ ((64 : Int) < n) := by omega
  cases h1 : ((xs.length : Int) == (n : Int))
  · have h1' : ((xs.length : Int) != (n : Int)) = true := by simp only [bne, h1]; rfl
    go_enter Tryd.func29, Tryd.ntmps29
    go_wp2
    go_ret
    exact ⟨rfl, by (repeat (first | assumption | exact Ext.rf _ | apply Ext.drew | apply Ext.drewN | apply Ext.alloc))⟩
  · have h1' : ((xs.length : Int) != (n : Int)) = false := by simp only [bne, h1]; rfl
    cases h2 : ((ys.length : Int) == (n : Int))
    · have h2' : ((ys.length : Int) != (n : Int)) = true := by simp only [bne, h2]; rfl
      go_enter Tryd.func29, Tryd.ntmps29
      go_wp2
      go_ret
      exact ⟨rfl, by (repeat (first | assumption | exact Ext.rf _ | apply Ext.drew | apply Ext.drewN | apply Ext.alloc))⟩
    · have h2' : ((ys.length : Int) != (n : Int)) = false := by simp only [bne, h2]; rfl
      cases h3 : ((l.length : Int) == 0)
      · have h3' : ((l.length : Int) != 0) = true := by simp only [bne, h3]; rfl
        go_enter Tryd.func29, Tryd.ntmps29
        go_wp2
        go_ret
        exact ⟨rfl, by (repeat (first | assumption | exact Ext.rf _ | apply Ext.drew | apply Ext.drewN | apply Ext.alloc))⟩
      · have h3' : ((l.length : Int) != 0) = false := by simp only [bne, h3]; rfl
        have e1 : xs.length = n := by simp only [beq_iff_eq] at h1; omega
        have e2 : ys.length = n := by simp only [beq_iff_eq] at h2; omega
        have e3 : l.length = 0 := by simp only [beq_iff_eq] at h3; omega
        simp only [Bool.and_true, if_true]
        have HI := Lib.hid (itemsP_zero cap xs ys)
        have HST : Hid (∀ k, itemsP cap xs ys k ≠ 0 → itemsP cap xs ys xs.length = itemsP cap xs ys k) := fun k hk => itemsP_stop (by omega) hk
        rw [e1, e2, e3] at B1
        rw [e1] at HST
        rw [e1, e2, e3]
        clear h1 h1' h2 h2' h3 h3' e3
        replace e1 := Lib.hid e1
        replace e2 := Lib.hid e2
        go_enter Tryd.func29, Tryd.ntmps29
        go_wp2_with (fail)
        refine (number_any cap _).mono ?_
        rintro e w2 ⟨rfl, x2⟩
        have X2 := Lib.hid (Ext.tr (a := w) (by (repeat (first | assumption | exact Ext.rf _ | apply Ext.drew | apply Ext.drewN | apply Ext.alloc))) x2)
        have B2 := Lib.hid (B1.out.ext x2)
        clear x2
        by_cases hc : numP cap = 0
        · have hc' : (numP cap != 0) = false := by simpa using hc
          have H0 : Hid (itemsP cap xs ys 0 = 0) := by
            have h := HI.out
            rw [hc] at h
            exact h
          clear hc
          have d1 : w2.cell? ⟨w.heap.size, 1, none⟩ = some (.int .i64 n) := B2.out.cell 1
          go_wp2_with (fail)
          go_loopw [4] (fun i wr => ∃ k : Nat, i = .int .i64 k ∧ k ≤ n ∧ Hid (itemsP cap xs ys k = 0) ∧ Ext w wr ∧ Hid (Blk wr w.heap.size 25 #[.int .i64 1, .int .i64 n, .int .i64 cap, .slice A n a, .slice B n b, .slice C 0 c])) (fun i _ => n - (intOf i).toNat)
          case atStart => exact ⟨0, rfl, by omega, H0, X2.out, B2⟩
          case round =>
            obtain ⟨wo, rfl⟩ : ∃ wo : World, wo = wr := ⟨_, rfl⟩
            obtain ⟨k, rfl, hk, HK, Y, BB⟩ := hrel
            have c1 : wo.cell? ⟨w.heap.size, 1, none⟩ = some (.int .i64 n) := BB.out.cell 1
            have c3 : wo.cell? ⟨w.heap.size, 3, none⟩ = some (.slice A n a) := BB.out.cell 3
            by_cases hlt : k < n
            · obtain ⟨bb, off, x, rfl, _, hc1, hx1, _⟩ := (hA.ext Y).at (k := k) (by rw [e1.out]; exact hlt)
              obtain ⟨bb', off', y, rfl, zy, hc2, hy1, _⟩ := (hB.ext Y).at (k := k) (by rw [e2.out]; exact hlt)
              have S := Lib.hid (itemsP_succ hx1.out hy1.out HK.out)
              go_wp2_with (fail)
              refine (number_any x _).mono ?_
              rintro e w3 ⟨rfl, x3⟩
              have Y3 := Ext.tr Y x3
              have B3 := Lib.hid (BB.out.ext x3)
              have c4' : w3.cell? ⟨w.heap.size, 4, none⟩ = some (.slice (some ⟨bb', off', none⟩) n b) := B3.out.cell 4
              have hc2' := keepEL x3 zy hc2
              by_cases hn : numP x = 0
              · have hn' : (numP x != 0) = false := by simpa using hn
                have HN := Lib.hid hn
                clear hn c1 c3 hc1 hc2
                go_wp2_with (fail)
                refine (number_any y _).mono ?_
                rintro e w4 ⟨rfl, x4⟩
                have Y4 := Ext.tr Y3 x4
                have B4 := Lib.hid (B3.out.ext x4)
                have HR : Hid (itemsP cap xs ys (k + 1) = numP y) := by
                  have h1 := S.out
                  rw [if_pos HN.out] at h1
                  exact h1
                clear c4' hc2' hn'
                by_cases hm : numP y = 0
                · have hm' : (numP y != 0) = false := by simpa using hm
                  have HR2 : Hid (itemsP cap xs ys (k + 1) = 0) := by
                    have h := HR.out
                    rw [hm] at h
                    exact h
                  clear hm
                  go_wp2
                  go_roundw
                  case rel => exact ⟨k + 1, by go_num, by omega, HR2, Y4, B4⟩
                  case measure => simp [intOf]; omega
                · have hm' : (numP y != 0) = true := by simpa using hm
                  have HR2 : Hid (itemsP cap xs ys n = numP y) := by
                    have h := HST.out (k + 1) (by rw [HR.out]; exact hm)
                    rw [HR.out] at h
                    exact h
                  clear hm
                  go_wp2
                  go_ret
                  exact ⟨ret_i HR2.out.symm, Y4⟩
              · have hn' : (numP x != 0) = true := by simpa using hn
                have HR2 : Hid (itemsP cap xs ys n = numP x) := by
                  have h1 := S.out
                  rw [if_neg hn] at h1
                  have h := HST.out (k + 1) (by rw [h1]; exact hn)
                  rw [h1] at h
                  exact h
                clear hn c1 c3 c4' hc1 hc2 hc2'
                go_wp2
                go_ret
                exact ⟨ret_i HR2.out.symm, Y3⟩
            · obtain rfl : k = n := by omega
              clear c3
              go_wp2
              go_ret
              exact ⟨ret_i HK.out.symm, Y⟩
        · have hc' : (numP cap != 0) = true := by simpa using hc
          have HR2 : Hid (itemsP cap xs ys n = numP cap) := by
            have h := HST.out 0 (by rw [HI.out]; exact hc)
            rw [HI.out] at h
            exact h
          clear hc
          go_wp2
          go_ret
          exact ⟨ret_i HR2.out.symm, X2.out⟩
end Go.Proofs.YtleckhbmciiooaaDoor
namespace Go.Proofs.YtleckhbmciiooaaDoor
open Go.RowKit Go.ChangeShapes Go.WideShapes Go.ChangeAt Go.Deep

set_option maxRecDepth 100000 in
set_option maxHeartbeats 4000000 in
theorem rcheck_flat (k : Int) (n : Nat) (cap : Int) (A B C : Option Addr) (a b c : Nat) (xs ys : List Int) (l : List (List Int)) (w : World) (hk : k = 2 ∨ k = 3) (n1 : 1 ≤ n) (n2 : n ≤ 24)
    (h : (((l.length : Int) == (n : Int)) && (cap == 0) && decide (xs.length + ys.length = 0)) = false) :
    Calls Tryd.prog 29 #[.agg #[.int .i64 k, .int .i64 n, .int .i64 cap, .slice A xs.length a, .slice B ys.length b, .slice C l.length c]] w fun e w' => e = .returned (.int .i64 8) ∧ Ext w w' := by
  have nn1 : ¬ ((n : Int) < 1) := by omega
  have nn2 : ¬ ((24 : Int) < n) := by omega
  have k0 : ¬ k < 1 := by omega
  have k3 : ¬ 3 < k := by omega
  have k1 : 1 < k := by omega
  have kb : (k == 1) = false := by rw [beq_eq_false_iff_ne]; omega
  clear hk
  cases h1 : ((l.length : Int) == (n : Int))
  · have h1' : ((l.length : Int) != (n : Int)) = true := by simp only [bne, h1]; rfl
    clear h
    go_enter Tryd.func29, Tryd.ntmps29
    go_wp2
    go_ret
    exact ⟨rfl, by (repeat (first | assumption | exact Ext.rf _ | apply Ext.drew | apply Ext.drewN | apply Ext.alloc))⟩
  · have h1' : ((l.length : Int) != (n : Int)) = false := by simp only [bne, h1]; rfl
    cases h2 : (cap == 0)
    · have h2' : (cap != 0) = true := by simp only [bne, h2]; rfl
      clear h
      go_enter Tryd.func29, Tryd.ntmps29
      go_wp2
      go_ret
      exact ⟨rfl, by (repeat (first | assumption | exact Ext.rf _ | apply Ext.drew | apply Ext.drewN | apply Ext.alloc))⟩
    · have h2' : (cap != 0) = false := by simp only [bne, h2]; rfl
      have h3 : ¬ (xs.length + ys.length = 0) := by rw [h1, h2] at h; simpa using h
      clear h
      by_cases hx : xs.length = 0
      · have hxb : ((xs.length : Int) != 0) = false := by rw [bne_eq_false_iff_eq]; omega
        have hyb : ((ys.length : Int) != 0) = true := by rw [bne_iff_ne]; omega
        clear hx h3
        go_enter Tryd.func29, Tryd.ntmps29
        go_wp2
        go_ret
        exact ⟨rfl, by (repeat (first | assumption | exact Ext.rf _ | apply Ext.drew | apply Ext.drewN | apply Ext.alloc))⟩
      · have hxb : ((xs.length : Int) != 0) = true := by rw [bne_iff_ne]; omega
        clear hx h3
        go_enter Tryd.func29, Tryd.ntmps29
        go_wp2
        go_ret
        exact ⟨rfl, by (repeat (first | assumption | exact Ext.rf _ | apply Ext.drew | apply Ext.drewN | apply Ext.alloc))⟩
theorem any_take_succ {l : List (List Int)} {r : Nat} {row : List Int} (p : List Int → Bool) (h : l[r]? = some row) : (l.take (r + 1)).any p = ((l.take r).any p || p row) := by
  obtain ⟨hr, h⟩ := List.getElem?_eq_some_iff.1 h
  rw [List.take_succ_eq_append_getElem hr, List.any_append, h]
  simp
set_option maxRecDepth 100000 in
set_option maxHeartbeats 8000000 in
theorem rcheck_sq (k : Int) (n : Nat) (A B C : Option Addr) (a b c : Nat) (l : List (List Int)) (w : World) (hC : RdE 1 RInts w C l) (hk : k = 2 ∨ k = 3) (n1 : 1 ≤ n) (n2 : n ≤ 24) (hl : l.length = n) :
    Calls Tryd.prog 29 #[.agg #[.int .i64 k, .int .i64 n, .int .i64 0, .slice A 0 a, .slice B 0 b, .slice C n c]] w fun e w' => e = .returned (.int .i64 (if (l.any fun r => (r.length : Int) != (n : Int)) = true then 8 else rowsE k 0 l)) ∧ Ext w w' := by
  have nn1 : ¬ ((n : Int) < 1) := by omega
  have nn2 : ¬ ((24 : Int) < n) := by omega
  have k0 : ¬ k < 1 := by omega
  have k3 : ¬ 3 < k := by omega
  have k1 : 1 < k := by omega
  have kb : (k == 1) = false := by rw [beq_eq_false_iff_ne]; omega
  have B1 : Hid (Blk (w.alloc (.cells #[.int .i64 k, .int .i64 n, .int .i64 0, .slice A 0 a, .slice B 0 b, .slice C n c] 25)) w.heap.size 25 #[.int .i64 k, .int .i64 n, .int .i64 0, .slice A 0 a, .slice B 0 b, .slice C n c]) := .new rfl
  clear hk
  replace hl := Lib.hid hl
  obtain ⟨res, hres⟩ : ∃ res, Hid (res = if (l.any fun r => (r.length : Int) != (n : Int)) = true then 8 else rowsE k 0 l) := ⟨_, rfl⟩
  rw [← hres.out]
  go_enter Tryd.func29, Tryd.ntmps29
  go_wp2_with (fail)
  go_loopw [7] (fun i wr => ∃ r : Nat, i = .int .i64 r ∧ r ≤ n ∧ Hid (((l.take r).any fun r => (r.length : Int) != (n : Int)) = false) ∧ Ext w wr ∧ Hid (Blk wr w.heap.size 25 #[.int .i64 k, .int .i64 n, .int .i64 0, .slice A 0 a, .slice B 0 b, .slice C n c])) (fun i _ => n - (intOf i).toNat)
  case atStart => exact ⟨0, rfl, by omega, by exact rfl, by (repeat (first | assumption | exact Ext.rf _ | apply Ext.drew | apply Ext.drewN | apply Ext.alloc)), B1⟩
  case round =>
    obtain ⟨wo, rfl⟩ : ∃ wo : World, wo = wr := ⟨_, rfl⟩
    obtain ⟨r, rfl, hr, HA, Y, BB⟩ := hrel
    have c1 : wo.cell? ⟨w.heap.size, 1, none⟩ = some (.int .i64 n) := BB.out.cell 1
    have c5 : wo.cell? ⟨w.heap.size, 5, none⟩ = some (.slice C n c) := BB.out.cell 5
    by_cases hlt : r < n
    · obtain ⟨cb, co, D, row, d, rfl, _, hc1, hrow, HD, rr, ir, ld, md⟩ := (hC.ext Y fun _ _ h => h.ext Y).ints (r := r) (by rw [hl.out]; exact hlt)
      by_cases hlen : row.length = n
      · have hlb : ((row.length : Int) != (n : Int)) = false := by rw [bne_eq_false_iff_eq]; omega
        have HN : Hid (((l.take (r + 1)).any fun r => (r.length : Int) != (n : Int)) = false) := by
          have h : ((l.take (r + 1)).any fun r => (r.length : Int) != (n : Int)) = false := by rw [any_take_succ _ hrow.out, HA.out, hlb]; rfl
          exact h
        replace hlen := Lib.hid hlen
        go_wp2_with (go_quiet (fail))
        go_roundw
        case rel => exact ⟨r + 1, by go_num, by omega, HN, by repeat (first | exact Y | apply Ext.drewN), by repeat (first | exact BB | exact (Lib.hid BB.out))⟩
        case measure => simp [intOf]; omega
      · have hlb : ((row.length : Int) != (n : Int)) = true := by rw [bne_iff_ne]; omega
        have HN : Hid (res = 8) := by
          have h : res = 8 := by
            rw [hres.out, if_pos]
            exact List.any_eq_true.2 ⟨row, List.mem_of_getElem? hrow.out, hlb⟩
          exact h
        clear hlen
        go_wp2_with (go_quiet (fail))
        go_ret
        exact ⟨ret_i HN.out.symm, by repeat (first | exact Y | apply Ext.drewN)⟩
    · obtain rfl : r = n := by omega
      have HN : Hid (res = rowsE k 0 l) := by
        have h := HA.out
        rw [List.take_of_length_le (by rw [hl.out]; exact Nat.le_refl _)] at h
        have h2 : res = rowsE k 0 l := by rw [hres.out, if_neg (by rw [h]; decide)]
        exact h2
      have HL : Hid (∀ row ∈ l, row.length = r) := fun row hrow => by
        have h := HA.out
        rw [List.take_of_length_le (by rw [hl.out]; exact Nat.le_refl _)] at h
        have h2 := List.any_eq_false.1 h row hrow
        simp at h2
        omega
      clear HA hlt
      clear c5
      go_wp2_with (fail)
      clear c1
      go_loopw [8] (fun i wr => ∃ q : Nat, i = .int .i64 q ∧ q ≤ r ∧ Hid (rowsE k 0 l = rowsE k q (l.drop q)) ∧ Ext w wr ∧ Hid (Blk wr w.heap.size 25 #[.int .i64 k, .int .i64 r, .int .i64 0, .slice A 0 a, .slice B 0 b, .slice C r c])) (fun i _ => r - (intOf i).toNat)
      case atStart => exact ⟨0, rfl, by omega, by exact rfl, Y, BB⟩
      case round =>
        obtain ⟨w1, rfl⟩ : ∃ w1 : World, w1 = wr := ⟨_, rfl⟩
        obtain ⟨q, rfl, hq, HT, Y1, B2⟩ := hrel
        have c1 : w1.cell? ⟨w.heap.size, 1, none⟩ = some (.int .i64 r) := B2.out.cell 1
        by_cases hlt : q < r
        · obtain ⟨cb, co, D, row, d, rfl, _, hc1, hrow, HD, rr, ir, ld, md⟩ := (hC.ext Y1 fun _ _ h => h.ext Y1).ints (r := q) (by rw [hl.out]; exact hlt)
          have hlen : Hid (row.length = r) := HL.out row (List.mem_of_getElem? hrow.out)
          have hlen2 : row.length = r := hlen.out
          rw [hlen2] at hc1 ld
          clear hlen2 hc1
          go_wp2_with (fail)
          go_loopw [9] (fun i wr => ∃ j : Nat, i = .int .i64 j ∧ j ≤ r ∧ Hid (rowE k q 0 row = rowE k q j (row.drop j)) ∧ Ext w wr ∧ Hid (Blk wr w.heap.size 25 #[.int .i64 k, .int .i64 r, .int .i64 0, .slice A 0 a, .slice B 0 b, .slice (some ⟨cb, co, none⟩) r c])) (fun i _ => r - (intOf i).toNat)
          case atStart => exact ⟨0, rfl, by omega, by exact rfl, Y1, B2⟩
          case round =>
            obtain ⟨w3, rfl⟩ : ∃ w3 : World, w3 = wr := ⟨_, rfl⟩
            obtain ⟨j, rfl, hj, HJ, Y2, B3⟩ := hrel
            have c1' : w3.cell? ⟨w.heap.size, 1, none⟩ = some (.int .i64 r) := B3.out.cell 1
            by_cases hlj : j < r
            · obtain ⟨cb', co', D', row', d', e9, zc, hc1, hrow', _, rr', ir', ld', md'⟩ := (hC.ext Y2 fun _ _ h => h.ext Y2).ints (r := q) (by rw [hl.out]; exact hlt)
              obtain ⟨rfl, rfl⟩ : cb = cb' ∧ co = co' := by injection e9 with h; injection h with h1 h2; exact ⟨h1, h2⟩
              obtain rfl : row = row' := by
                have h := hrow.out
                rw [hrow'.out] at h
                exact (Option.some.inj h).symm
              obtain ⟨bb, off', x, rfl, zx, hc2, _, hd2⟩ := rr'.at (k := j) (by rw [hlen.out]; exact hlj)
              have hl9 : row.length = r := hlen.out
              rw [hl9] at hc1 ld'
              have c5' : w3.cell? ⟨w.heap.size, 5, none⟩ = some (.slice (some ⟨cb, co, none⟩) r c) := B3.out.cell 5
              clear hl9 e9
              go_wp2_with (fail)
              refine (number_any x _).mono ?_
              rintro e w4 ⟨rfl, x4⟩
              have Y3 := Ext.tr Y2 x4
              have B4 := Lib.hid (B3.out.ext x4)
              have k0' : w4.cell? ⟨w.heap.size, 0, none⟩ = some (.int .i64 k) := B4.out.cell 0
              have k5' : w4.cell? ⟨w.heap.size, 5, none⟩ = some (.slice (some ⟨cb, co, none⟩) r c) := B4.out.cell 5
              have hc1' := keepEL x4 zc hc1
              have hc2' := keepEL x4 zx hc2
              clear hc1 hc2 c5' c1'
              by_cases hn : numP x = 0
              · have hn' : (numP x != 0) = false := by simpa using hn
                have HN0 := Lib.hid hn
                clear hn
                by_cases k3e : k = 3
                · subst k3e
                  by_cases hrj : q = j
                  · subst hrj
                    by_cases hx : x = 0
                    · have hx' : (x != 0) = false := by simpa using hx
                      have HR : Hid (rowE 3 q 0 row = rowE 3 q (q + 1) (row.drop (q + 1))) := by
                        have h1 := HJ.out
                        rw [hd2.out, rowE, if_pos HN0.out, if_neg (by simp [hx])] at h1
                        exact h1
                      clear hx
                      go_wp2
                      go_roundw
                      case rel => exact ⟨q + 1, by go_num, by omega, HR, Y3, B4⟩
                      case measure => simp [intOf]; omega
                    · have hx' : (x != 0) = true := by simpa using hx
                      have HR : Hid (res = 8) := by
                        have h1 := HJ.out
                        rw [hd2.out, rowE, if_pos HN0.out, if_pos ⟨rfl, rfl, hx⟩] at h1
                        have h2 := HT.out
                        rw [HD.out, rowsE, h1] at h2
                        have h3 : res = 8 := by rw [HN.out]; exact h2
                        exact h3
                      clear hx
                      go_wp2
                      go_ret
                      exact ⟨ret_i HR.out.symm, Y3⟩
                  · have hrj' : ((q : Int) == (j : Int)) = false := by rw [beq_eq_false_iff_ne]; omega
                    have HR : Hid (rowE 3 q 0 row = rowE 3 q (j + 1) (row.drop (j + 1))) := by
                      have h1 := HJ.out
                      rw [hd2.out, rowE, if_pos HN0.out, if_neg (by simp [hrj])] at h1
                      exact h1
                    go_wp2
                    go_roundw
                    case rel => exact ⟨j + 1, by go_num, by omega, HR, Y3, B4⟩
                    case measure => simp [intOf]; omega
                · have k3' : (k == 3) = false := by rw [beq_eq_false_iff_ne]; exact k3e
                  have HR : Hid (rowE k q 0 row = rowE k q (j + 1) (row.drop (j + 1))) := by
                    have h1 := HJ.out
                    rw [hd2.out, rowE, if_pos HN0.out, if_neg (by simp [k3e])] at h1
                    exact h1
                  clear k3e
                  go_wp2
                  go_roundw
                  case rel => exact ⟨j + 1, by go_num, by omega, HR, Y3, B4⟩
                  case measure => simp [intOf]; omega
              · have hn' : (numP x != 0) = true := by simpa using hn
                have HR : Hid (res = numP x) := by
                  have h1 := HJ.out
                  rw [hd2.out, rowE, if_neg hn] at h1
                  have h2 := HT.out
                  rw [HD.out, rowsE, h1, if_neg hn] at h2
                  have h3 : res = numP x := by rw [HN.out]; exact h2
                  exact h3
                clear hn
                go_wp2
                go_ret
                exact ⟨ret_i HR.out.symm, Y3⟩
            · have hd2 := drop_nil (xs := row) (k := j) (by rw [hlen.out]; omega)
              have HR : Hid (rowsE k 0 l = rowsE k (q + 1) (l.drop (q + 1))) := by
                have h1 := HJ.out
                rw [hd2.out, rowE] at h1
                have h2 := HT.out
                rw [HD.out, rowsE, if_pos h1] at h2
                exact h2
              clear hd2
              go_wp2
              go_roundw
              case rel => exact ⟨q + 1, by go_num, by omega, HR, Y2, B3⟩
              case measure => simp [intOf]; omega
        · have hd := drop_nil (xs := l) (k := q) (by rw [hl.out]; omega)
          have HR : Hid (res = 0) := by
            have h1 := HT.out
            rw [hd.out, rowsE] at h1
            have h3 : res = 0 := by rw [HN.out]; exact h1
            exact h3
          clear hd
          go_wp2
          go_ret
          exact ⟨ret_i HR.out.symm, Y1⟩
set_option maxRecDepth 100000 in
theorem rcheck_any (i : InstP) (vs : List Value) (w : World) (H : RInst w vs i) : Calls Tryd.prog 29 #[.agg (List.toArray vs)] w fun e w' => e = .returned (.int .i64 (checkP i)) ∧ Ext w w' := by
  obtain ⟨k, nn, cap, xs, ys, l⟩ := i
  obtain ⟨A, a, B, b, C, c, rfl, ⟨rA, iA, lA, mA⟩, ⟨rB, iB, lB, mB⟩, ⟨rC, lC, mC⟩⟩ := H
  simp only at *
  by_cases hs : sizeP k nn = 0
  · have kk := sizeP_kind hs
    have hn : 1 ≤ nn ∧ nn ≤ 64 ∧ (k ≠ 1 → nn ≤ 24) := by
      unfold sizeP at hs
      split at hs
      · split at hs
        · cases hs
        · split at hs
          · cases hs
          · exact ⟨by omega, by omega, fun h => absurd ‹_› h⟩
      · split at hs
        · split at hs
          · cases hs
          · split at hs
            · cases hs
            · exact ⟨by omega, by omega, fun _ => by omega⟩
        · split at hs
          · split at hs
            · cases hs
            · split at hs
              · cases hs
              · exact ⟨by omega, by omega, fun _ => by omega⟩
          · cases hs
    obtain ⟨n1, n2, n3⟩ := hn
    obtain ⟨n, rfl⟩ : ∃ n : Nat, nn = (n : Int) := ⟨nn.toNat, by omega⟩
    unfold checkP
    simp only [if_pos hs]
    unfold shapeP
    simp only
    by_cases k1 : k = 1
    · subst k1
      simp only [if_true]
      exact rcheck_1 n cap A B C a b c xs ys l w rA rB (by omega) (by omega)
    · rw [if_neg k1, if_neg k1]
      have hk : k = 2 ∨ k = 3 := by omega
      cases hf : (((l.length : Int) == (n : Int)) && (cap == 0) && decide (xs.length + ys.length = 0)) with
      | false =>
        simp only [Bool.false_and, Bool.false_eq_true, if_false]
        exact rcheck_flat k n cap A B C a b c xs ys l w hk (by omega) (by have := n3 k1; omega) hf
      | true =>
        simp only [Bool.and_eq_true, beq_iff_eq, decide_eq_true_eq] at hf
        obtain ⟨⟨h1, rfl⟩, h3⟩ := hf
        have e1 : xs = [] := List.eq_nil_of_length_eq_zero (by omega)
        have e2 : ys = [] := List.eq_nil_of_length_eq_zero (by omega)
        have e3 : l.length = n := by omega
        subst e1 e2
        have R := rcheck_sq k n A B C a b c l w rC hk (by omega) (by have := n3 k1; omega) e3
        rw [e3]
        simp only [List.length_nil]
        cases hany : (l.any fun r => (r.length : Int) != (n : Int)) with
        | true => rw [hany] at R; simpa using R
        | false => rw [hany] at R; simpa using R
  · have e : checkP ⟨k, nn, cap, xs, ys, l⟩ = sizeP k nn := by unfold checkP; simp only [if_neg hs]
    rw [e]
    exact rcheck_size k nn cap _ _ _ w hs
end Go.Proofs.YtleckhbmciiooaaDoor
namespace Go.Proofs.YtleckhbmciiooaaDoor
open Go.RowKit Go.ChangeShapes Go.WideShapes Go.ChangeAt Go.Deep

/-- each number is an int -/
def InstInts (i : InstP) : Prop := Ints i.weight ∧ Ints i.value ∧ ∀ r ∈ i.cost, Ints r
theorem RInst.ints {w : World} {vs : List Value} {i : InstP} (h : RInst w vs i) : InstInts i := by
  obtain ⟨A, a, B, b, C, c, rfl, ⟨_, h2, _⟩, ⟨_, h4, _⟩, ⟨h5, _⟩⟩ := h
  refine ⟨h2, h4, fun r hr => ?_⟩
  obtain ⟨k, hk, rfl⟩ := List.mem_iff_getElem.1 hr
  obtain ⟨_, _, _, row, _, _, _, _, he, _, _, hi, _⟩ := h5.ints hk
  have h := he.out
  rw [List.getElem?_eq_getElem hk] at h
  rw [Option.some.inj h]
  exact hi
theorem InstInts.copy {i : InstP} (h : InstInts i) : InstInts (copyP i) := by
  refine ⟨h.1.take _, h.2.1.take _, fun r hr => ?_⟩
  simp only [copyP, wantC, List.mem_map] at hr
  obtain ⟨q, hq, rfl⟩ := hr
  exact (h.2.2 q (List.mem_of_mem_take hq)).take _
theorem InstO.rinst {w : World} {base : Nat} {vs : List Value} {i : InstP} (h : InstO w base vs i) (hi : InstInts i) : RInst w vs i := by
  obtain ⟨A, a, B, b, C, c, us, rfl, h1, h2, h3, h4⟩ := h
  refine ⟨A, a, B, b, C, c, rfl, ⟨h1.read, hi.1, h1.le.1, h1.le.2⟩, ⟨h2.read, hi.2.1, h2.le.1, h2.le.2⟩, ?_, h3.le.1, h3.le.2⟩
  rcases h3.read with h0 | ⟨b', off, cur, hA, hb, hc⟩
  · left
    have := h4.1
    rw [h0] at this
    exact List.eq_nil_of_length_eq_zero this.symm
  · refine .inr ⟨b', off, hA, (Array.getElem?_eq_some_iff.1 hb).1, fun k r hr => ?_⟩
    obtain ⟨A', c', hu, ho⟩ := h4.2 k r hr
    refine ⟨[.slice A' r.length c'], ⟨A', c', rfl, ho.read, hi.2.2 r (List.mem_of_getElem? hr), ho.le.1, ho.le.2⟩, rfl, fun j v hj => ?_⟩
    cases j with
    | zero =>
      simp at hj
      subst hj
      rw [cell_of_row w b' _ cur _ (0, 0) hb]
      simpa using hc k _ hu
    | succ j => simp at hj
theorem InstO.ext {w w' : World} {base : Nat} {vs : List Value} {i : InstP} (h : InstO w base vs i) (x : Ext w w') : InstO w' base vs i := by
  obtain ⟨A, a, B, b, C, c, us, rfl, h1, h2, h3, h4⟩ := h
  exact ⟨A, a, B, b, C, c, us, rfl, h1.ext x, h2.ext x, h3.ext x, h4.ext x⟩
theorem InstO.modT {w w' : World} {base base' : Nat} {ts : List TypeId} {vs : List Value} {i : InstP} (h : InstO w base vs i) (k : ModT base' ts w w') (h1 : 3 ∉ ts) (h2 : 22 ∉ ts) : InstO w' base vs i := by
  obtain ⟨A, a, B, b, C, c, us, rfl, g1, g2, g3, g4⟩ := h
  exact ⟨A, a, B, b, C, c, us, rfl, g1.modT k h1, g2.modT k h1, g3.modT k h2, g4.modT k h1⟩
theorem copyP_lens (i : InstP) : (copyP i).weight.length ≤ 70 ∧ (copyP i).value.length ≤ 70 ∧ (copyP i).cost.length ≤ 30 := by
  refine ⟨List.length_take_le _ _, List.length_take_le _ _, ?_⟩
  simp [copyP, wantC]
  omega
/-- the copied problem put in the place of the given one -/
theorem put_copy {w w2 : World} {a0 a1 a2 a3 a4 a5 u0 u1 u2 u3 u4 u5 : Value} {j : InstP} {base : Nat}
    (hB : Blk w2 w.heap.size 25 #[a0, a1, a2, a3, a4, a5]) (x : Ext w w2) (hO : InstO w2 base [u0, u1, u2, u3, u4, u5] j) :
    Ext w ((((((w2.setCell ⟨w.heap.size, 0, none⟩ u0).setCell ⟨w.heap.size, 1, none⟩ u1).setCell ⟨w.heap.size, 2, none⟩ u2).setCell ⟨w.heap.size, 3, none⟩ u3).setCell ⟨w.heap.size, 4, none⟩ u4).setCell ⟨w.heap.size, 5, none⟩ u5) ∧
    Blk ((((((w2.setCell ⟨w.heap.size, 0, none⟩ u0).setCell ⟨w.heap.size, 1, none⟩ u1).setCell ⟨w.heap.size, 2, none⟩ u2).setCell ⟨w.heap.size, 3, none⟩ u3).setCell ⟨w.heap.size, 4, none⟩ u4).setCell ⟨w.heap.size, 5, none⟩ u5) w.heap.size 25 #[u0, u1, u2, u3, u4, u5] ∧
    InstO ((((((w2.setCell ⟨w.heap.size, 0, none⟩ u0).setCell ⟨w.heap.size, 1, none⟩ u1).setCell ⟨w.heap.size, 2, none⟩ u2).setCell ⟨w.heap.size, 3, none⟩ u3).setCell ⟨w.heap.size, 4, none⟩ u4).setCell ⟨w.heap.size, 5, none⟩ u5) base [u0, u1, u2, u3, u4, u5] j := by
  obtain ⟨h1, h2⟩ := set6 hB (base := w.heap.size) (Nat.le_refl _) u0 u1 u2 u3 u4 u5
  exact ⟨x.modT h2 (Nat.le_refl _), h1, hO.modT h2 (by decide) (by decide)⟩
theorem InstO.six {w : World} {base : Nat} {vs : List Value} {i : InstP} (h : InstO w base vs i) : ∃ A3 l3 c3 A4 l4 c4 A5 l5 c5, vs = [.int .i64 i.kind, .int .i64 i.n, .int .i64 i.cap, .slice A3 l3 c3, .slice A4 l4 c4, .slice A5 l5 c5] := by
  obtain ⟨A, a, B, b, C, c, us, rfl, _⟩ := h
  exact ⟨_, _, _, _, _, _, _, _, _, rfl⟩
def CopyTo (j : InstP) (w : World) (e : Ending) (w' : World) : Prop := ∃ vs, e = .returned (.agg (List.toArray vs)) ∧ InstO w' w.heap.size vs j ∧ Ext w w'
theorem copy_to {i j : InstP} (hj : j = copyP i) (vs : List Value) (w : World) (H : RInst w vs i) : Calls Tryd.prog 14 #[.agg (List.toArray vs)] w (CopyTo j w) := by subst hj; exact copy_any vs i w H
end Go.Proofs.YtleckhbmciiooaaDoor
namespace Go.Proofs.YtleckhbmciiooaaDoor

/-- a problem over a square, in form -/
structure SquareOk (i : InstP) : Prop where
  n1 : 1 ≤ i.n
  n2 : i.n ≤ 24
  len : (i.cost.length : Int) = i.n
  row : ∀ r ∈ i.cost, (r.length : Int) = i.n
  num : ∀ r ∈ i.cost, ∀ x ∈ r, 0 ≤ x ∧ x ≤ 2147483647
  w : i.weight = []
  v : i.value = []
theorem numP_none {n : Int} (h : numP n = 0) : 0 ≤ n ∧ n ≤ 2147483647 := by
  unfold numP at h
  split at h
  · cases h
  · split at h
    · cases h
    · omega
theorem rowE_zero : ∀ {l : List Int} {k : Int} {r c : Nat}, rowE k r c l = 0 → ∀ x ∈ l, 0 ≤ x ∧ x ≤ 2147483647
  | [], _, _, _, _, x, hx => by cases hx
  | n :: l, k, r, c, h, x, hx => by
    unfold rowE at h
    split at h
    · rename_i hn
      split at h
      · cases h
      · rcases List.mem_cons.1 hx with rfl | hx
        · exact numP_none hn
        · exact rowE_zero h x hx
    · rename_i hn
      exact absurd h hn
theorem rowsE_zero : ∀ {l : List (List Int)} {k : Int} {r : Nat}, rowsE k r l = 0 → ∀ q ∈ l, ∀ x ∈ q, 0 ≤ x ∧ x ≤ 2147483647
  | [], _, _, _, q, hq => by cases hq
  | row :: l, k, r, h, q, hq => by
    unfold rowsE at h
    split at h
    · rename_i hr
      rcases List.mem_cons.1 hq with rfl | hq
      · exact rowE_zero hr
      · exact rowsE_zero h q hq
    · rename_i hr
      exact absurd h hr
theorem square_ok {i : InstP} (h : checkP i = 0) (hk : i.kind ≠ 1) : SquareOk i := by
  unfold checkP at h
  by_cases hs : sizeP i.kind i.n = 0
  · rw [if_pos hs] at h
    by_cases hsh : shapeP i = true
    · rw [if_pos hsh, if_neg hk] at h
      unfold shapeP at hsh
      rw [if_neg hk] at hsh
      simp only [Bool.and_eq_true, beq_iff_eq, decide_eq_true_eq, Bool.not_eq_true', List.any_eq_false, bne_iff_ne, ne_eq, Decidable.not_not] at hsh
      obtain ⟨⟨⟨h1, h2⟩, h3⟩, h4⟩ := hsh
      unfold sizeP at hs
      rw [if_neg hk] at hs
      have hn : 1 ≤ i.n ∧ i.n ≤ 24 := by
        split at hs
        · split at hs
          · cases hs
          · split at hs
            · cases hs
            · omega
        · split at hs
          · split at hs
            · cases hs
            · split at hs
              · cases hs
              · omega
          · cases hs
      exact ⟨hn.1, hn.2, h1, h4, rowsE_zero h, List.eq_nil_of_length_eq_zero (by omega), List.eq_nil_of_length_eq_zero (by omega)⟩
    · rw [if_neg hsh] at h
      cases h
  · rw [if_neg hs] at h
    exact absurd h hs
/-- which columns are left; none: no beginning -/
def freeM (m : Nat) : List Int → Option Nat
  | [] => some m
  | c :: p => if 0 ≤ c ∧ c < 64 ∧ m.testBit c.toNat = true then freeM (clrM m c.toNat) p else none
def freeP (n : Nat) (p : List Int) : Option Nat := if n < p.length then none else freeM (2 ^ n - 1) p
theorem clrM_lt (m i : Nat) : clrM m i < 18446744073709551616 := andNotN_lt _ _
/-- a set of numbers below n -/
def SubN (n m : Nat) : Prop := m < 18446744073709551616 ∧ ∀ x ∈ memsM m, x < n
theorem subN_full {n : Nat} (h : n ≤ 24) : SubN n (2 ^ n - 1) := by
  refine ⟨?_, fun x hx => ?_⟩
  · have : 2 ^ n ≤ 2 ^ 24 := Nat.pow_le_pow_right (by omega) h
    omega
  · rw [memsM_full (by omega)] at hx
    exact List.mem_range.1 hx
theorem SubN.clr {n m : Nat} (h : SubN n m) (i : Nat) : SubN n (clrM m i) := by
  refine ⟨clrM_lt _ _, fun x hx => h.2 x ?_⟩
  rw [memsM_clr h.1] at hx
  exact (List.mem_filter.1 hx).1
theorem freeM_sub {n : Nat} : ∀ {p : List Int} {m q : Nat}, SubN n m → freeM m p = some q → SubN n q
  | [], m, q, h, e => by
    simp only [freeM, Option.some.injEq] at e
    subst e
    exact h
  | c :: p, m, q, h, e => by
    unfold freeM at e
    split at e
    · exact freeM_sub (h.clr _) e
    · cases e
theorem rows_ok {i : InstP} (h : SquareOk i) : RowsOk i.cost := by
  have h1 := h.n1
  have h2 := h.n2
  have h3 := h.len
  refine ⟨by omega, by omega, fun r hr => ?_, h.num⟩
  have := h.row r hr
  omega
end Go.Proofs.YtleckhbmciiooaaDoor
namespace Go.Proofs.YtleckhbmciiooaaDoor
open Go.RowKit Go.ChangeShapes Go.WideShapes Go.ChangeAt Go.Deep

def orP (m : Nat) : List Nat → Nat
  | [] => m
  | x :: l => orP (m ||| 2 ^ x) l
theorem orP_bit : ∀ (l : List Nat) (m j : Nat), (orP m l).testBit j = (m.testBit j || decide (j ∈ l))
  | [], m, j => by simp [orP]
  | x :: l, m, j => by
    rw [orP, orP_bit l, Nat.testBit_or, Nat.testBit_two_pow]
    by_cases e : x = j
    · subst e; simp
    · have e' : ¬ j = x := fun h => e h.symm
      simp [e, e']
theorem orP_snoc : ∀ (l : List Nat) (m x : Nat), orP m (l ++ [x]) = orP m l ||| 2 ^ x
  | [], m, x => rfl
  | y :: l, m, x => by rw [List.cons_append, orP, orP_snoc l, orP]
theorem orP_lt {l : List Nat} (h : ∀ x ∈ l, x < 64) : orP 0 l < 18446744073709551616 := by
  refine Nat.lt_pow_two_of_testBit (n := 64) _ fun i hi => ?_
  rw [orP_bit]
  simp
  intro hm
  have := h i hm
  omega
theorem orP_full {l : List Nat} {n : Nat} (h : l.Perm (List.range n)) : orP 0 l = 2 ^ n - 1 := by
  refine Nat.eq_of_testBit_eq fun j => ?_
  rw [orP_bit, Nat.testBit_two_pow_sub_one]
  have : j ∈ l ↔ j < n := by rw [h.mem_iff, List.mem_range]
  simp [this]
theorem eq_sets (x y : Int) (u : World) : (Op.equalIn 10000 94 (.agg #[.int .u64 x, .int .u64 0]) (.agg #[.int .u64 y, .int .u64 0])).run Tryd.prog u = .ok (x == y) u := by
  unfold Op.equalIn
  simp only [Sem.run_bind, run_underlying Tryd.underlying94, Result.andThen_ok]
  have e9 : List.range' 0 2 1 = [0, 1] := rfl
  simp only [Std.Legacy.Range.forIn_eq_forIn_range', Std.Legacy.Range.size, Nat.sub_zero, Nat.add_one_sub_one, Nat.div_one, e9, List.forIn_cons, List.forIn_nil]
  by_cases hx : x = y
  · subst hx
    go_simp
  · have hx' : (x == y) = false := by simpa using hx
    go_simp
set_option maxRecDepth 100000 in
theorem of_any (A : Option Addr) (c : Nat) (l : List Nat) (hl : ∀ x ∈ l, x < 64) (hn : l.length ≤ 1000) (w : World) (hA : RdI w A (intsN l)) :
    Calls Tryd.prog 123 #[.slice A l.length c] w fun e w' => e = .returned (setV (orP 0 l)) ∧ Ext w w' := by
  have B0 : Hid (Blk ((w.alloc (.cells #[.int .u64 0, .int .u64 0] 94)).alloc (.cells #[.int .u64 0, .int .u64 0] 94)) w.heap.size 94 #[.int .u64 0, .int .u64 0]) := Blk.alloc (.new rfl) _
  have B1 : Hid (Blk ((w.alloc (.cells #[.int .u64 0, .int .u64 0] 94)).alloc (.cells #[.int .u64 0, .int .u64 0] 94)) (w.heap.size + 1) 94 #[.int .u64 ((orP 0 (l.take 0) : Nat) : Int), .int .u64 0]) := .new (by simp)
  have X0 : Hid (Ext w ((w.alloc (.cells #[.int .u64 0, .int .u64 0] 94)).alloc (.cells #[.int .u64 0, .int .u64 0] 94))) := ((Ext.rf w).alloc _).alloc _
  have WI := fun (m i : Nat) (h : m < 18446744073709551616) (hi : i < 64) (W : World) => with_any m i h hi W
  unfold setV at WI ⊢
  replace WI := Lib.hid WI
  replace hA := Lib.hid hA
  replace hl := Lib.hid hl
  go_enter Tryd.func123, Tryd.ntmps123
  go_wp2_with (fail)
  go_loopw [8] (fun i wr => ∃ k : Nat, i = .int .i64 k ∧ k ≤ l.length ∧ Hid (Blk wr (w.heap.size + 1) 94 #[.int .u64 ((orP 0 (l.take k) : Nat) : Int), .int .u64 0]) ∧ Hid (Blk wr w.heap.size 94 #[.int .u64 0, .int .u64 0]) ∧ Hid (Ext w wr)) (fun i _ => l.length - (intOf i).toNat)
  case atStart => exact ⟨0, rfl, by omega, B1, B0, X0⟩
  case round =>
    clear B0 B1 X0
    obtain ⟨wo, rfl⟩ : ∃ wo : World, wo = wr := ⟨_, rfl⟩
    obtain ⟨k, rfl, hk, B1, B0, X0⟩ := hrel
    by_cases hlt : k < l.length
    · obtain ⟨b, off, x, rfl, zb, cx, ex, _⟩ := (hA.out.ext X0.out).at (k := k) (by rw [intsN_len]; exact hlt)
      obtain ⟨y, hy⟩ : ∃ y, Hid (l[k]? = some y) := ⟨l[k], List.getElem?_eq_getElem hlt⟩
      obtain rfl : x = (y : Int) := by
        have h1 := ex.out
        simp only [intsN, List.getElem?_map, hy.out, Option.map_some, Option.some.injEq] at h1
        exact h1.symm
      have hy64 := hl.out y (List.mem_of_getElem? hy.out)
      have hm := orP_lt (l := l.take k) (fun x hx => hl.out x (List.mem_of_mem_take hx))
      have HS : orP 0 (l.take (k + 1)) = orP 0 (l.take k) ||| 2 ^ y := by
        rw [List.take_add_one, hy.out]
        exact orP_snoc _ _ _
      have HW := Lib.hid (WI.out (orP 0 (l.take k)) y hm hy64)
      rw [← HS] at HW
      clear HS hm hy64 ex
      generalize orP 0 (l.take k) = m at *
      obtain ⟨m2, hm2⟩ : ∃ m2, Hid (orP 0 (l.take (k + 1)) = m2) := ⟨_, rfl⟩
      rw [hm2.out] at HW
      have c0 : wo.cell? ⟨w.heap.size + 1, 0, none⟩ = some (.int .u64 m) := B1.out.cell 0
      have c1 : wo.cell? ⟨w.heap.size + 1, 1, none⟩ = some (.int .u64 0) := B1.out.cell 1
      have q1 : (k : Int) < (l.length : Int) := by omega
      go_wp2_with (fail)
      refine (HW.out _).mono ?_
      rintro e w1 ⟨rfl, x1⟩
      have b1 := B1.out.ext x1
      have d0 : w1.cell? ⟨w.heap.size + 1, 0, none⟩ = some (.int .u64 m) := b1.cell 0
      have d1 : w1.cell? ⟨w.heap.size + 1, 1, none⟩ = some (.int .u64 0) := b1.cell 1
      have f0 := b1.free 0
      have f1 := b1.free 1
      have B1' := Lib.hid ((b1.set 0 (.int .u64 m2)).set 1 (.int .u64 0))
      have B0' := Lib.hid (((B0.out.ext x1).far (p := ⟨w.heap.size + 1, 0, none⟩) (by simp) (.int .u64 m2)).far (p := ⟨w.heap.size + 1, 1, none⟩) (by simp) (.int .u64 0))
      have X1 := Lib.hid (((X0.out.tr x1).setNew (p := ⟨w.heap.size + 1, 0, none⟩) (by simp) (.int .u64 m2)).setNew (p := ⟨w.heap.size + 1, 1, none⟩) (by simp) (.int .u64 0))
      clear b1 x1 B0 B1 X0 c0 c1
      go_wp2_with (fail)
      go_roundw
      case rel => exact ⟨k + 1, by go_num, by omega, by rw [hm2.out]; exact B1', B0', X1⟩
      case measure => simp [intOf]; omega
    · obtain rfl : k = l.length := by omega
      rw [List.take_length] at B1
      obtain ⟨m, hm⟩ : ∃ m, Hid (orP 0 l = m) := ⟨_, rfl⟩
      rw [hm.out] at B1
      have c0 : wo.cell? ⟨w.heap.size + 1, 0, none⟩ = some (.int .u64 m) := B1.out.cell 0
      have c1 : wo.cell? ⟨w.heap.size + 1, 1, none⟩ = some (.int .u64 0) := B1.out.cell 1
      have r0 : wo.cell? ⟨w.heap.size, 0, none⟩ = some (.int .u64 0) := B0.out.cell 0
      have r1 : wo.cell? ⟨w.heap.size, 1, none⟩ = some (.int .u64 0) := B0.out.cell 1
      have g0 := B0.out.free 0
      have g1 := B0.out.free 1
      go_wp2_with (fail)
      refine bodyPost_ret (v := .agg #[.int .u64 m, .int .u64 0]) (by simp [results, Tryd.results123, go_sem, *]) rfl ⟨by rw [hm.out], ?_⟩
      exact (X0.out.setNew (p := ⟨w.heap.size, 0, none⟩) (by simp) _).setNew (p := ⟨w.heap.size, 1, none⟩) (by simp) _
set_option maxRecDepth 100000 in
theorem order_yes (A : Option Addr) (c n : Nat) (l : List Nat) (hl : l.Perm (List.range n)) (hn : n < 64) (w : World) (hA : RdI w A (intsN l)) :
    Calls Tryd.prog 101 #[.slice A n c, .int .i64 n] w fun e w' => e = .returned (.bool true) ∧ Ext w w' := by
  have lk : l.length = n := by rw [hl.length_eq, List.length_range]
  have OF := fun (W : World) (x : Ext w W) => of_any A c l (fun x hx => by have := List.mem_range.1 (hl.mem_iff.1 hx); omega) (by omega) W (hA.ext x)
  have FU := fun (W : World) => full_any n hn W
  rw [orP_full hl, lk] at OF
  clear lk hl hA
  unfold setV at OF FU
  generalize 2 ^ n - 1 = m at *
  have EQ := fun u : World => eq_sets (m : Int) (m : Int) u
  simp only [beq_self_eq_true] at EQ
  have en : ((n : Int) == (n : Int)) = true := by simp
  replace OF := Lib.hid OF
  replace FU := Lib.hid FU
  go_enter Tryd.func101, Tryd.ntmps101
  go_wp2_with (fail)
  refine (OF.out _ (by (repeat (first | assumption | exact Ext.rf _ | apply Ext.drew | apply Ext.drewN | apply Ext.alloc)))).mono ?_
  rintro e w1 ⟨rfl, x1⟩
  go_wp2_with (fail)
  refine (FU.out _).mono ?_
  rintro e w2 ⟨rfl, x2⟩
  have X2 := Lib.hid (Ext.tr (Ext.tr (a := w) (by (repeat (first | assumption | exact Ext.rf _ | apply Ext.drew | apply Ext.drewN | apply Ext.alloc))) x1) x2)
  clear x1 x2
  go_wp2_with (fail)
  go_ret
  exact ⟨rfl, X2.out⟩
/-- what the first rows cost -/
def costK (rows : List (List Int)) (l : List Nat) (k : Nat) : Int := sumL ((List.range k).map fun j => costAt rows j (l.getD j 0))
theorem costK_succ (rows : List (List Int)) (l : List Nat) (k : Nat) : costK rows l (k + 1) = costK rows l k + costAt rows k (l.getD k 0) := by
  unfold costK
  rw [List.range_succ, List.map_append, sumL_append]
  simp [sumL]
set_option maxRecDepth 100000 in
set_option maxHeartbeats 2000000 in
theorem vcost2_any (i : InstP) (us : List Value) (P : Option Addr) (c : Nat) (l : List Nat) (w : World) (H : RInst w us i) (hc : checkP i = 0) (hk : i.kind = 2) (hP : RdI w P (intsN l)) (hl : l.Perm (List.range i.cost.length)) :
    Calls Tryd.prog 75 #[.agg (List.toArray us), .slice P i.cost.length c] w fun e w' => e = .returned (.tuple #[.int .i64 (costF i.cost (intsN l)), .int .i64 0]) ∧ Ext w w' := by
  have sq := square_ok hc (by omega)
  have rok := rows_ok sq
  have CH := fun (W : World) (x : Ext w W) => check_any i us W (H.ext x) (by rw [sq.w]; simp) (by rw [sq.v]; simp)
  have lk : l.length = i.cost.length := by rw [hl.length_eq, List.length_range]
  have OY := fun (W : World) (x : Ext w W) => order_yes P c i.cost.length l hl (by have := rok.n2; omega) W (hP.ext x)
  have CF : Hid (costF i.cost (intsN l) = costK i.cost l i.cost.length) := by
    have h : costF i.cost (intsN l) = costK i.cost l i.cost.length := by rw [costF_range lk.symm, lk]; rfl
    exact h
  have hln := sq.len
  rw [hc] at CH
  obtain ⟨kind, nn, cap, xw, xv, co⟩ := i
  obtain ⟨A, a, B, b, D, d, rfl, -, -, hC, -⟩ := H
  simp only at *
  subst hk
  have n1 := rok.n1
  have n2 := rok.n2
  obtain ⟨n, hn⟩ : ∃ n, co.length = n := ⟨_, rfl⟩
  rw [hn] at CH OY CF lk hln hl n1 n2 ⊢
  have lt : ∀ k, k < n → l.getD k 0 < n := fun k hk => by
    have h1 : l[k]? = some (l[k]'(by omega)) := List.getElem?_eq_getElem _
    rw [getD_some h1]
    exact List.mem_range.1 (hl.mem_iff.1 (List.getElem_mem _))
  have CA := fun (W : World) (x : Ext w W) (r c : Nat) (hr : r < n) (hc : c < n) => cost_at rok (hC.ext x fun _ _ h => h.ext x) (r := r) (c := c) (by omega) (by omega)
  rw [hn] at CA
  have EB := fun r c (hr : r < n) (hc : c < n) => ends_num rok r c (by omega) (by omega)
  have B1 : Hid (Blk (w.alloc (.cells #[.int .i64 2, .int .i64 nn, .int .i64 cap, .slice A xw.length a, .slice B xv.length b, .slice D n d] 25)) w.heap.size 25 #[.int .i64 2, .int .i64 nn, .int .i64 cap, .slice A xw.length a, .slice B xv.length b, .slice D n d]) := .new rfl
  subst hln
  replace CH := Lib.hid CH
  replace OY := Lib.hid OY
  replace CA := Lib.hid CA
  replace EB := Lib.hid EB
  replace hP := Lib.hid hP
  replace lk := Lib.hid lk
  replace lt := Lib.hid lt
  replace hn := Lib.hid hn
  clear hc hl hC rok sq
  go_enter Tryd.func75, Tryd.ntmps75
  go_wp2_with (fail)
  refine (CH.out _ (by (repeat (first | assumption | exact Ext.rf _ | apply Ext.drew | apply Ext.drewN | apply Ext.alloc)))).mono ?_
  rintro e w1 ⟨rfl, x1⟩
  have X1 := Lib.hid (Ext.tr (a := w) (by (repeat (first | assumption | exact Ext.rf _ | apply Ext.drew | apply Ext.drewN | apply Ext.alloc))) x1)
  have b1 := Lib.hid (B1.out.ext x1)
  have t0 : w1.cell? ⟨w.heap.size, 0, none⟩ = some (.int .i64 2) := b1.out.cell 0
  have t1 : w1.cell? ⟨w.heap.size, 1, none⟩ = some (.int .i64 n) := b1.out.cell 1
  clear x1 B1
  go_wp2_with (fail)
  refine (OY.out _ (X1.out.tr (by (repeat (first | assumption | exact Ext.rf _ | apply Ext.drew | apply Ext.drewN | apply Ext.alloc))))).mono ?_
  rintro e w2 ⟨rfl, x2⟩
  have X2 := Lib.hid (X1.out.tr (Ext.tr (by (repeat (first | assumption | exact Ext.rf _ | apply Ext.drew | apply Ext.drewN | apply Ext.alloc))) x2))
  have b2 := Lib.hid (b1.out.ext (Ext.tr (by (repeat (first | assumption | exact Ext.rf _ | apply Ext.drew | apply Ext.drewN | apply Ext.alloc))) x2))
  have s0 : w2.cell? ⟨w.heap.size, 0, none⟩ = some (.int .i64 2) := b2.out.cell 0
  clear x2 b1 X1 t0 t1
  go_wp2_with (fail)
  go_loopw [7, 44] (fun sv i wr => ∃ k : Nat, i = .int .i64 k ∧ sv = .int .i64 (costK co l k) ∧ k ≤ n ∧ Hid (0 ≤ costK co l k ∧ costK co l k ≤ k * 2147483647) ∧ Hid (Ext w2 wr)) (fun _ i _ => n - (intOf i).toNat)
  case atStart => exact ⟨0, rfl, rfl, by omega, ⟨Int.le_refl _, by simp [costK, sumL]⟩, Ext.rf _⟩
  case round =>
    clear s0
    obtain ⟨wo, rfl⟩ : ∃ wo : World, wo = wr := ⟨_, rfl⟩
    obtain ⟨k, rfl, rfl, hk, BD, X3⟩ := hrel
    by_cases hlt : k < n
    · obtain ⟨y, hy⟩ : ∃ y, Hid (l.getD k 0 = y) := ⟨_, rfl⟩
      have yn : y < n := by rw [← hy.out]; exact lt.out k hlt
      obtain ⟨pb, po, x, rfl, zp, cp, ex, _⟩ := ((hP.out.ext X2.out).ext X3.out).at (k := k) (by rw [intsN_len, lk.out]; exact hlt)
      obtain rfl : x = (y : Int) := by
        have h1 := ex.out
        have h2 : l[k]? = some (l[k]'(by rw [lk.out]; exact hlt)) := List.getElem?_eq_getElem _
        have h3 := hy.out
        rw [getD_some h2] at h3
        simp only [intsN, List.getElem?_map, h2, Option.map_some, Option.some.injEq, h3] at h1
        exact h1.symm
      obtain ⟨cb, cof, rb, ro, d', rfl, k1, k2⟩ := CA.out wo (X2.out.tr X3.out) k y hlt yn
      have eb := EB.out k y hlt yn
      have HK : Hid (costK co l (k + 1) = costK co l k + costAt co k y) := by
        have h : costK co l (k + 1) = costK co l k + costAt co k y := by rw [costK_succ, hy.out]
        exact h
      have b3 := b2.out.ext X3.out
      have s0 : wo.cell? ⟨w.heap.size, 0, none⟩ = some (.int .i64 2) := b3.cell 0
      have s5 : wo.cell? ⟨w.heap.size, 5, none⟩ = some (.slice (some ⟨cb, cof, none⟩) n d) := b3.cell 5
      obtain ⟨b0, b1⟩ := BD.out
      generalize costK co l k = su at *
      generalize costAt co k y = cv at *
      have wv : IntKind.i64.wrap (su + cv) = su + cv := IntWalk.i64_in _ (by omega)
      have q1 : (k : Int) < (n : Int) := by omega
      have q2 : (y : Int) < (n : Int) := by omega
      have bd2 : 0 ≤ su + cv ∧ su + cv ≤ ((k + 1 : Nat) : Int) * 2147483647 := by omega
      replace bd2 := Lib.hid bd2
      clear b0 b1 eb BD b3 ex
      go_wp2_with (fail)
      go_roundw
      case rel => exact ⟨k + 1, by go_num, by rw [HK.out], by omega, by rw [HK.out]; exact bd2, X3.out.tr (by (repeat (first | assumption | exact Ext.rf _ | apply Ext.drew | apply Ext.drewN | apply Ext.alloc)))⟩
      case measure => simp [intOf]; omega
    · obtain rfl : k = n := by omega
      go_wp2_with (fail)
      go_ret2
      exact ⟨by rw [CF.out]; rfl, X2.out.tr X3.out⟩
end Go.Proofs.YtleckhbmciiooaaDoor
namespace Go.Proofs.YtleckhbmciiooaaDoor

/-- what is left of a round trip behind its first so many ways -/
def restW (co : List (List Int)) : List Nat → Int
  | [] => 0
  | u :: q => pathT co u q
theorem pathT_bd {rows : List (List Int)} (num : ∀ a b, a < rows.length → b < rows.length → 0 ≤ costAt rows a b ∧ costAt rows a b ≤ 2147483647) : ∀ (q : List Nat) (s : Nat), s < rows.length → (∀ x ∈ q, x < rows.length) → 0 ≤ pathT rows s q ∧ pathT rows s q ≤ 2147483647 * ((q.length : Int) + 1)
  | [], s, hs, _ => by have := num s 0 hs (by omega); simp only [pathT, List.length_nil]; omega
  | u :: q, s, hs, h => by
    have h1 := num s u hs (h u (by simp))
    have h2 := pathT_bd num q u (h u (by simp)) fun x hx => h x (by simp [hx])
    simp only [pathT, List.length_cons]
    omega
theorem intsN_at {l : List Nat} {k y : Nat} (h : l[k]? = some y) : (intsN l)[k]? = some (y : Int) := by simp [intsN, h]
end Go.Proofs.YtleckhbmciiooaaDoor
namespace Go.Proofs.YtleckhbmciiooaaDoor
open Go.RowKit Go.ChangeShapes Go.WideShapes Go.ChangeAt Go.Deep

set_option maxRecDepth 100000 in
set_option maxHeartbeats 4000000 in
theorem vcost3_any (i : InstP) (us : List Value) (P : Option Addr) (c : Nat) (q : List Nat) (w : World) (H : RInst w us i) (hc : checkP i = 0) (hk : i.kind = 3) (hP : RdI w P (intsN (0 :: q))) (hl : (0 :: q).Perm (List.range i.cost.length)) :
    Calls Tryd.prog 75 #[.agg (List.toArray us), .slice P i.cost.length c] w fun e w' => e = .returned (.tuple #[.int .i64 (pathT i.cost 0 q), .int .i64 0]) ∧ Ext w w' := by
  have sq := square_ok hc (by omega)
  have rok := rows_ok sq
  have CH := fun (W : World) (x : Ext w W) => check_any i us W (H.ext x) (by rw [sq.w]; simp) (by rw [sq.v]; simp)
  have OY := fun (W : World) (x : Ext w W) => order_yes P c i.cost.length (0 :: q) hl (by have := rok.n2; omega) W (hP.ext x)
  rw [hc] at CH
  have hnn : i.n = (i.cost.length : Int) := sq.len.symm
  have hlt : Hid (∀ x ∈ 0 :: q, x < i.cost.length) := fun x hx => List.mem_range.1 (hl.mem_iff.1 hx)
  have hlen : Hid ((0 :: q).length = i.cost.length) := by
    have h : (0 :: q).length = i.cost.length := by rw [hl.length_eq, List.length_range]
    exact h
  have n24 := rok.n2
  have n1 := rok.n1
  clear hl hc sq
  obtain ⟨kind, nn, cap, xw, xv, co⟩ := i
  obtain ⟨A, a, B, b, D, d, rfl, -, -, hC, -⟩ := H
  simp only at *
  subst hk hnn
  obtain ⟨cb, cof, _, _, _, rfl, _, _⟩ := cost_at rok hC (r := 0) (c := 0) (by omega) (by omega)
  have num := ends_num rok
  have CA := Lib.hid (fun (W : World) (x : Ext w W) (r c : Nat) (hr : r < co.length) (hc : c < co.length) => cost_in rok (hC.ext x fun _ _ h => h.ext x) hr hc)
  obtain ⟨tot, htot⟩ : ∃ tot, Hid (pathT co 0 q = tot) := ⟨_, rfl⟩
  rw [htot.out]
  have bt : 0 ≤ tot ∧ tot ≤ 2147483647 * 24 := by
    have h1 := pathT_bd num q 0 (by omega) fun x hx => hlt.out x (by simp [hx])
    have h2 := hlen.out
    rw [List.length_cons] at h2
    rw [htot.out] at h1
    omega
  have START : Hid ((0 : Int) + restW co ((0 :: q).drop 0) = tot) := by
    have h : (0 : Int) + restW co ((0 :: q).drop 0) = tot := by rw [← htot.out]; simp [restW]
    exact h
  obtain ⟨l, hll⟩ : ∃ l, Hid (0 :: q = l) := ⟨_, rfl⟩
  have h00 : Hid (l[0]? = some 0) := by
    have h : l[0]? = some 0 := by rw [← hll.out]; rfl
    exact h
  rw [hll.out] at hP hlt hlen START
  obtain ⟨pb, po, x0, rfl, zp0, cp0, ep0, _⟩ := hP.at (k := 0) (by rw [intsN_len, hlen.out]; omega)
  obtain rfl : x0 = 0 := by
    have h := ep0.out
    rw [intsN_at h00.out] at h
    exact (Option.some.inj h).symm
  replace cp0 : w.cell? ⟨pb, po, none⟩ = some (.int .i64 0) := cp0
  have DR : Hid (∀ k, k < co.length → ∃ u, l[k]? = some u ∧ u < co.length ∧ l.drop k = u :: l.drop (k + 1)) := fun k hk => by
    have h : k < l.length := by rw [hlen.out]; exact hk
    exact ⟨l[k], List.getElem?_eq_getElem h, hlt.out _ (List.getElem_mem h), List.drop_eq_getElem_cons h⟩
  replace CH := Lib.hid CH
  replace OY := Lib.hid OY
  replace hP := Lib.hid hP
  replace hC := Lib.hid hC
  replace rok := Lib.hid rok
  replace num := Lib.hid num
  have B1 : Hid (Blk (w.alloc (.cells #[.int .i64 3, .int .i64 co.length, .int .i64 cap, .slice A xw.length a, .slice B xv.length b, .slice (some ⟨cb, cof, none⟩) co.length d] 25)) w.heap.size 25 #[.int .i64 3, .int .i64 co.length, .int .i64 cap, .slice A xw.length a, .slice B xv.length b, .slice (some ⟨cb, cof, none⟩) co.length d]) := .new rfl
  have q00 : (0 : Int) < (co.length : Int) := by omega
  clear ep0
  go_enter Tryd.func75, Tryd.ntmps75
  go_wp2_with (fail)
  refine (CH.out _ (by (repeat (first | assumption | exact Ext.rf _ | apply Ext.drew | apply Ext.drewN | apply Ext.alloc)))).mono ?_
  rintro e w1 ⟨rfl, x1⟩
  have X1 := Lib.hid (Ext.tr (a := w) (by (repeat (first | assumption | exact Ext.rf _ | apply Ext.drew | apply Ext.drewN | apply Ext.alloc))) x1)
  have b1 := Lib.hid (B1.out.ext x1)
  have t0 : w1.cell? ⟨w.heap.size, 0, none⟩ = some (.int .i64 3) := b1.out.cell 0
  have t1 : w1.cell? ⟨w.heap.size, 1, none⟩ = some (.int .i64 co.length) := b1.out.cell 1
  clear x1 B1
  go_wp2_with (fail)
  refine (OY.out _ (X1.out.tr (by (repeat (first | assumption | exact Ext.rf _ | apply Ext.drew | apply Ext.drewN | apply Ext.alloc))))).mono ?_
  rintro e w2 ⟨rfl, x2⟩
  have X2 := Lib.hid (X1.out.tr (Ext.tr (by (repeat (first | assumption | exact Ext.rf _ | apply Ext.drew | apply Ext.drewN | apply Ext.alloc))) x2))
  have BC := Lib.hid (b1.out.ext (Ext.tr (by (repeat (first | assumption | exact Ext.rf _ | apply Ext.drew | apply Ext.drewN | apply Ext.alloc))) x2))
  have s0 : w2.cell? ⟨w.heap.size, 0, none⟩ = some (.int .i64 3) := BC.out.cell 0
  have e2 : w2.cell? ⟨pb, po, none⟩ = some (.int .i64 0) := keepEL X2.out zp0 cp0
  clear x2 b1 X1 t0 t1
  go_wp2_with (fail)
  go_loopw [7, 44] (fun s v wr => ∃ (k : Nat) (su : Int), v = .int .i64 k ∧ s = .int .i64 su ∧ k ≤ co.length ∧ Hid (0 ≤ su ∧ su + restW co (l.drop k) = tot) ∧ Hid (Ext w2 wr)) (fun _ v _ => co.length - (intOf v).toNat)
  case atStart => exact ⟨0, 0, rfl, rfl, by omega, by exact (show (0 : Int) ≤ 0 ∧ (0 : Int) + restW co (l.drop 0) = tot from ⟨by omega, START.out⟩), Ext.rf _⟩
  case round =>
    clear s0
    obtain ⟨wo, rfl⟩ : ∃ wo : World, wo = wr := ⟨_, rfl⟩
    obtain ⟨k, su, rfl, rfl, hk, HS, Y⟩ := hrel
    have s0 : wo.cell? ⟨w.heap.size, 0, none⟩ = some (.int .i64 3) := (BC.out.ext Y.out).cell 0
    have d1 : wo.cell? ⟨w.heap.size, 1, none⟩ = some (.int .i64 co.length) := (BC.out.ext Y.out).cell 1
    have d5 : wo.cell? ⟨w.heap.size, 5, none⟩ = some (.slice (some ⟨cb, cof, none⟩) co.length d) := (BC.out.ext Y.out).cell 5
    have XW := Lib.hid (X2.out.tr Y.out)
    clear e2 START
    by_cases hkl : k < co.length
    · obtain ⟨u, ek, hun, edr⟩ := DR.out k hkl
      obtain ⟨pb', po', xu, hPq, zpk, cpk, epk, _⟩ := (hP.out.ext XW.out).at (k := k) (by rw [intsN_len, hlen.out]; exact hkl)
      obtain ⟨rfl, rfl⟩ : pb = pb' ∧ po = po' := by simpa using hPq
      obtain rfl : xu = (u : Int) := by
        have h := epk.out
        rw [intsN_at ek] at h
        exact (Option.some.inj h).symm
      have HS1 := HS.out
      rw [edr] at HS1
      have q1 : (k : Int) < (co.length : Int) := by omega
      have q2 : (u : Int) < (co.length : Int) := by omega
      have hw0 : IntKind.i64.wrap ((k : Int) + 1) = (k : Int) + 1 := IntWalk.i64_in _ (by omega)
      clear ek edr hPq epk HS
      by_cases hlast : k + 1 = co.length
      · have e1 : l.drop (k + 1) = [] := List.drop_of_length_le (by rw [hlen.out]; omega)
        rw [e1] at HS1
        obtain ⟨rb, ro, d', c1, c2⟩ := CA.out _ XW.out u 0 hun (by omega)
        have nu := num.out u 0 hun (by omega)
        obtain ⟨y, hy⟩ : ∃ y, Hid (costAt co u 0 = y) := ⟨_, rfl⟩
        simp only [restW, pathT] at HS1
        rw [hy.out] at c2 nu HS1
        replace c2 : wo.cell? ⟨rb, ro, none⟩ = some (.int .i64 y) := c2
        have hrem : ((k : Int) + 1).tmod (co.length : Int) = 0 := by
          have h : (k : Int) + 1 = (co.length : Int) := by omega
          rw [h, Int.tmod_self]
        have hw1 : IntKind.i64.wrap 0 = 0 := IntWalk.i64_in _ (by omega)
        have hw : IntKind.i64.wrap (su + y) = su + y := IntWalk.i64_in _ (by omega)
        have p0 : wo.cell? ⟨pb, po, none⟩ = some (.int .i64 0) := keepEL XW.out zp0 cp0
        have NEW : Hid (0 ≤ su + y ∧ su + y + restW co (l.drop (k + 1)) = tot) := by
          have h : 0 ≤ su + y ∧ su + y + restW co (l.drop (k + 1)) = tot := by
            rw [e1]
            simp only [restW]
            omega
          exact h
        have hnz : ((co.length : Int) == 0) = false := by rw [beq_eq_false_iff_ne]; omega
        clear HS1 e1
        replace hlast := Lib.hid hlast
        go_wp2_with (fail)
        go_quiet (fail)
        go_wp2_with (fail)
        go_roundw
        case rel => exact ⟨k + 1, su + y, by go_num, rfl, by omega, NEW, Y.out.drewN _⟩
        case measure => simp [intOf]; omega
      · have hk1 : k + 1 < co.length := by omega
        obtain ⟨v, ek1, hvn, edr1⟩ := DR.out (k + 1) hk1
        obtain ⟨pb', po', xu, hPq, zpk1, cpk1, epk1, _⟩ := (hP.out.ext XW.out).at (k := k + 1) (by rw [intsN_len, hlen.out]; exact hk1)
        obtain ⟨rfl, rfl⟩ : pb = pb' ∧ po = po' := by simpa using hPq
        obtain rfl : xu = (v : Int) := by
          have h := epk1.out
          rw [intsN_at ek1] at h
          exact (Option.some.inj h).symm
        rw [edr1] at HS1
        obtain ⟨rb, ro, d', c1, c2⟩ := CA.out _ XW.out u v hun hvn
        have nu := num.out u v hun hvn
        obtain ⟨y, hy⟩ : ∃ y, Hid (costAt co u v = y) := ⟨_, rfl⟩
        simp only [restW, pathT] at HS1
        rw [hy.out] at c2 nu HS1
        have hpp := (pathT_bd num.out (l.drop (k + 1 + 1)) v hvn fun x hx => hlt.out x (List.mem_of_mem_drop hx)).1
        have hrem : ((k : Int) + 1).tmod (co.length : Int) = ((k + 1 : Nat) : Int) := by
          rw [Int.tmod_eq_emod_of_nonneg (by omega), Int.emod_eq_of_lt (by omega) (by omega)]
          omega
        have hw1 : IntKind.i64.wrap ((k + 1 : Nat) : Int) = ((k + 1 : Nat) : Int) := IntWalk.i64_in _ (by omega)
        have hw : IntKind.i64.wrap (su + y) = su + y := IntWalk.i64_in _ (by omega)
        have NEW : Hid (0 ≤ su + y ∧ su + y + restW co (l.drop (k + 1)) = tot) := by
          have h : 0 ≤ su + y ∧ su + y + restW co (l.drop (k + 1)) = tot := by
            rw [edr1]
            simp only [restW]
            omega
          exact h
        have q3 : (v : Int) < (co.length : Int) := by omega
        have q4 : ((k + 1 : Nat) : Int) < (co.length : Int) := by omega
        have hnz : ((co.length : Int) == 0) = false := by rw [beq_eq_false_iff_ne]; omega
        clear HS1 edr1 ek1 hPq epk1 hpp
        replace hlast := Lib.hid hlast
        go_wp2_with (fail)
        go_quiet (fail)
        go_wp2_with (fail)
        go_roundw
        case rel => exact ⟨k + 1, su + y, by go_num, rfl, by omega, NEW, Y.out.drewN _⟩
        case measure => simp [intOf]; omega
    · have q1 : ¬ (k : Int) < (co.length : Int) := by omega
      have HS2 : Hid (su = tot) := by
        have h := HS.out.2
        rw [List.drop_of_length_le (by rw [hlen.out]; omega)] at h
        simp only [restW] at h
        have h2 : su = tot := by omega
        exact h2
      go_wp2_with (fail)
      go_ret2
      rw [HS2.out]
      exact ⟨rfl, XW.out⟩
set_option maxRecDepth 100000 in
set_option maxHeartbeats 1000000 in
theorem takes3_any (i : InstP) (us : List Value) (w : World) (H : RInst w us i) (hc : checkP i = 0) (hk : i.kind = 3) (h12 : i.n ≤ 12) :
    Calls Tryd.prog 62 #[.agg (List.toArray us), .int .i64 3] w fun e w' => e = .returned (.int .i64 0) ∧ Ext w w' := by
  have sq := square_ok hc (by omega)
  have CH := fun (W : World) (x : Ext w W) => check_any i us W (H.ext x) (by rw [sq.w]; simp) (by rw [sq.v]; simp)
  rw [hc] at CH
  obtain ⟨kind, nn, cap, xw, xv, co⟩ := i
  obtain ⟨A, a, B, b, D, d, rfl, -, -, -⟩ := H
  simp only at *
  subst hk
  have B1 : Hid (Blk (w.alloc (.cells #[.int .i64 3, .int .i64 nn, .int .i64 cap, .slice A xw.length a, .slice B xv.length b, .slice D co.length d] 25)) w.heap.size 25 #[.int .i64 3, .int .i64 nn, .int .i64 cap, .slice A xw.length a, .slice B xv.length b, .slice D co.length d]) := .new rfl
  replace CH := Lib.hid CH
  clear hc sq
  have hq : ¬ 12 < nn := by omega
  go_enter Tryd.func62, Tryd.ntmps62
  go_wp2_with (fail)
  refine (CH.out _ (by (repeat (first | assumption | exact Ext.rf _ | apply Ext.drew | apply Ext.drewN | apply Ext.alloc)))).mono ?_
  rintro e w1 ⟨rfl, x1⟩
  have X1 := Lib.hid (Ext.tr (a := w) (by (repeat (first | assumption | exact Ext.rf _ | apply Ext.drew | apply Ext.drewN | apply Ext.alloc))) x1)
  have b1 := Lib.hid (B1.out.ext x1)
  have t0 : w1.cell? ⟨w.heap.size, 0, none⟩ = some (.int .i64 3) := b1.out.cell 0
  have t1 : w1.cell? ⟨w.heap.size, 1, none⟩ = some (.int .i64 nn) := b1.out.cell 1
  clear x1 B1
  go_wp2_with (fail)
  go_ret
  exact ⟨rfl, X1.out.tr (by (repeat (first | assumption | exact Ext.rf _ | apply Ext.drew | apply Ext.drewN | apply Ext.alloc)))⟩
set_option maxRecDepth 100000 in
set_option maxHeartbeats 1000000 in
theorem told3_any (i : InstP) (us : List Value) (P : Option Addr) (c : Nat) (q : List Nat) (w : World) (H : RInst w us i) (hc : checkP i = 0) (hk : i.kind = 3) (hP : RdI w P (intsN (0 :: q))) (hl : (0 :: q).Perm (List.range i.cost.length)) :
    Calls Tryd.prog 66 #[.agg (List.toArray us), .slice P i.cost.length c] w fun e w' => e = .returned (.tuple #[.slice P i.cost.length c, .int .i64 (pathT i.cost 0 q), .int .i64 0]) ∧ Ext w w' := by
  have VC := fun (W : World) (x : Ext w W) => vcost3_any i us P c q W (H.ext x) hc hk (hP.ext x) hl
  obtain ⟨kind, nn, cap, xw, xv, co⟩ := i
  obtain ⟨A, a, B, b, D, d, rfl, -, -, -⟩ := H
  simp only at *
  generalize pathT co 0 q = cc at *
  replace VC := Lib.hid VC
  clear hc hk hP hl
  go_enter Tryd.func66, Tryd.ntmps66
  go_wp2_with (fail)
  refine (VC.out _ (by (repeat (first | assumption | exact Ext.rf _ | apply Ext.drew | apply Ext.drewN | apply Ext.alloc)))).mono ?_
  rintro e w1 ⟨rfl, x1⟩
  have X1 := Lib.hid (Ext.tr (a := w) (by (repeat (first | assumption | exact Ext.rf _ | apply Ext.drew | apply Ext.drewN | apply Ext.alloc))) x1)
  clear x1
  go_wp2_with (fail)
  go_ret3
  exact ⟨rfl, X1.out.tr (by (repeat (first | assumption | exact Ext.rf _ | apply Ext.drew | apply Ext.drewN | apply Ext.alloc)))⟩
end Go.Proofs.YtleckhbmciiooaaDoor
namespace Go.Proofs.YtleckhbmciiooaaDoor
open Go.RowKit Go.ChangeShapes Go.WideShapes Go.ChangeAt

/-- the first i and the last i have changed places -/
def RevTo (xs ys : List Int) (i : Nat) : Prop := ys.length = xs.length ∧ ∀ k, k < xs.length → ys[k]? = if k < i ∨ xs.length - i ≤ k then xs[xs.length - 1 - k]? else xs[k]?
theorem RevTo.start (xs : List Int) : RevTo xs xs 0 := ⟨rfl, fun k hk => by rw [if_neg (by omega)]⟩
theorem RevTo.step {xs ys : List Int} {i : Nat} {x y : Int} (h : RevTo xs ys i) (hi : i + i + 1 < xs.length) (hx : ys[i]? = some x) (hy : ys[xs.length - 1 - i]? = some y) : RevTo xs ((ys.set i y).set (xs.length - 1 - i) x) (i + 1) := by
  obtain ⟨h1, h2⟩ := h
  have ei := h2 i (by omega)
  have ej := h2 (xs.length - 1 - i) (by omega)
  rw [if_neg (by omega), hx] at ei
  rw [if_neg (by omega), hy] at ej
  refine ⟨by simpa using h1, fun k hk => ?_⟩
  by_cases hkj : xs.length - 1 - i = k
  · subst hkj
    rw [List.getElem?_set_self (by simp; omega), if_pos (by omega), show xs.length - 1 - (xs.length - 1 - i) = i by omega, ← ei]
  · rw [List.getElem?_set_ne hkj]
    by_cases hki : i = k
    · subst hki
      rw [List.getElem?_set_self (by omega), if_pos (by omega), ← ej]
    · rw [List.getElem?_set_ne hki, h2 k hk]
      by_cases hc : k < i ∨ xs.length - i ≤ k
      · rw [if_pos hc, if_pos (by omega)]
      · rw [if_neg hc, if_neg (by omega)]
theorem RevTo.done {xs ys : List Int} {i : Nat} (h : RevTo xs ys i) (hi : xs.length ≤ i + i + 1) : ys = xs.reverse := by
  obtain ⟨h1, h2⟩ := h
  apply List.ext_getElem?
  intro k
  by_cases hk : k < xs.length
  · rw [h2 k hk, List.getElem?_reverse hk]
    split
    · rfl
    · rw [show xs.length - 1 - k = k by omega]
  · rw [List.getElem?_eq_none (by omega), List.getElem?_eq_none (by simp; omega)]
theorem reverse_any (A : Option Addr) (c base : Nat) (xs : List Int) (w : World) (h : OwI w base A c xs) (hl : xs.length ≤ 2 ^ 44) :
    Calls Tryd.prog 70 #[.slice A xs.length c] w fun e w' => e = .returned (.tuple #[]) ∧ OwI w' base A c xs.reverse ∧ Mod (fun k => bl A = some k) w w' := by
  go_enter Tryd.func70, Tryd.ntmps70
  go_wp2_with fail
  go_loopw [2, 3] (fun i j wr => ∃ (k : Nat) (ys : List Int), i = .int .i64 k ∧ j = .int .i64 ((xs.length : Int) - 1 - k) ∧ k + k ≤ xs.length ∧ RevTo xs ys k ∧ OwI wr base A c ys ∧ Mod (fun k => bl A = some k) w wr) (fun i _ _ => xs.length - (intOf i).toNat)
  case atStart => exact ⟨0, xs, rfl, by simp, by omega, RevTo.start _, h, Mod.rf _⟩
  case round =>
    obtain ⟨k, ys, rfl, rfl, hk, hr, ho, hm⟩ := hrel
    by_cases hlt : k + k + 1 < xs.length
    · have hly : ys.length = xs.length := hr.1
      obtain ⟨g, x, rfl, hg, hgl, hc1, hf1, hx, hs1⟩ := ho.at (k := k) (by omega)
      obtain ⟨y, hc2, hf2, _, hy, _⟩ := ho.cell (k := xs.length - 1 - k) (by omega)
      obtain ⟨_, _, _, _, _, hs2⟩ := (hs1.out y).cell (k := xs.length - 1 - k) (by rw [List.length_set]; omega)
      have hr2 := Lib.hid (hr.step hlt hx.out hy.out)
      replace hly := Lib.hid hly
      replace hr := Lib.hid hr
      replace ho := Lib.hid ho
      have hlt' : (k : Int) < (xs.length : Int) - 1 - k := by omega
      have hej : (xs.length : Int) - 1 - (k : Int) = ((xs.length - 1 - k : Nat) : Int) := by omega
      rw [hej] at hlt' ⊢
      generalize hj : xs.length - 1 - k = j at *
      have hkj : k < j := by omega
      have hjl : j < xs.length := by omega
      replace hj := Lib.hid hj
      replace hej := Lib.hid hej
      go_wp2_with (go_region)
      go_roundw
      case rel => exact ⟨k + 1, _, by go_num, by congr 1; have := hej.out; omega, by omega, hr2.out, (hs2.out x).ext ((Ext.rf _).drew), ((hm.set (p := ⟨g, k, none⟩) (.inl rfl) _).set (p := ⟨g, j, none⟩) (.inl rfl) _).drew⟩
      case measure => simp [intOf]; omega
    · have hle : ¬ (k : Int) < (xs.length : Int) - 1 - k := by omega
      go_wp2
      go_end0
      exact ⟨rfl, by have := hr.done (by omega); rw [← this]; exact ho, hm⟩
end Go.Proofs.YtleckhbmciiooaaDoor
namespace Go.Proofs.YtleckhbmciiooaaDoor

/-- so many rows have their columns: no way costs less than its prices, a row's own just them -/
structure HI (n : Nat) (cst : Nat → Nat → Int) (r : Nat) (u v : Nat → Int) (has : Nat → Nat) : Prop where
  le : ∀ c, 1 ≤ c → c ≤ n → has c ≤ r
  all : ∀ i, 1 ≤ i → i ≤ r → ∃ c, 1 ≤ c ∧ c ≤ n ∧ has c = i
  inj : ∀ c c', 1 ≤ c → c ≤ n → 1 ≤ c' → c' ≤ n → has c = has c' → has c ≠ 0 → c = c'
  slack : ∀ i c, 1 ≤ i → i ≤ n → 1 ≤ c → c ≤ n → u i + v c ≤ cst i c
  tight : ∀ c, 1 ≤ c → c ≤ n → has c ≠ 0 → cst (has c) c = u (has c) + v c
  free : ∀ c, 1 ≤ c → c ≤ n → has c = 0 → v c = 0
  neg : ∀ c, 1 ≤ c → c ≤ n → v c ≤ 0
  pos : ∀ i, 0 ≤ u i
  fresh : ∀ i, r < i → u i = 0
theorem HI.start {n : Nat} {cst : Nat → Nat → Int} (num : ∀ i c, 1 ≤ i → i ≤ n → 1 ≤ c → c ≤ n → 0 ≤ cst i c) : HI n cst 0 (fun _ => 0) (fun _ => 0) (fun _ => 0) where
  le := fun _ _ _ => Nat.le_refl _
  all := fun i h1 h2 => by omega
  inj := fun _ _ _ _ _ _ _ h => absurd rfl h
  slack := fun i c h1 h2 h3 h4 => by have := num i c h1 h2 h3 h4; omega
  tight := fun _ _ _ h => absurd rfl h
  free := fun _ _ _ _ => rfl
  neg := fun _ _ _ => Int.le_refl _
  pos := fun _ => Int.le_refl _
  fresh := fun _ _ => rfl
/-- no more numbers below n than n, each once -/
theorem nodup_le {l : List Nat} {n : Nat} (hd : l.Nodup) (h : ∀ x ∈ l, x < n) : l.length ≤ n := by
  have hp : l.Perm ((List.range n).filter fun x => decide (x ∈ l)) := by
    refine (List.perm_ext_iff_of_nodup hd (List.Pairwise.filter _ List.nodup_range)).2 fun x => ?_
    rw [List.mem_filter, List.mem_range]
    exact ⟨fun hx => ⟨h x hx, decide_eq_true hx⟩, fun hx => of_decide_eq_true hx.2⟩
  rw [hp.length_eq]
  have := List.length_filter_le (fun x => decide (x ∈ l)) (List.range n)
  rwa [List.length_range] at this
/-- as long as a row has none there is a column that nobody has -/
theorem HI.some_free {n : Nat} {cst : Nat → Nat → Int} {r : Nat} {u v : Nat → Int} {has : Nat → Nat} (h : HI n cst r u v has) (hr : r < n) : ∃ c, 1 ≤ c ∧ c ≤ n ∧ has c = 0 := by
  cases hd : decide (∃ c, c < n ∧ has (c + 1) = 0) with
  | true =>
    obtain ⟨c, h1, h2⟩ := of_decide_eq_true hd
    exact ⟨c + 1, by omega, by omega, h2⟩
  | false =>
    exfalso
    have hn := of_decide_eq_false hd
    have hne : ∀ c, c < n → has (c + 1) ≠ 0 := fun c hc e => hn ⟨c, hc, e⟩
    have hl := nodup_le (l := (List.range n).map fun c => has (c + 1) - 1) (n := r) ?_ ?_
    · rw [List.length_map, List.length_range] at hl
      omega
    · refine (List.pairwise_map.2 ?_)
      refine List.Pairwise.imp_of_mem ?_ List.nodup_range
      intro a b ha hb hab e
      have ha := List.mem_range.1 ha
      have hb := List.mem_range.1 hb
      have h1 := hne a ha
      have h2 := hne b hb
      have := h.inj (a + 1) (b + 1) (by omega) (by omega) (by omega) (by omega) (by omega) h1
      exact hab (by omega)
    · intro x hx
      obtain ⟨c, hc, rfl⟩ := List.mem_map.1 hx
      have hc := List.mem_range.1 hc
      have h1 := hne c hc
      have h2 := h.le (c + 1) (by omega) (by omega)
      omega
/-- while a way grows: L are the columns that were seen, in their order; at is where one stands -/
structure GI (n : Nat) (cst : Nat → Nat → Int) (far : Int) (R : Nat) (has : Nat → Nat) (L : List Nat) (at' : Nat) (u v least : Nat → Int) (frm : Nat → Nat) : Prop where
  nodup : (L ++ [at']).Nodup
  first : (L ++ [at']).head? = some 0
  le : ∀ c ∈ L ++ [at'], c ≤ n
  seen : ∀ c ∈ L, has c ≠ 0
  way : ∀ (A B : List Nat) (c : Nat), L ++ [at'] = A ++ c :: B → A ≠ [] → frm c ∈ A ∧ cst (has (frm c)) c = u (has (frm c)) + v c
  slack : ∀ i c, 1 ≤ i → i ≤ n → 1 ≤ c → c ≤ n → u i + v c ≤ cst i c
  tight : ∀ c, 1 ≤ c → c ≤ n → has c ≠ 0 → cst (has c) c = u (has c) + v c
  free : ∀ c, 1 ≤ c → c ≤ n → has c = 0 → v c = 0
  neg : ∀ c, 1 ≤ c → c ≤ n → v c ≤ 0
  pos : ∀ i, 0 ≤ u i
  fresh : ∀ i, R < i → u i = 0
  far0 : L = [] → ∀ c, 1 ≤ c → c ≤ n → least c = far
  least1 : ∀ c, 1 ≤ c → c ≤ n → c ∉ L → ∀ s ∈ L, least c ≤ cst (has s) c - u (has s) - v c
  least2 : L ≠ [] → ∀ c, 1 ≤ c → c ≤ n → c ∉ L → frm c ∈ L ∧ least c = cst (has (frm c)) c - u (has (frm c)) - v c
/-- what the rows that have columns, and the new one, are -/
structure HasOk (n R : Nat) (has : Nat → Nat) : Prop where
  le : ∀ c, c ≤ n → has c ≤ R
  zero : has 0 = R
  inj : ∀ c c', c ≤ n → c' ≤ n → has c = has c' → has c ≠ 0 → c = c'
  all : ∀ i, 1 ≤ i → i ≤ R → ∃ c, c ≤ n ∧ has c = i
theorem HI.hasOk {n : Nat} {cst : Nat → Nat → Int} {r : Nat} {u v : Nat → Int} {has has' : Nat → Nat} (h : HI n cst r u v has) (h0 : has' 0 = r + 1) (hs : ∀ c, 1 ≤ c → has' c = has c) : HasOk n (r + 1) has' where
  le := fun c hc => by
    by_cases e : c = 0
    · subst e; omega
    · rw [hs c (by omega)]
      have := h.le c (by omega) hc
      omega
  zero := h0
  inj := fun c c' hc hc' e hne => by
    by_cases e0 : c = 0
    · subst e0
      by_cases e1 : c' = 0
      · exact e1.symm
      · rw [hs c' (by omega), h0] at e
        have := h.le c' (by omega) hc'
        omega
    · by_cases e1 : c' = 0
      · subst e1
        rw [hs c (by omega), h0] at e
        have := h.le c (by omega) hc
        omega
      · rw [hs c (by omega), hs c' (by omega)] at e
        rw [hs c (by omega)] at hne
        exact h.inj c c' (by omega) hc (by omega) hc' e hne
  all := fun i h1 h2 => by
    by_cases e : i = r + 1
    · exact ⟨0, by omega, by rw [h0, e]⟩
    · obtain ⟨c, k1, k2, k3⟩ := h.all i h1 (by omega)
      exact ⟨c, k2, by rw [hs c k1]; exact k3⟩
theorem HI.grow {n : Nat} {cst : Nat → Nat → Int} {r : Nat} {u v least : Nat → Int} {has has' frm : Nat → Nat} {far : Int} (h : HI n cst r u v has) (hs : ∀ c, 1 ≤ c → has' c = has c) (hf : ∀ c, 1 ≤ c → c ≤ n → least c = far) : GI n cst far (r + 1) has' [] 0 u v least frm where
  nodup := by simp
  first := rfl
  le := fun c hc => by simp at hc; omega
  seen := fun c hc => by cases hc
  way := fun A B c e hA => by
    exfalso
    have := congrArg List.length e
    cases A with
    | nil => exact hA rfl
    | cons a A => simp at this
  slack := h.slack
  tight := fun c h1 h2 h3 => by
    rw [hs c h1] at h3 ⊢
    exact h.tight c h1 h2 h3
  free := fun c h1 h2 h3 => by
    rw [hs c h1] at h3
    exact h.free c h1 h2 h3
  neg := h.neg
  pos := h.pos
  fresh := fun i hi => h.fresh i (by omega)
  far0 := fun _ => hf
  least1 := fun c _ _ _ s hs => by cases hs
  least2 := fun h => absurd rfl h
section
variable {n R : Nat} {cst : Nat → Nat → Int} {far : Int} {has frm frm' : Nat → Nat} {L : List Nat} {a next : Nat} {u v least least' u' v' least2 : Nat → Int} {step : Int}
theorem GI.notin (h : GI n cst far R has L a u v least frm) : a ∉ L := fun ha => by
  have := List.nodup_append.1 h.nodup
  exact this.2.2 a ha a (by simp) rfl
/-- one round: the least ones are reckoned anew over the row of where one stands; all prices turn by the least of them -/
theorem GI.round (h : GI n cst far R has L a u v least frm) (ho : HasOk n R has) (hRn : R ≤ n) (hfar : ∀ i c, 1 ≤ i → i ≤ n → 1 ≤ c → c ≤ n → cst i c - u i - v c < far) (ha : has a ≠ 0)
    (k1 : ∀ c, 1 ≤ c → c ≤ n → c ∉ L ++ [a] → (cst (has a) c - u (has a) - v c < least c ∧ least' c = cst (has a) c - u (has a) - v c ∧ frm' c = a) ∨ (least c ≤ cst (has a) c - u (has a) - v c ∧ least' c = least c ∧ frm' c = frm c))
    (k1' : ∀ c, c ∈ L ++ [a] → frm' c = frm c)
    (k2 : 1 ≤ next ∧ next ≤ n ∧ next ∉ L ++ [a] ∧ step = least' next ∧ ∀ c, 1 ≤ c → c ≤ n → c ∉ L ++ [a] → step ≤ least' c)
    (k3 : ∀ i, u' i = if ∃ s, s ∈ L ++ [a] ∧ has s = i then u i + step else u i) (k4 : ∀ c, 1 ≤ c → c ≤ n → v' c = if c ∈ L ++ [a] then v c - step else v c) (k5 : ∀ c, 1 ≤ c → c ≤ n → c ∉ L ++ [a] → least2 c = least' c - step) :
    GI n cst far R has (L ++ [a]) next u' v' least2 frm' ∧ 0 ≤ step := by
  obtain ⟨n1, n2, n3, n4, n5⟩ := k2
  have hseen : ∀ s ∈ L ++ [a], has s ≠ 0 ∧ s ≤ n := fun s hs => by
    refine ⟨?_, h.le s hs⟩
    rcases List.mem_append.1 hs with hs | hs
    · exact h.seen s hs
    · obtain rfl := List.mem_singleton.1 hs
      exact ha
  have hrow : ∀ s ∈ L ++ [a], 1 ≤ has s ∧ has s ≤ n := fun s hs => by
    have := hseen s hs
    have h2 := ho.le s this.2
    omega
  -- the least ones over all that are seen now
  have l1 : ∀ c, 1 ≤ c → c ≤ n → c ∉ L ++ [a] → ∀ s ∈ L ++ [a], least' c ≤ cst (has s) c - u (has s) - v c := fun c h1 h2 h3 s hs => by
    have hcL : c ∉ L := fun hc => h3 (List.mem_append_left _ hc)
    have hk := k1 c h1 h2 h3
    rcases List.mem_append.1 hs with hs | hs
    · have := h.least1 c h1 h2 hcL s hs
      rcases hk with hk | hk <;> omega
    · obtain rfl := List.mem_singleton.1 hs
      rcases hk with hk | hk <;> omega
  have l2 : ∀ c, 1 ≤ c → c ≤ n → c ∉ L ++ [a] → frm' c ∈ L ++ [a] ∧ least' c = cst (has (frm' c)) c - u (has (frm' c)) - v c := fun c h1 h2 h3 => by
    have hcL : c ∉ L := fun hc => h3 (List.mem_append_left _ hc)
    rcases k1 c h1 h2 h3 with ⟨_, e1, e2⟩ | ⟨g1, e1, e2⟩
    · rw [e1, e2]
      exact ⟨by simp, rfl⟩
    · by_cases hL : L = []
      · exfalso
        have := h.far0 hL c h1 h2
        have h4 := hrow a (by simp)
        have := hfar (has a) c h4.1 h4.2 h1 h2
        omega
      · have := h.least2 hL c h1 h2 hcL
        rw [e1, e2]
        exact ⟨List.mem_append_left _ this.1, this.2⟩
  have hst : 0 ≤ step := by
    obtain ⟨m1, m2⟩ := l2 next n1 n2 n3
    have hr := hrow _ m1
    have := h.slack (has (frm' next)) next hr.1 hr.2 n1 n2
    omega
  have ex : ∀ i, (∃ s, s ∈ L ++ [a] ∧ has s = i) ∨ ¬ ∃ s, s ∈ L ++ [a] ∧ has s = i := fun i => Classical.em _
  have uin : ∀ s ∈ L ++ [a], u' (has s) = u (has s) + step := fun s hs => by rw [k3, if_pos ⟨s, hs, rfl⟩]
  have ule : ∀ i, u i ≤ u' i := fun i => by
    rw [k3]
    split <;> omega
  refine ⟨⟨?_, ?_, ?_, fun c hc => (hseen c hc).1, ?_, ?_, ?_, ?_, ?_, ?_, ?_, ?_, ?_, ?_⟩, hst⟩
  · exact List.nodup_append.2 ⟨h.nodup, by simp, fun x hx y hy e => by
      obtain rfl := List.mem_singleton.1 hy
      exact n3 (e ▸ hx)⟩
  · have := h.first
    rw [List.head?_append, this]
    rfl
  · intro c hc
    rcases List.mem_append.1 hc with hc | hc
    · exact h.le c hc
    · obtain rfl := List.mem_singleton.1 hc
      exact n2
  · -- the ways
    intro A B c e hA
    rcases List.eq_nil_or_concat B with rfl | ⟨B', b, rfl⟩
    · have e' : (L ++ [a]) ++ [next] = A ++ [c] := by simpa using e
      obtain ⟨e1, e2⟩ := List.append_inj' e' rfl
      obtain rfl : next = c := by simpa using e2
      subst e1
      obtain ⟨m1, m2⟩ := l2 next n1 n2 n3
      refine ⟨m1, ?_⟩
      rw [uin _ m1, k4 next n1 n2, if_neg n3]
      omega
    · rw [List.concat_eq_append] at e
      have e' : (L ++ [a]) ++ [next] = (A ++ c :: B') ++ [b] := by simpa using e
      obtain ⟨e1, _⟩ := List.append_inj' e' rfl
      have hc : c ∈ L ++ [a] := by rw [e1]; simp
      obtain ⟨m1, m2⟩ := h.way A B' c e1 hA
      rw [k1' c hc]
      refine ⟨m1, ?_⟩
      have hfc : frm c ∈ L ++ [a] := by rw [e1]; exact List.mem_append_left _ m1
      have c1 : 1 ≤ c := by
        rcases Nat.eq_zero_or_pos c with rfl | h1
        · exfalso
          cases A with
          | nil => exact hA rfl
          | cons x A =>
            have hf := h.first
            rw [e1] at hf
            obtain rfl : x = 0 := by simpa using hf
            have hn := h.nodup
            rw [e1] at hn
            exact (List.nodup_cons.1 hn).1 (by simp)
        · exact h1
      rw [uin _ hfc, k4 c c1 (h.le c hc), if_pos hc]
      omega
  · -- no way costs less than its prices
    intro i c h1 h2 h3 h4
    have hs := h.slack i c h1 h2 h3 h4
    rw [k3, k4 c h3 h4]
    by_cases hc : c ∈ L ++ [a]
    · rw [if_pos hc]
      split <;> omega
    · rw [if_neg hc]
      split
      · rename_i hi
        obtain ⟨s, hs1, rfl⟩ := hi
        have g1 := l1 c h3 h4 hc s hs1
        have g2 := n5 c h3 h4 hc
        omega
      · exact hs
  · -- a row's own way costs just its prices
    intro c h1 h2 h3
    have ht := h.tight c h1 h2 h3
    rw [k3, k4 c h1 h2]
    by_cases hc : c ∈ L ++ [a]
    · rw [if_pos ⟨c, hc, rfl⟩, if_pos hc]
      omega
    · rw [if_neg hc, if_neg]
      · exact ht
      · rintro ⟨s, hs1, hs2⟩
        have := ho.inj s c (hseen s hs1).2 h2 hs2 (hseen s hs1).1
        exact hc (this ▸ hs1)
  · intro c h1 h2 h3
    rw [k4 c h1 h2, if_neg (fun hc => (hseen c hc).1 h3)]
    exact h.free c h1 h2 h3
  · intro c h1 h2
    have := h.neg c h1 h2
    rw [k4 c h1 h2]
    split <;> omega
  · intro i
    have := h.pos i
    have := ule i
    omega
  · intro i hi
    rw [k3, if_neg]
    · exact h.fresh i hi
    · rintro ⟨s, hs1, hs2⟩
      have := ho.le s (hseen s hs1).2
      omega
  · intro e
    simp at e
  · intro c h1 h2 h3 s hs
    have g1 := l1 c h1 h2 h3 s hs
    rw [k5 c h1 h2 h3, uin s hs, k4 c h1 h2, if_neg h3]
    omega
  · intro _ c h1 h2 h3
    obtain ⟨m1, m2⟩ := l2 c h1 h2 h3
    refine ⟨m1, ?_⟩
    rw [k5 c h1 h2 h3, uin _ m1, k4 c h1 h2, if_neg h3]
    omega
end
end Go.Proofs.YtleckhbmciiooaaDoor
namespace Go.Proofs.YtleckhbmciiooaaDoor
open Go.RowKit Go.ChangeShapes Go.WideShapes Go.ChangeAt Go.Deep

/-- no tour costs less -/
def LeastT (rows : List (List Int)) (n : Nat) (c : Int) : Prop := (∃ q : List Nat, (0 :: q).Perm (List.range n) ∧ pathT rows 0 q = c) ∧ ∀ q : List Nat, (0 :: q).Perm (List.range n) → c ≤ pathT rows 0 q
def TourPost (rows : List (List Int)) (w : World) (e : Ending) (w' : World) : Prop :=
  ∃ A c q, e = .returned (.tuple #[.slice A rows.length c, .int .i64 (pathT rows 0 q), .int .i64 0]) ∧ RdI w' A (intsN (0 :: q)) ∧ (0 :: q).Perm (List.range rows.length) ∧ rows.length ≤ c ∧ c ≤ maxLen ∧ LeastT rows rows.length (pathT rows 0 q) ∧ Ext w w'
/-- the first place of the least so far -/
def argT (f : Nat → Int) : Nat → Nat
  | 0 => 0
  | k + 1 => if f k < f (argT f k) then k else argT f k
theorem argT_lt {f : Nat → Int} {n : Nat} (h : 1 ≤ n) : ∀ k, k ≤ n → argT f k < n
  | 0, _ => by simp only [argT]; omega
  | k + 1, hk => by
    have := argT_lt (f := f) h k (by omega)
    unfold argT
    split <;> omega
theorem argT_le {f : Nat → Int} : ∀ k j, j < k → f (argT f k) ≤ f j
  | 0, j, h => by omega
  | k + 1, j, h => by
    unfold argT
    by_cases e : j = k
    · subst e
      split <;> omega
    · have := argT_le (f := f) k j (by omega)
      split <;> omega
/-- a row of rows that is made, in whatever order -/
theorem op_make_r {ops : Array Oper} {i : Nat} {t : TypeId} {d : Option Tmp} {a : Act} {w : World} {K : Act → World → Prop} {Q : Exit → Act → World → Prop} {x y : Operand} (hi : opAt ops i = some (none, .makeSlice 23 x y, t, d)) (n : Nat) (L : Int) (hx : a.eval x = .int .i64 L) (hy : a.eval y = .int .i64 L) (hL : L = (n : Int)) (hn : n ≤ 2 ^ 40)
    (hK : ∀ w', (∃ cs, Blk w' w.heap.size 22 cs ∧ cs.size = n) → Ext w w' → K (a.put d (.slice (some ⟨w.heap.size, 0, none⟩) n n)) w') : wpOp Tryd.prog ops Q i K a w := by
  obtain ⟨i0, hi0, hz0, hz1, hz2⟩ := info_parts row_info
  subst hL
  obtain ⟨w', hrun, h2, h3⟩ := run_make_full (P := Tryd.prog) w w.heap.size 23 22 i0 _ 1 Tryd.underlying23 hi0 hz0 hz1 .i64 .i64 n (by rw [hz2]; omega) (by simp only [maxLen]; omega) (Nat.le_refl _)
  refine op_run hi _ (by simp [exec2, execOp, hx, hy, hrun]) (hK w' ?_ ((Ext.rf _).grownNone h3))
  rcases OwV.cases h2 with ⟨e, _⟩ | ⟨g, cur, e, _, hg, _, _, hs, _⟩
  · cases e
  · obtain rfl : w.heap.size = g := by simpa using e
    exact ⟨cur, hg, by simpa using hs⟩
set_option maxRecDepth 100000 in
set_option maxHeartbeats 1000000 in
theorem tour_any (i : InstP) (us : List Value) (w : World) (H : RInst w us i) (hc : checkP i = 0) (hk : i.kind = 3) (h12 : i.n ≤ 12) :
    Calls Tryd.prog 32 #[.agg (List.toArray us)] w (TourPost i.cost w) := by
  have sq := square_ok hc (by omega)
  have rok := rows_ok sq
  have hln := sq.len
  have n1 := rok.n1
  obtain ⟨n, hn⟩ : ∃ n, i.cost.length = n + 1 := ⟨i.cost.length - 1, by omega⟩
  have n11 : n ≤ 11 := by omega
  have hin : i.n = n + 1 := by omega
  obtain ⟨N, hN⟩ : ∃ N, N = 2 ^ n := ⟨_, rfl⟩
  have num := ends_num rok
  have TK := fun (W : World) (x : Ext w W) => takes3_any i us W (H.ext x) hc hk h12
  have TO := fun (P : Option Addr) (c : Nat) (q : List Nat) (W : World) (x : Ext w W) (hP : RdI W P (intsN (0 :: q))) (hl : (0 :: q).Perm (List.range i.cost.length)) => told3_any i us P c q W (H.ext x) hc hk hP hl
  have FI := fun (W : World) (x : Ext w W) (gp tc tb : Nat) (n1 : 1 ≤ n) (hP : Blk W gp 110 #[.slice (some ⟨tc, 0, none⟩) N N, .slice (some ⟨tb, 0, none⟩) N N]) (S1 : FillS i.cost n N W W w.heap.size tc tb 1) (hc : w.heap.size ≤ tc) (hb : w.heap.size ≤ tb) (hcb : tc ≠ tb) => fill_any i us w W H x rok n N gp tc tb hin hn n1 n11 hN hP S1 hc hb hcb
  obtain ⟨kind, nn, cap, xw, xv, co⟩ := i
  obtain ⟨A, a, B, b, D, d, rfl, -, -, hC, -⟩ := H
  simp only at *
  subst hk hin
  unfold TourPost
  rw [hn] at TK TO FI num ⊢
  have B1 : Hid (Blk (w.alloc (.cells #[.int .i64 3, .int .i64 (n + 1), .int .i64 cap, .slice A xw.length a, .slice B xv.length b, .slice D (n + 1) d] 25)) w.heap.size 25 #[.int .i64 3, .int .i64 (n + 1), .int .i64 cap, .slice A xw.length a, .slice B xv.length b, .slice D (n + 1) d]) := .new rfl
  have wn1 : IntKind.i64.wrap ((n : Int) + 1 - 1) = (n : Int) := by rw [show (n : Int) + 1 - 1 = (n : Int) by omega]; exact IntWalk.i64_in _ (by omega)
  have CA := Lib.hid (fun (W : World) (x : Ext w W) (r c : Nat) (hr : r < n + 1) (hc : c < n + 1) => cost_at rok (hC.ext x fun _ _ h => h.ext x) (r := r) (c := c) (by omega) (by omega))
  rw [hn] at CA
  have N2 : N ≤ 2048 := by
    have : 2 ^ n ≤ 2 ^ 11 := Nat.pow_le_pow_right (by omega) n11
    omega
  have SH : IntKind.i64.wrap ((2 : Int) ^ n) = (N : Int) := by rw [hN]; exact shl_wrap_i64 n (by omega)
  replace TK := Lib.hid TK
  replace TO := Lib.hid TO
  replace FI := Lib.hid FI
  replace num := Lib.hid num
  replace hn := Lib.hid hn
  replace hN := Lib.hid hN
  clear hc hC rok sq n1 h12 hln
  go_enter Tryd.func32, Tryd.ntmps32
  go_wp2_with (fail)
  refine (TK.out _ (by (repeat (first | assumption | exact Ext.rf _ | apply Ext.drew | apply Ext.drewN | apply Ext.alloc)))).mono ?_
  rintro e w1 ⟨rfl, x1⟩
  have X1 := Lib.hid (Ext.tr (a := w) (by (repeat (first | assumption | exact Ext.rf _ | apply Ext.drew | apply Ext.drewN | apply Ext.alloc))) x1)
  have b1 := Lib.hid (B1.out.ext x1)
  have t1 : w1.cell? ⟨w.heap.size, 1, none⟩ = some (.int .i64 (n + 1)) := b1.out.cell 1
  clear x1 B1
  by_cases hz : n = 0
  · have q0 : ((n : Int) == 0) = true := by rw [beq_iff_eq]; omega
    have t0 : w1.cell? ⟨w.heap.size, 0, none⟩ = some (.int .i64 3) := b1.out.cell 0
    have t2 : w1.cell? ⟨w.heap.size, 2, none⟩ = some (.int .i64 cap) := b1.out.cell 2
    have t3 : w1.cell? ⟨w.heap.size, 3, none⟩ = some (.slice A xw.length a) := b1.out.cell 3
    have t4 : w1.cell? ⟨w.heap.size, 4, none⟩ = some (.slice B xv.length b) := b1.out.cell 4
    have t5 : w1.cell? ⟨w.heap.size, 5, none⟩ = some (.slice D (n + 1) d) := b1.out.cell 5
    have PR : Hid ((0 :: ([] : List Nat)).Perm (List.range (n + 1))) := by
      have h : (0 :: ([] : List Nat)).Perm (List.range (n + 1)) := by rw [hz]; exact List.Perm.refl _
      exact h
    have TT : Hid (∀ (m : Nat), m = n + 1 → ∀ W : World, Ext w1 W → ∀ P, RdI W P (intsN [0]) → Calls Tryd.prog 66 #[.agg #[.int .i64 3, .int .i64 (n + 1), .int .i64 cap, .slice A xw.length a, .slice B xv.length b, .slice D (n + 1) d], .slice P m 1] W fun e w' => e = .returned (.tuple #[.slice P m 1, .int .i64 (pathT co 0 []), .int .i64 0]) ∧ Ext W w') := fun m hm W x P hP => by
      subst hm
      exact TO.out P 1 [] W (X1.out.tr x) hP PR.out
    have hD1 : Hid (n + 1 = 1) := by
      have h : n + 1 = 1 := by omega
      exact h
    have LT : Hid (LeastT co (n + 1) (pathT co 0 [])) := ⟨⟨_, PR.out, rfl⟩, fun q hq => by
      have h := hq.length_eq
      rw [List.length_range, hz] at h
      obtain rfl : q = [] := List.eq_nil_of_length_eq_zero (by simpa using h)
      exact Int.le_refl _⟩
    replace hz := Lib.hid hz
    go_wp2_with (fail)
    refine (TT.out 1 hD1.out.symm _ (by (repeat (first | assumption | exact Ext.rf _ | apply Ext.drew | apply Ext.drewN | apply Ext.alloc))) _ (.blk (by (first | exact .new (by simp) | exact .drew (.new (by simp)) | exact .alloc (.new (by simp)) _ | exact .drew (.alloc (.new (by simp)) _) | exact .alloc (.alloc (.new (by simp)) _) _ | exact .drew (.alloc (.alloc (.new (by simp)) _) _) | (repeat (first | assumption | (refine Blk.new ?_; (focus (simp; done))) | apply Blk.drew | apply Blk.drewN | apply Blk.alloc)))) rfl)).mono ?_
    rintro e w3 ⟨rfl, x3⟩
    have X3 : Hid (Ext w w3) := X1.out.tr (Ext.tr (by (repeat (first | assumption | exact Ext.rf _ | apply Ext.drew | apply Ext.drewN | apply Ext.alloc))) x3)
    have R3 : Hid (RdI w3 (some ⟨w1.heap.size, 0, none⟩) (intsN [0])) := RdI.ext (.blk (by (first | exact .new (by simp) | exact .drew (.new (by simp)) | exact .alloc (.new (by simp)) _ | exact .drew (.alloc (.new (by simp)) _) | exact .alloc (.alloc (.new (by simp)) _) _ | exact .drew (.alloc (.alloc (.new (by simp)) _) _) | (repeat (first | assumption | (refine Blk.new ?_; (focus (simp; done))) | apply Blk.drew | apply Blk.drewN | apply Blk.alloc)))) rfl) x3
    clear x3 t0 t1 t2 t3 t4 t5 TT
    go_wp2_with (fail)
    go_ret3
    exact ⟨some ⟨w1.heap.size, 0, none⟩, 1, [], by rw [hD1.out]; rfl, R3.out, PR.out, by rw [hD1.out]; exact Nat.le_refl _, by simp [maxLen], LT.out, X3.out⟩
  · have q0 : ((n : Int) == 0) = false := by rw [beq_eq_false_iff_ne]; omega
    have n1 : 1 ≤ n := by omega
    go_wp2_with (fail)
    go_cut [7] (fun v7 wx => ∃ gp tc tb, v7 = .pointer (some ⟨gp, 0, none⟩) ∧ Blk wx gp 110 #[.slice (some ⟨tc, 0, none⟩) N N, .slice (some ⟨tb, 0, none⟩) N N] ∧ FillS co n N wx wx w.heap.size tc tb 1 ∧ w1.heap.size ≤ tc ∧ w1.heap.size ≤ tb ∧ tc ≠ tb ∧ Ext w1 wx)
    case first =>
      refine wp_region_any (by kernel_rfl) ?_
      change wpAny _ _ _ _ _ _ _ (World.drew _)
      refine wpAny_T (i := 0) (op := Op.move (Operand.tmp 6)) (t := 3) (d := some 29) (v := ?_) rfl (by decide +kernel) (by decide +kernel) (by decide +kernel) (fun _ _ _ h => h) ?_ ?_
      case refine_2 => (intro _; unfold exec2; go_simp; try with_reducible rfl)
      try simp only [Act.put, List.setIfInBounds_toArray, List.set_cons_zero, List.set_cons_succ]
      refine wpAny_T (i := 1) (op := Op.binOp BinOp.shl 3 (Operand.const (Value.int IntKind.i64 1)) (Operand.tmp 29) 3) (t := 3) (d := some 30) (v := ?_) rfl (by decide +kernel) (by decide +kernel) (by decide +kernel) (fun _ _ _ h => h) ?_ ?_
      case refine_2 => (intro _; unfold exec2; go_simp; try with_reducible rfl)
      try simp only [Act.put, List.setIfInBounds_toArray, List.set_cons_zero, List.set_cons_succ]
      refine wpAny_T (i := 3) (op := Op.move (Operand.tmp 6)) (t := 3) (d := some 32) (v := ?_) rfl (by decide +kernel) (by decide +kernel) (by decide +kernel) (fun _ _ _ h => h) ?_ ?_
      case refine_2 => (intro _; unfold exec2; go_simp; try with_reducible rfl)
      try simp only [Act.put, List.setIfInBounds_toArray, List.set_cons_zero, List.set_cons_succ]
      refine wpAny_T (i := 4) (op := Op.binOp BinOp.shl 3 (Operand.const (Value.int IntKind.i64 1)) (Operand.tmp 32) 3) (t := 3) (d := some 33) (v := ?_) rfl (by decide +kernel) (by decide +kernel) (by decide +kernel) (fun _ _ _ h => h) ?_ ?_
      case refine_2 => (intro _; unfold exec2; go_simp; try with_reducible rfl)
      try simp only [Act.put, List.setIfInBounds_toArray, List.set_cons_zero, List.set_cons_succ]
      refine wpAny_core4 (n := 3) (σ := Nat → Nat) [(2, some 31), (5, some 34)] (fun _ W => Ext w1 W)
        (fun i v T W => ∃ h, v = .slice (some ⟨h, 0, none⟩) N N ∧ (∃ cs, Blk W h 22 cs ∧ cs.size = N) ∧ w1.heap.size ≤ h ∧ h < W.heap.size ∧ T h = i)
        (fun T W T' W' => Ext W W' ∧ ∀ h, h < W.heap.size → T' h = T h) #[true, true, true, true, true, true, false, false, false] (by decide +kernel) ?_ ?_ ?_ (s0 := fun _ => 0) ((Ext.rf _).drew)
      · rintro j v T W T' W' ⟨h, k1, ⟨cs, k2, k2'⟩, k3, k4, k5⟩ ⟨hx, hT⟩
        exact ⟨h, k1, ⟨cs, k2.ext hx, k2'⟩, k3, by have := hx.size; omega, by rw [hT h k4]; exact k5⟩
      · intro pq hpm u T W hRW hD K hK
        have MK : ∀ (i : Nat) (W' : World), (∃ cs, Blk W' W.heap.size 22 cs ∧ cs.size = N) → Ext W W' → (∃ h, Value.slice (some ⟨W.heap.size, 0, none⟩) N N = .slice (some ⟨h, 0, none⟩) N N ∧ (∃ cs, Blk W' h 22 cs ∧ cs.size = N) ∧ w1.heap.size ≤ h ∧ h < W'.heap.size ∧ (fun x => if x = W.heap.size then i else T x) h = i) ∧ Ext w1 W' ∧ (Ext W W' ∧ ∀ h, h < W.heap.size → (fun x => if x = W.heap.size then i else T x) h = T h) := fun i W' a x =>
          ⟨⟨_, rfl, a, hRW.size, (by obtain ⟨cs, h, _⟩ := a; exact h.lt), if_pos rfl⟩, hRW.tr x, x, fun h hh => if_neg (by omega)⟩
        simp only [List.mem_cons, List.not_mem_nil, or_false] at hpm
        rcases hpm with rfl | rfl
        · exact op_make_r rfl N (N : Int) (by kernel_rfl) (by kernel_rfl) rfl (by omega) fun W' a x => hK _ _ _ (MK 2 W' a x).1 (MK 2 W' a x).2.1 (MK 2 W' a x).2.2
        · exact op_make_r rfl N (N : Int) (by kernel_rfl) (by kernel_rfl) rfl (by omega) fun W' a x => hK _ _ _ (MK 5 W' a x).1 (MK 5 W' a x).2.1 (MK 5 W' a x).2.2
      · intro u T W hRW hV
        obtain ⟨tc, h2, ⟨c2, b2, s2⟩, z2, -, e2⟩ := hV (2, some 31) (by simp)
        obtain ⟨tb, h5, ⟨c5, b5, s5⟩, z5, -, e5⟩ := hV (5, some 34) (by simp)
        have ne : tc ≠ tb := by rintro rfl; omega
        simp only [putAll, h2, h5]
        clear hV h2 h5 e2 e5
        try simp only [Act.put, List.setIfInBounds_toArray, List.set_cons_zero, List.set_cons_succ]
        refine wpAny_T (i := 6) (op := Op.build 110 #[(0, Operand.tmp 31), (1, Operand.tmp 34)]) (t := 110) (d := some 35) (v := ?_) rfl (by decide +kernel) (by decide +kernel) (by decide +kernel) (fun _ _ _ h => h) ?_ ?_
        case refine_2 => (intro _; unfold exec2; go_simp; try with_reducible rfl)
        try simp only [Act.put, List.setIfInBounds_toArray, List.set_cons_zero, List.set_cons_succ]
        refine wpAny_next 7 (by decide +kernel) (op_run (op := .box 110 (.tmp 35)) rfl (.pointer (some ⟨W.heap.size, 0, none⟩)) (w' := W.alloc (.cells #[.slice (some ⟨tc, 0, none⟩) N N, .slice (some ⟨tb, 0, none⟩) N N] 110)) (by unfold exec2; go_simp) ?_)
        try simp only [Act.put, List.setIfInBounds_toArray, List.set_cons_zero, List.set_cons_succ]
        refine wpAny_T (i := 8) (op := Op.assign (Operand.tmp 36)) (t := 108) (d := some 7) (v := ?_) rfl (by decide +kernel) (by decide +kernel) (by decide +kernel) (fun _ _ _ h => h) ?_ ?_
        case refine_2 => (intro _; unfold exec2; go_simp; try with_reducible rfl)
        try simp only [Act.put, List.setIfInBounds_toArray, List.set_cons_zero, List.set_cons_succ]
        refine wpAny_done (by kernel_rfl) ?_ _
        have xa : Ext W (W.alloc (.cells #[.slice (some ⟨tc, 0, none⟩) N N, .slice (some ⟨tb, 0, none⟩) N N] 110)) := (Ext.rf _).alloc _
        have FS : Hid (FillS co n N (W.alloc (.cells #[.slice (some ⟨tc, 0, none⟩) N N, .slice (some ⟨tb, 0, none⟩) N N] 110)) (W.alloc (.cells #[.slice (some ⟨tc, 0, none⟩) N N, .slice (some ⟨tb, 0, none⟩) N N] 110)) w.heap.size tc tb 1) :=
          ⟨Mod.rf _, fun _ => 0, fun _ => 0, fun _ _ => 0, fun _ _ => 0, ⟨⟨c2, b2.ext xa, s2, fun g h1 h2 => by omega⟩, fun g h1 h2 => by omega⟩, ⟨⟨c5, b5.ext xa, s5, fun g h1 h2 => by omega⟩, fun g h1 h2 => by omega⟩, fun g l hg hl hb => by
            obtain rfl : g = 0 := by omega
            simp at hb, fun a b h1 h2 => by omega⟩
        go_simp
        go_wp2_with (fail)
        go_meet
        exact ⟨W.heap.size, tc, tb, rfl, .new rfl, FS.out, z2, z5, ne, hRW.tr xa⟩
    case rest =>
    obtain ⟨gp, tc, tb, rfl, hP, hF, ztc, ztb, ncb, x5⟩ := hcut
    obtain ⟨w5, rfl⟩ : ∃ w5 : World, w5 = wc := ⟨_, rfl⟩
    have X5 := Lib.hid (X1.out.tr x5)
    have b5 := Lib.hid (b1.out.ext x5)
    have t0 : w5.cell? ⟨w.heap.size, 0, none⟩ = some (.int .i64 3) := b5.out.cell 0
    have t1 : w5.cell? ⟨w.heap.size, 1, none⟩ = some (.int .i64 (n + 1)) := b5.out.cell 1
    have t2 : w5.cell? ⟨w.heap.size, 2, none⟩ = some (.int .i64 cap) := b5.out.cell 2
    have t3 : w5.cell? ⟨w.heap.size, 3, none⟩ = some (.slice A xw.length a) := b5.out.cell 3
    have t4 : w5.cell? ⟨w.heap.size, 4, none⟩ = some (.slice B xv.length b) := b5.out.cell 4
    have t5 : w5.cell? ⟨w.heap.size, 5, none⟩ = some (.slice D (n + 1) d) := b5.out.cell 5
    have zw1 := X1.out.size
    have FC := Lib.hid (FI.out w5 X5.out gp tc tb n1 hP hF (by omega) (by omega) ncb)
    have zgi := b1.out.lt
    have gne : ¬ (gp = tc ∨ gp = tb) := by
      obtain ⟨_, _, _, _, k1, k2, _⟩ := hF.tabs
      obtain ⟨cs, h3, _⟩ := k1.tab
      obtain ⟨cs2, h4, _⟩ := k2.tab
      rintro (e | e)
      · exact Blk.ne hP h3 (by decide) e
      · exact Blk.ne hP h4 (by decide) e
    replace hP := Lib.hid hP
    clear hF x5 b1 FI
    go_wp2_with (fail)
    refine FC.out.mono ?_
    rintro e w6 ⟨rfl, F6⟩
    obtain ⟨r, r2, T, Bk, hT, hB, hW, hR⟩ := F6.tabs
    have X6 : Ext w w6 := X5.out.mod F6.mod (fun k hk e => by rcases e with e | e <;> omega)
    have P6 := Lib.hid (hP.out.mod F6.mod gne)
    have b6 := Lib.hid (b5.out.mod F6.mod (fun e => by rcases e with e | e <;> omega))
    have hN' := hN.out
    subst hN'
    have z6 := X6.size
    have z6b := F6.mod.size
    have zz6 : w.heap.size < w6.heap.size := b6.out.lt
    obtain ⟨G, hG⟩ : ∃ G, Hid (2 ^ n = G + 1) := ⟨2 ^ n - 1, by
      have h : 2 ^ n = 2 ^ n - 1 + 1 := by have := Nat.two_pow_pos n; omega
      exact h⟩
    have G1 : 1 ≤ G := by
      have h := hG.out
      have : 2 ^ 1 ≤ 2 ^ n := Nat.pow_le_pow_right (by omega) n1
      omega
    have G2 : G ≤ 2047 := by have := hG.out; omega
    have GB : Hid (∀ c, c < n → G.testBit c = true) := fun c hc => by
      have h : G = 2 ^ n - 1 := by rw [hG.out]; rfl
      rw [h, full_bit]
      simpa using hc
    have num' := num.out
    have BD : Hid (∀ g l, g < 2 ^ n → l < n → g.testBit l = true → 0 ≤ T g l ∧ T g l ≤ g * 2147483647) := fun g l h1 h2 h3 => WayOk.bd (n := n) (by omega) (Nat.le_refl _) hW num.out g l h1 h2 h3
    have CT : Hid (∀ W, Ext w6 W → ∀ g, 1 ≤ g → g < 2 ^ n → ∀ l, l < n → W.cell? ⟨tc, g, none⟩ = some (.slice (some ⟨r g, 0, none⟩) n n) ∧ W.cell? ⟨r g, l, none⟩ = some (.int .i64 (T g l))) := fun W x g h1 h2 l h3 => ⟨(hT.ext x).cell h1 h2, ((hT.ext x).num h1 h2 h3).1⟩
    have CB : Hid (∀ W, Ext w6 W → ∀ g, 1 ≤ g → g < 2 ^ n → ∀ l, l < n → W.cell? ⟨tb, g, none⟩ = some (.slice (some ⟨r2 g, 0, none⟩) n n) ∧ W.cell? ⟨r2 g, l, none⟩ = some (.int .i64 ((Bk g l : Nat) : Int))) := fun W x g h1 h2 l h3 => ⟨(hB.ext x).cell h1 h2, ((hB.ext x).num h1 h2 h3).1⟩
    rw [hG.out] at SH P6
    replace X6 := Lib.hid X6
    replace hW := Lib.hid hW
    clear F6 hT hB hR b5 hP X5 t0 t1 t2 t3 t4 t5 num' FC z6b
    have wG : IntKind.i64.wrap (((G + 1 : Nat) : Int) - 1) = (G : Int) := by rw [show ((G + 1 : Nat) : Int) - 1 = (G : Int) by omega]; exact IntWalk.i64_in _ (by omega)
    obtain ⟨f, hf⟩ : ∃ f : Nat → Int, Hid (f = fun c => T G c + costAt co (c + 1) 0) := ⟨_, rfl⟩
    go_wp2_with (fail)
    go_loopw [44, 9] (fun v44 v9 wr => ∃ k : Nat, v44 = .int .i64 k ∧ v9 = .int .i64 (argT f k) ∧ k ≤ n ∧ Hid (Ext w6 wr)) (fun v44 _ _ => n - (intOf v44).toNat)
    case atStart => exact ⟨0, rfl, rfl, by omega, Ext.rf _⟩
    case round =>
      obtain ⟨wo, rfl⟩ : ∃ wo : World, wo = wr := ⟨_, rfl⟩
      obtain ⟨k, rfl, rfl, hk, X⟩ := hrel
      by_cases hkn : k < n
      · have q1 : (k : Int) < (n : Int) := by omega
        have HA : Hid (argT f (k + 1) = if f k < f (argT f k) then k else argT f k) := by
          have h : argT f (k + 1) = if f k < f (argT f k) then k else argT f k := rfl
          exact h
        have hak := argT_lt (f := f) n1 k (by omega)
        generalize argT f k = m at *
        have XW := X6.out.tr X.out
        have b9 := b6.out.ext X.out
        have P9 := P6.out.ext X.out
        have y0 : wo.cell? ⟨gp, 0, none⟩ = some (.slice (some ⟨tc, 0, none⟩) (G + 1) (G + 1)) := P9.cell 0
        have y5 : wo.cell? ⟨w.heap.size, 5, none⟩ = some (.slice D (n + 1) d) := b9.cell 5
        obtain ⟨yt, yk⟩ := CT.out wo X.out G G1 (by rw [hG.out]; omega) k hkn
        obtain ⟨-, ym⟩ := CT.out wo X.out G G1 (by rw [hG.out]; omega) m hak
        obtain ⟨cb, cof, rb, ro, d1, rfl, c1, c2⟩ := CA.out wo XW (k + 1) 0 (by omega) (by omega)
        obtain ⟨cb', cof', sb, so, d2, hD, c3, c4⟩ := CA.out wo XW (m + 1) 0 (by omega) (by omega)
        obtain ⟨rfl, rfl⟩ : cb = cb' ∧ cof = cof' := by simpa using hD
        replace c2 : wo.cell? ⟨rb, ro, none⟩ = some (.int .i64 (costAt co (k + 1) 0)) := c2
        replace c4 : wo.cell? ⟨sb, so, none⟩ = some (.int .i64 (costAt co (m + 1) 0)) := c4
        have n1' := num.out (k + 1) 0 (by omega) (by omega)
        have n2' := num.out (m + 1) 0 (by omega) (by omega)
        have e1' := BD.out G k (by rw [hG.out]; omega) hkn (GB.out k hkn)
        have e2' := BD.out G m (by rw [hG.out]; omega) hak (GB.out m hak)
        obtain ⟨rr, hrr⟩ : ∃ rr, Hid (r G = rr) := ⟨_, rfl⟩
        obtain ⟨tk, htk⟩ : ∃ tk, Hid (T G k = tk) := ⟨_, rfl⟩
        obtain ⟨tm, htm⟩ : ∃ tm, Hid (T G m = tm) := ⟨_, rfl⟩
        obtain ⟨ck, hck⟩ : ∃ ck, Hid (costAt co (k + 1) 0 = ck) := ⟨_, rfl⟩
        obtain ⟨cm, hcm⟩ : ∃ cm, Hid (costAt co (m + 1) 0 = cm) := ⟨_, rfl⟩
        obtain ⟨k1, hk1⟩ : ∃ k1, Hid (k + 1 = k1) := ⟨_, rfl⟩
        obtain ⟨m1, hm1⟩ : ∃ m1, Hid (m + 1 = m1) := ⟨_, rfl⟩
        rw [hrr.out, htk.out] at yk
        rw [hrr.out] at yt
        rw [hrr.out, htm.out] at ym
        rw [hck.out] at c2 n1'
        rw [hcm.out] at c4 n2'
        rw [htk.out] at e1'
        rw [htm.out] at e2'
        rw [hk1.out] at c1
        rw [hm1.out] at c3
        have HB : Hid (argT f (k + 1) = if tk + ck < tm + cm then k else m) := by
          have h : argT f (k + 1) = if tk + ck < tm + cm then k else m := by
            rw [HA.out]
            simp only [hf.out, htk.out, htm.out, hck.out, hcm.out]
          exact h
        have q2 : (k1 : Int) < (n : Int) + 1 := by have := hk1.out; omega
        have q3 : (m1 : Int) < (n : Int) + 1 := by have := hm1.out; omega
        have q4 : (m : Int) < (n : Int) := by omega
        have q5 : (G : Int) < ((G + 1 : Nat) : Int) := by omega
        have wk : IntKind.i64.wrap ((k : Int) + 1) = (k1 : Int) := by rw [show (k : Int) + 1 = (k1 : Int) by have := hk1.out; omega]; exact IntWalk.i64_in _ (by omega)
        have wm : IntKind.i64.wrap ((m : Int) + 1) = (m1 : Int) := by rw [show (m : Int) + 1 = (m1 : Int) by have := hm1.out; omega]; exact IntWalk.i64_in _ (by omega)
        have wa : IntKind.i64.wrap (tk + ck) = tk + ck := IntWalk.i64_in _ (by omega)
        have wb : IntKind.i64.wrap (tm + cm) = tm + cm := IntWalk.i64_in _ (by omega)
        have hl9 : Hid (k + 1 ≤ n) := by
          have h9 : k + 1 ≤ n := hkn
          exact h9
        clear HA hD n1' n2' e1' e2' b9 P9 XW
        by_cases hlt : tk + ck < tm + cm
        · have HC : Hid (argT f (k + 1) = k) := by
            have h := HB.out
            rw [if_pos hlt] at h
            exact h
          clear HB
          go_wp2_with (fail)
          go_quiet (fail)
          clear wk wm
          go_wp2_with (fail)
          go_roundw
          case rel => exact ⟨k + 1, by go_num, by rw [HC.out], hl9.out, X.out.drewN _⟩
          case measure => (have h9 := hl9.out; simp [intOf]; omega)
        · have HC : Hid (argT f (k + 1) = m) := by
            have h := HB.out
            rw [if_neg hlt] at h
            exact h
          clear HB
          go_wp2_with (fail)
          go_quiet (fail)
          clear wk wm
          go_wp2_with (fail)
          go_roundw
          case rel => exact ⟨k + 1, by go_num, by rw [HC.out], hl9.out, X.out.drewN _⟩
          case measure => (have h9 := hl9.out; simp [intOf]; omega)
      · obtain rfl : k = n := by omega
        have hl := argT_lt (f := f) n1 k (Nat.le_refl _)
        have HL : Hid (∀ q : List Nat, (0 :: q).Perm (List.range (k + 1)) → T G (argT f k) + costAt co (argT f k + 1) 0 ≤ pathT co 0 q) := fun q hq => by
          obtain ⟨l', h1, h2⟩ := way_below (by omega) hW.out hq n1
          rw [hG.out, Nat.add_sub_cancel] at h2
          have h3 := argT_le (f := f) k l' h1
          simp only [hf.out] at h3 ⊢
          omega
        have TS : Hid (Trail co k T (T G (argT f k) + costAt co (argT f k + 1) 0) G (argT f k) []) := by
          have h := Trail.start (rows := co) (T := T) n1 hl
          rw [hG.out, Nat.add_sub_cancel] at h
          exact h
        generalize argT f k = last at *
        obtain ⟨C, hC⟩ : ∃ C, Hid (T G last + costAt co (last + 1) 0 = C) := ⟨_, rfl⟩
        rw [hC.out] at HL TS
        have q1 : ¬ ((k : Int) < (k : Int)) := by omega
        have Xo := Lib.hid X.out
        have OW0 : Hid (OwI wo w6.heap.size none 0 (intsN ([] : List Nat).reverse)) := OwI.nil _ _
        clear hf CT BD X
        go_wp2_with (fail)
        go_loopw [8, 9, 11] (fun v8 v9 v11 wr => ∃ (g l : Nat) (ys : List Nat) (A' : Option Addr) (c' : Nat), v8 = .int .i64 g ∧ v9 = .int .i64 l ∧ v11 = .slice A' ys.length c' ∧ Hid (Trail co k T C g l ys) ∧ Hid (OwI wr w6.heap.size A' c' (intsN ys.reverse)) ∧ Hid (Ext w6 wr)) (fun v8 _ _ _ => (intOf v8).toNat)
        case atStart => exact ⟨G, last, [], none, 0, rfl, rfl, rfl, TS, OW0, Xo⟩
        case round =>
          clear TS OW0 Xo
          obtain ⟨wp, rfl⟩ : ∃ wp : World, wp = wr := ⟨_, rfl⟩
          obtain ⟨g, l, ys, A', c', rfl, rfl, rfl, TR, OW, X⟩ := hrel
          by_cases hg0 : g = 0
          · subst hg0
            obtain ⟨PR, hCp⟩ := TR.out.end
            have hyl : ys.length = k := by
              have h := PR.length_eq
              rw [List.length_range, List.length_cons] at h
              omega
            have LT : Hid (LeastT co (k + 1) (pathT co 0 ys)) := ⟨⟨ys, PR, rfl⟩, fun q hq => by rw [← hCp]; exact HL.out q hq⟩
            have hrev : (intsN ys.reverse ++ [(0 : Int)]).length = k + 1 := by simp [intsN, hyl]
            have eR : Hid ((intsN ys.reverse ++ [(0 : Int)]).reverse = intsN (0 :: ys)) := by
              have h : (intsN ys.reverse ++ [(0 : Int)]).reverse = intsN (0 :: ys) := by simp [intsN]
              exact h
            have hlen1 : Hid (ys.length = (intsN ys.reverse).length) := by
              have h : ys.length = (intsN ys.reverse).length := by simp [intsN]
              exact h
            replace PR := Lib.hid PR
            have RV := Lib.hid (fun (A9 : Option Addr) (c9 : Nat) (W : World) (o : OwI W w6.heap.size A9 c9 (intsN ys.reverse ++ [(0 : Int)])) => by
              have h := reverse_any A9 c9 w6.heap.size _ W o (by rw [hrev]; omega)
              rw [hrev] at h
              exact h)
            have TO9 := Lib.hid (fun (P : Option Addr) (c : Nat) (W : World) (x : Ext w W) (hP : RdI W P (intsN (0 :: ys))) => TO.out P c ys W x hP PR.out)
            replace hrev := Lib.hid hrev
            clear hCp hC HL TR TO
            go_wp2_with (at_builtin; refine wpl_app_i _ rfl _ _ rfl w6.heap.size A' ys.length c' (intsN ys.reverse) [(0 : Int)] (some ⟨wp.heap.size, 0, none⟩) 1 rfl rfl hlen1.out (OwI.ext OW.out (by (repeat (first | assumption | exact Ext.rf _ | apply Ext.drew | apply Ext.drewN | apply Ext.alloc)))) (.blk (by (first | exact .new (by simp) | exact .drew (.new (by simp)) | exact .alloc (.new (by simp)) _ | exact .drew (.alloc (.new (by simp)) _) | exact .alloc (.alloc (.new (by simp)) _) _ | exact .drew (.alloc (.alloc (.new (by simp)) _) _) | (repeat (first | assumption | (refine Blk.new ?_; (focus (simp; done))) | apply Blk.drew | apply Blk.drewN | apply Blk.alloc)))) rfl) (by rw [← hlen1.out]; simp; omega) (by have := X.out.size; simp; omega) ?_; rintro A9 c9 w9 o9 g9 -)
            have e9 : (intsN ys.reverse).length + 1 = k + 1 := by rw [← hlen1.out, hyl]
            rw [e9]
            have X9 : Ext w6 w9 := Ext.grow (X.out.tr (by (repeat (first | assumption | exact Ext.rf _ | apply Ext.drew | apply Ext.drewN | apply Ext.alloc)))) g9 (fun q hq => (OW.out.lt q hq).1)
            refine (RV.out A9 c9 w9 o9).mono ?_
            rintro e w10 ⟨rfl, o10, M10⟩
            rw [eR.out] at o10
            have X10 : Ext w w10 := (X6.out.tr X9).mod M10 (fun j hj e => by have := (o9.lt j e).1; omega)
            have b10 := (b6.out.ext X9).mod M10 (fun e => by have := (o9.lt _ e).1; omega)
            have t0 : w10.cell? ⟨w.heap.size, 0, none⟩ = some (.int .i64 3) := b10.cell 0
            have t1 : w10.cell? ⟨w.heap.size, 1, none⟩ = some (.int .i64 (k + 1)) := b10.cell 1
            have t2 : w10.cell? ⟨w.heap.size, 2, none⟩ = some (.int .i64 cap) := b10.cell 2
            have t3 : w10.cell? ⟨w.heap.size, 3, none⟩ = some (.slice A xw.length a) := b10.cell 3
            have t4 : w10.cell? ⟨w.heap.size, 4, none⟩ = some (.slice B xv.length b) := b10.cell 4
            have t5 : w10.cell? ⟨w.heap.size, 5, none⟩ = some (.slice D (k + 1) d) := b10.cell 5
            have TT := Lib.hid (TO9.out A9 c9 w10 X10 o10.read)
            have LE : Hid (k + 1 ≤ c9 ∧ c9 ≤ maxLen) := by
              have h : k + 1 ≤ c9 ∧ c9 ≤ maxLen := by
                have h := o10.le
                simp only [intsN_len, List.length_cons, hyl] at h
                exact h
              exact h
            replace X10 := Lib.hid X10
            replace o10 := Lib.hid o10
            clear X9 o9 g9 M10 b10 RV TO9 e9
            go_wp2_with (fail)
            refine TT.out.mono ?_
            rintro e w11 ⟨rfl, x11⟩
            replace x11 := Lib.hid x11
            clear t0 t1 t2 t3 t4 t5 TT
            go_wp2_with (fail)
            go_ret3
            exact ⟨A9, c9, ys, rfl, RdI.ext o10.out.read x11.out, PR.out, LE.out.1, LE.out.2, LT.out, X10.out.tr x11.out⟩
          · obtain ⟨TS, hless⟩ := TR.out.step (by omega) hW.out hg0
            obtain ⟨hln, hbit, -⟩ := TR.out.go hg0
            have hgl := TR.out.lt
            have hyl : ys.length ≤ k + 1 := nodup_le TR.out.nod fun y hy => by have := (TR.out.mem y).1 hy; omega
            obtain ⟨rr, hrr⟩ : ∃ rr, Hid (r2 g = rr) := ⟨_, rfl⟩
            obtain ⟨bk, hbk⟩ : ∃ bk, Hid (Bk g l = bk) := ⟨_, rfl⟩
            obtain ⟨g2, hg2⟩ : ∃ g2, Hid (clrM g l = g2) := ⟨_, rfl⟩
            obtain ⟨p1, hp1⟩ : ∃ p1, Hid (l + 1 = p1) := ⟨_, rfl⟩
            have KB : Hid (∀ W, Ext w6 W → W.cell? ⟨gp, 1, none⟩ = some (.slice (some ⟨tb, 0, none⟩) (G + 1) (G + 1)) ∧ W.cell? ⟨tb, g, none⟩ = some (.slice (some ⟨rr, 0, none⟩) k k) ∧ W.cell? ⟨rr, l, none⟩ = some (.int .i64 bk)) := fun W x => by
              have h := CB.out W x g (by omega) hgl l hln
              rw [hrr.out, hbk.out] at h
              exact ⟨(P6.out.ext x).cell 1, h.1, h.2⟩
            have CL : bits .andNot .i64 (g : Int) ((2 : Int) ^ l) = (g2 : Int) := by
              have h9 := clr_i64 g l (by omega) (by omega)
              rw [Int.natCast_pow, hg2.out] at h9
              exact h9
            have SHL := shl_wrap_i64 l (by omega)
            rw [hg2.out, hbk.out] at TS
            rw [hg2.out] at hless
            have q2 : (g : Int) < ((G + 1 : Nat) : Int) := by have := hG.out; omega
            have q3 : (l : Int) < (k : Int) := by omega
            have q6 : ((g : Int) == 0) = false := by rw [beq_eq_false_iff_ne]; omega
            have wl : IntKind.i64.wrap ((l : Int) + 1) = (p1 : Int) := by rw [show (l : Int) + 1 = (p1 : Int) by have := hp1.out; omega]; exact IntWalk.i64_in _ (by have := hp1.out; omega)
            have hlen1 : Hid (ys.length = (intsN ys.reverse).length) := by
              have h : ys.length = (intsN ys.reverse).length := by simp [intsN]
              exact h
            have hlen2 : Hid ((intsN ys.reverse ++ [(p1 : Int)]).length = ((l + 1) :: ys).length ∧ intsN ys.reverse ++ [(p1 : Int)] = intsN ((l + 1) :: ys).reverse) := by
              have h : (intsN ys.reverse ++ [(p1 : Int)]).length = ((l + 1) :: ys).length ∧ intsN ys.reverse ++ [(p1 : Int)] = intsN ((l + 1) :: ys).reverse := by
                rw [← hp1.out]
                simp [intsN]
              exact h
            replace TS := Lib.hid TS
            clear TR hbit
            go_wp2_with (at_builtin; refine wpl_app_i _ rfl _ _ rfl w6.heap.size A' ys.length c' (intsN ys.reverse) [(p1 : Int)] (some ⟨wp.heap.size, 0, none⟩) 1 rfl rfl hlen1.out (OwI.ext OW.out (by (repeat (first | assumption | exact Ext.rf _ | apply Ext.drew | apply Ext.drewN | apply Ext.alloc)))) (.blk (by (first | exact .new (by simp) | exact .drew (.new (by simp)) | exact .alloc (.new (by simp)) _ | exact .drew (.alloc (.new (by simp)) _) | exact .alloc (.alloc (.new (by simp)) _) _ | exact .drew (.alloc (.alloc (.new (by simp)) _) _) | (repeat (first | assumption | (refine Blk.new ?_; (focus (simp; done))) | apply Blk.drew | apply Blk.drewN | apply Blk.alloc)))) rfl) (by rw [← hlen1.out]; simp; omega) (by have := X.out.size; simp; omega) ?_; rintro A9 c9 w9 o9 g9 -; have X9 : Ext w6 w9 := Ext.grow (X.out.tr (by (repeat (first | assumption | exact Ext.rf _ | apply Ext.drew | apply Ext.drewN | apply Ext.alloc)))) g9 (fun q hq => (OW.out.lt q hq).1); obtain ⟨s1, s2, s3⟩ := KB.out w9 X9)
            have hs : Hid (ys.length + 1 = ((l + 1) :: ys).length) := rfl
            have O9 : Hid (OwI w9 w6.heap.size A9 c9 (intsN ((l + 1) :: ys).reverse)) := by
              rw [← hlen2.out.2]
              exact o9
            have Y9 := Lib.hid X9
            have e9 : (intsN ys.reverse).length + 1 = ((l + 1) :: ys).length := by rw [← hlen1.out]; rfl
            rw [e9]
            refine ⟨⟨g2, bk, (l + 1) :: ys, A9, c9, rfl, rfl, rfl, TS.out, O9.out, X9⟩, ?_⟩
            simp [intOf]
            omega
end Go.Proofs.YtleckhbmciiooaaDoor
namespace Go.Proofs.YtleckhbmciiooaaDoor
open Go.RowKit Go.ChangeShapes Go.WideShapes Go.ChangeAt Go.Deep

/-- a problem's numbers, each by itself in form -/
def Small31 (xs : List Int) : Prop := ∀ x ∈ xs, 0 ≤ x ∧ x ≤ 2147483647
theorem Small31.get {xs : List Int} (h : Small31 xs) {k : Nat} {x : Int} (hk : xs[k]? = some x) : 0 ≤ x ∧ x ≤ 2147483647 := h x (List.mem_of_getElem? hk)
theorem numP_zero {n : Int} (h : numP n = 0) : 0 ≤ n ∧ n ≤ 2147483647 := by
  unfold numP at h
  split at h
  · cases h
  · split at h
    · cases h
    · omega
theorem firstBad_zero : ∀ {l : List Int}, firstBad l = 0 → ∀ x ∈ l, 0 ≤ x ∧ x ≤ 2147483647
  | [], _, x, hx => by cases hx
  | y :: l, h, x, hx => by
    unfold firstBad at h
    split at h
    · rename_i h0
      rcases List.mem_cons.1 hx with rfl | hx
      · exact numP_zero h0
      · exact firstBad_zero h x hx
    · exact absurd h ‹_›
theorem inter_mem : ∀ {xs ys : List Int}, xs.length = ys.length → (∀ x ∈ xs, x ∈ inter xs ys) ∧ (∀ y ∈ ys, y ∈ inter xs ys)
  | [], [], _ => by simp
  | x :: xs, y :: ys, h => by
    obtain ⟨h1, h2⟩ := inter_mem (xs := xs) (ys := ys) (by simpa using h)
    simp only [inter]
    refine ⟨fun z hz => ?_, fun z hz => ?_⟩
    · rcases List.mem_cons.1 hz with rfl | hz
      · simp
      · simp [h1 z hz]
    · rcases List.mem_cons.1 hz with rfl | hz
      · simp
      · simp [h2 z hz]
  | [], _ :: _, h => by simp at h
  | _ :: _, [], h => by simp at h
structure KnapOk (i : InstP) : Prop where
  n1 : 1 ≤ i.n
  n2 : i.n ≤ 64
  w : (i.weight.length : Int) = i.n
  v : (i.value.length : Int) = i.n
  cap : 0 ≤ i.cap ∧ i.cap ≤ 2147483647
  sw : Small31 i.weight
  sv : Small31 i.value
  cost : i.cost = []
theorem knap_ok {i : InstP} (h : checkP i = 0) (hk : i.kind = 1) : KnapOk i := by
  unfold checkP at h
  by_cases hs : sizeP i.kind i.n = 0
  · rw [if_pos hs] at h
    by_cases hsh : shapeP i = true
    · rw [if_pos hsh, if_pos hk] at h
      unfold shapeP at hsh
      rw [if_pos hk] at hsh
      simp only [Bool.and_eq_true, beq_iff_eq] at hsh
      obtain ⟨⟨h1, h2⟩, h3⟩ := hsh
      unfold sizeP at hs
      rw [if_pos hk] at hs
      have hn : 1 ≤ i.n ∧ i.n ≤ 64 := by
        split at hs
        · cases hs
        · split at hs
          · cases hs
          · omega
      have hl : i.weight.length = i.value.length := by omega
      unfold itemsP at h
      rw [List.take_length, hl, List.take_length] at h
      have hb := firstBad_zero h
      obtain ⟨m1, m2⟩ := inter_mem hl
      exact ⟨hn.1, hn.2, h1, h2, hb _ (by simp), fun x hx => hb x (by simp [m1 x hx]), fun x hx => hb x (by simp [m2 x hx]), List.eq_nil_of_length_eq_zero (by omega)⟩
    · rw [if_neg hsh] at h
      cases h
  · rw [if_neg hs] at h
    exact absurd h hs
end Go.Proofs.YtleckhbmciiooaaDoor
namespace Go.Proofs.YtleckhbmciiooaaDoor
open Go.RowKit Go.ChangeShapes Go.WideShapes Go.ChangeAt Go.Deep

/-- the answer that takes a set -/
def xB (m n : Nat) : List Int := (List.range n).map fun j => if m.testBit j = true then 1 else 0
theorem xB_len (m n : Nat) : (xB m n).length = n := by simp [xB]
theorem xB_get {m n j : Nat} (h : j < n) : (xB m n)[j]? = some (if m.testBit j = true then 1 else 0) := by
  rw [xB, List.getElem?_map, List.getElem?_range h]
  rfl
/-- the sum over what is not in a set -/
def sumN (f : Nat → Int) (k s : Nat) : Int := sumL ((List.range k).map fun j => if s.testBit j = true then 0 else f j)
theorem sumN_succ (f : Nat → Int) (k s : Nat) : sumN f (k + 1) s = sumN f k s + (if s.testBit k = true then 0 else f k) := by
  unfold sumN
  rw [List.range_succ, List.map_append, sumL_append]
  simp [sumL]
theorem sums_bd {f : Nat → Int} {n : Nat} (hf : ∀ j, j < n → 0 ≤ f j ∧ f j ≤ 2147483647) (s : Nat) : ∀ k, k ≤ n → (0 ≤ sumB f k s ∧ sumB f k s ≤ k * 2147483647) ∧ (0 ≤ sumN f k s ∧ sumN f k s ≤ k * 2147483647)
  | 0, _ => by simp [sumB, sumN, sumL]
  | k + 1, h => by
    have ih := sums_bd hf s k (by omega)
    have h1 := hf k (by omega)
    rw [sumB_succ, sumN_succ]
    split <;> omega
theorem sums_all (f : Nat → Int) (s : Nat) : ∀ k, sumB f k s + sumN f k s = sumL ((List.range k).map f)
  | 0 => rfl
  | k + 1 => by
    have ih := sums_all f s k
    rw [sumB_succ, sumN_succ, List.range_succ, List.map_append, sumL_append]
    simp only [List.map_cons, List.map_nil, sumL]
    split <;> omega
def atF (xs : List Int) (j : Nat) : Int := xs.getD j 0
theorem atF_bd {xs : List Int} (h : Small31 xs) (j : Nat) : 0 ≤ atF xs j ∧ atF xs j ≤ 2147483647 := by
  unfold atF
  cases e : xs[j]? with
  | none => simp [List.getD, e]
  | some x =>
    rw [getD_some e]
    exact h.get e
set_option maxRecDepth 100000 in
set_option maxHeartbeats 2000000 in
theorem vknap_any (i : InstP) (us : List Value) (P : Option Addr) (c m n : Nat) (w : World) (H : RInst w us i) (hc : checkP i = 0) (hk : i.kind = 1) (hn : i.n = n) (hP : RdI w P (xB m n)) (hcap : sumB (atF i.weight) n m ≤ i.cap) :
    Calls Tryd.prog 100 #[.agg (List.toArray us), .slice P n c] w fun e w' => e = .returned (.tuple #[.int .i64 (sumN (atF i.value) n m), .int .i64 0]) ∧ Ext w w' := by
  have ok := knap_ok hc hk
  have okw := ok.w
  have okv := ok.v
  have okn := ok.n2
  have okc := ok.cap
  have BW := sums_bd (f := atF i.weight) (n := n) (fun j _ => atF_bd ok.sw j) m
  have BV := sums_bd (f := atF i.value) (n := n) (fun j _ => atF_bd ok.sv j) m
  obtain ⟨kind, nn, cap, xw, xv, co⟩ := i
  obtain ⟨A, a, B, b, D, d, rfl, ⟨rA, -⟩, ⟨rB, -⟩, -⟩ := H
  simp only at *
  subst hk hn
  have lw : xw.length = n := by omega
  have lv : xv.length = n := by omega
  rw [lw, lv]
  have GW : ∀ j, j < n → ∃ b' o', A = some ⟨b', o', none⟩ ∧ b' < w.heap.size ∧ w.cell? ⟨b', o' + j, none⟩ = some (.int .i64 (atF xw j)) := fun j hj => by
    obtain ⟨b', o', x, h1, h2, h3, h4, _⟩ := rA.at (k := j) (by omega)
    exact ⟨b', o', h1, h2, by rw [h3]; unfold atF; rw [getD_some h4.out]⟩
  have GV : ∀ j, j < n → ∃ b' o', B = some ⟨b', o', none⟩ ∧ b' < w.heap.size ∧ w.cell? ⟨b', o' + j, none⟩ = some (.int .i64 (atF xv j)) := fun j hj => by
    obtain ⟨b', o', x, h1, h2, h3, h4, _⟩ := rB.at (k := j) (by omega)
    exact ⟨b', o', h1, h2, by rw [h3]; unfold atF; rw [getD_some h4.out]⟩
  have B1 : Hid (Blk (w.alloc (.cells #[.int .i64 1, .int .i64 n, .int .i64 cap, .slice A n a, .slice B n b, .slice D co.length d] 25)) w.heap.size 25 #[.int .i64 1, .int .i64 n, .int .i64 cap, .slice A n a, .slice B n b, .slice D co.length d]) := .new rfl
  have X0 : Hid (Ext w (w.alloc (.cells #[.int .i64 1, .int .i64 n, .int .i64 cap, .slice A n a, .slice B n b, .slice D co.length d] 25))) := (Ext.rf _).alloc _
  replace GW := Lib.hid GW
  replace GV := Lib.hid GV
  replace BW := Lib.hid BW
  replace BV := Lib.hid BV
  replace hP := Lib.hid hP
  replace hcap := Lib.hid hcap
  have nn0 : ((n : Int) != (n : Int)) = false := by simp
  clear hc ok rA rB okw okv lw lv
  go_enter Tryd.func100, Tryd.ntmps100
  go_wp2_with (fail)
  go_loopw [6, 7, 17] (fun v6 v7 v17 wr => ∃ k : Nat, v6 = .int .i64 (sumB (atF xw) k m) ∧ v7 = .int .i64 (sumN (atF xv) k m) ∧ v17 = .int .i64 k ∧ k ≤ n ∧ Hid (Ext (w.alloc (.cells #[.int .i64 1, .int .i64 n, .int .i64 cap, .slice A n a, .slice B n b, .slice D co.length d] 25)) wr)) (fun _ _ v17 _ => n - (intOf v17).toNat)
  case atStart => exact ⟨0, rfl, rfl, rfl, by omega, Ext.rf _⟩
  case round =>
    obtain ⟨wo, rfl⟩ : ∃ wo : World, wo = wr := ⟨_, rfl⟩
    obtain ⟨k, rfl, rfl, rfl, hk, X⟩ := hrel
    have XW := X0.out.tr X.out
    have b1 := B1.out.ext X.out
    have bw := BW.out k hk
    have bv := BV.out k hk
    by_cases hlt : k < n
    · obtain ⟨b1', o1, rfl, z1, c1⟩ := GW.out k hlt
      obtain ⟨b2', o2, rfl, z2, c2⟩ := GV.out k hlt
      have k1 := keepEL XW z1 c1
      have k2 := keepEL XW z2 c2
      obtain ⟨pb, po, x, rfl, _, cp, ex, _⟩ := (hP.out.ext XW).at (k := k) (by rw [xB_len]; exact hlt)
      have t3 : wo.cell? ⟨w.heap.size, 3, none⟩ = some (.slice (some ⟨b1', o1, none⟩) n a) := b1.cell 3
      have t4 : wo.cell? ⟨w.heap.size, 4, none⟩ = some (.slice (some ⟨b2', o2, none⟩) n b) := b1.cell 4
      have e1 := sumB_succ (atF xw) k m
      have e2 := sumN_succ (atF xv) k m
      have ex' := ex.out
      rw [xB_get hlt] at ex'
      have q1 : (k : Int) < (n : Int) := by omega
      have b3 := BW.out (k + 1) (by omega)
      have b4 := BV.out (k + 1) (by omega)
      cases hb : m.testBit k
      · rw [hb] at ex' e1 e2
        simp only [Bool.false_eq_true, if_false, Int.add_zero] at ex' e1 e2
        obtain rfl : x = 0 := (Option.some.inj ex').symm
        have HB : Hid (sumB (atF xw) (k + 1) m = sumB (atF xw) k m ∧ sumN (atF xv) (k + 1) m = sumN (atF xv) k m + atF xv k) := ⟨e1, e2⟩
        rw [e2] at b4
        clear e1 e2 ex ex' b1 XW b3
        generalize sumB (atF xw) k m = sw at *
        generalize sumN (atF xv) k m = sv at *
        generalize atF xv k = fv at *
        have wv : IntKind.i64.wrap (sv + fv) = sv + fv := IntWalk.i64_in _ (by omega)
        go_wp2_with (fail)
        go_roundw
        case rel => exact ⟨k + 1, by rw [HB.out.1], by rw [HB.out.2], by go_num, by omega, X.out.tr (by (repeat (first | assumption | exact Ext.rf _ | apply Ext.drew | apply Ext.drewN | apply Ext.alloc)))⟩
        case measure => simp [intOf]; omega
      · rw [hb] at ex' e1 e2
        simp only [if_true, Int.add_zero] at ex' e1 e2
        obtain rfl : x = 1 := (Option.some.inj ex').symm
        have HB : Hid (sumB (atF xw) (k + 1) m = sumB (atF xw) k m + atF xw k ∧ sumN (atF xv) (k + 1) m = sumN (atF xv) k m) := ⟨e1, e2⟩
        rw [e1] at b3
        clear e1 e2 ex ex' b1 XW b4
        generalize sumB (atF xw) k m = sw at *
        generalize sumN (atF xv) k m = sv at *
        generalize atF xw k = fv at *
        have wv : IntKind.i64.wrap (sw + fv) = sw + fv := IntWalk.i64_in _ (by omega)
        go_wp2_with (fail)
        go_roundw
        case rel => exact ⟨k + 1, by rw [HB.out.1], by rw [HB.out.2], by go_num, by omega, X.out.tr (by (repeat (first | assumption | exact Ext.rf _ | apply Ext.drew | apply Ext.drewN | apply Ext.alloc)))⟩
        case measure => simp [intOf]; omega
    · obtain rfl : n = k := by omega
      have t2 : wo.cell? ⟨w.heap.size, 2, none⟩ = some (.int .i64 cap) := b1.cell 2
      have hq : ¬ cap < sumB (atF xw) n m := by have := hcap.out; omega
      replace XW := Lib.hid XW
      clear b1 bw bv
      go_wp2_with (fail)
      go_ret2
      exact ⟨rfl, XW.out.tr (by (repeat (first | assumption | exact Ext.rf _ | apply Ext.drew | apply Ext.drewN | apply Ext.alloc)))⟩
set_option maxRecDepth 100000 in
set_option maxHeartbeats 1000000 in
theorem vcost1_any (i : InstP) (us : List Value) (P : Option Addr) (c m n : Nat) (w : World) (H : RInst w us i) (hc : checkP i = 0) (hk : i.kind = 1) (hn : i.n = n) (hP : RdI w P (xB m n)) (hcap : sumB (atF i.weight) n m ≤ i.cap) :
    Calls Tryd.prog 75 #[.agg (List.toArray us), .slice P n c] w fun e w' => e = .returned (.tuple #[.int .i64 (sumN (atF i.value) n m), .int .i64 0]) ∧ Ext w w' := by
  have ok := knap_ok hc hk
  have CH := fun (W : World) (x : Ext w W) => check_any i us W (H.ext x) (by have := ok.w; have := ok.n2; omega) (by have := ok.v; have := ok.n2; omega)
  have VK := fun (W : World) (x : Ext w W) => vknap_any i us P c m n W (H.ext x) hc hk hn (hP.ext x) hcap
  rw [hc] at CH
  clear ok hcap hP hc
  obtain ⟨kind, nn, cap, xw, xv, co⟩ := i
  obtain ⟨A, a, B, b, D, d, rfl, -, -, -⟩ := H
  simp only at *
  subst hk hn
  generalize sumN (atF xv) n m = sv at *
  have B1 : Hid (Blk (w.alloc (.cells #[.int .i64 1, .int .i64 n, .int .i64 cap, .slice A xw.length a, .slice B xv.length b, .slice D co.length d] 25)) w.heap.size 25 #[.int .i64 1, .int .i64 n, .int .i64 cap, .slice A xw.length a, .slice B xv.length b, .slice D co.length d]) := .new rfl
  replace CH := Lib.hid CH
  replace VK := Lib.hid VK
  go_enter Tryd.func75, Tryd.ntmps75
  go_wp2_with (fail)
  refine (CH.out _ (by (repeat (first | assumption | exact Ext.rf _ | apply Ext.drew | apply Ext.drewN | apply Ext.alloc)))).mono ?_
  rintro e w1 ⟨rfl, x1⟩
  have X1 := Lib.hid (Ext.tr (a := w) (by (repeat (first | assumption | exact Ext.rf _ | apply Ext.drew | apply Ext.drewN | apply Ext.alloc))) x1)
  have b1 := B1.out.ext x1
  have t0 : w1.cell? ⟨w.heap.size, 0, none⟩ = some (.int .i64 1) := b1.cell 0
  have t1 : w1.cell? ⟨w.heap.size, 1, none⟩ = some (.int .i64 n) := b1.cell 1
  have t2 : w1.cell? ⟨w.heap.size, 2, none⟩ = some (.int .i64 cap) := b1.cell 2
  have t3 : w1.cell? ⟨w.heap.size, 3, none⟩ = some (.slice A xw.length a) := b1.cell 3
  have t4 : w1.cell? ⟨w.heap.size, 4, none⟩ = some (.slice B xv.length b) := b1.cell 4
  have t5 : w1.cell? ⟨w.heap.size, 5, none⟩ = some (.slice D co.length d) := b1.cell 5
  clear x1 B1 b1
  go_wp2_with (fail)
  refine (VK.out _ X1.out).mono ?_
  rintro e w2 ⟨rfl, x2⟩
  have X2 := Lib.hid (X1.out.tr x2)
  clear x2 t0 t1 t2 t3 t4 t5
  go_wp2_with (fail)
  go_ret2
  exact ⟨rfl, X2.out.tr (by (repeat (first | assumption | exact Ext.rf _ | apply Ext.drew | apply Ext.drewN | apply Ext.alloc)))⟩
set_option maxRecDepth 100000 in
set_option maxHeartbeats 1000000 in
theorem takes1_any (i : InstP) (us : List Value) (w : World) (H : RInst w us i) (hc : checkP i = 0) (hk : i.kind = 1) (hn : i.n ≤ 18) :
    Calls Tryd.prog 62 #[.agg (List.toArray us), .int .i64 1] w fun e w' => e = .returned (.int .i64 0) ∧ Ext w w' := by
  have ok := knap_ok hc hk
  have CH := fun (W : World) (x : Ext w W) => check_any i us W (H.ext x) (by have := ok.w; have := ok.n2; omega) (by have := ok.v; have := ok.n2; omega)
  rw [hc] at CH
  clear ok hc
  obtain ⟨kind, nn, cap, xw, xv, co⟩ := i
  obtain ⟨A, a, B, b, D, d, rfl, -, -, -⟩ := H
  simp only at *
  subst hk
  have B1 : Hid (Blk (w.alloc (.cells #[.int .i64 1, .int .i64 nn, .int .i64 cap, .slice A xw.length a, .slice B xv.length b, .slice D co.length d] 25)) w.heap.size 25 #[.int .i64 1, .int .i64 nn, .int .i64 cap, .slice A xw.length a, .slice B xv.length b, .slice D co.length d]) := .new rfl
  replace CH := Lib.hid CH
  have hq : ¬ 18 < nn := by omega
  go_enter Tryd.func62, Tryd.ntmps62
  go_wp2_with (fail)
  refine (CH.out _ (by (repeat (first | assumption | exact Ext.rf _ | apply Ext.drew | apply Ext.drewN | apply Ext.alloc)))).mono ?_
  rintro e w1 ⟨rfl, x1⟩
  have X1 := Lib.hid (Ext.tr (a := w) (by (repeat (first | assumption | exact Ext.rf _ | apply Ext.drew | apply Ext.drewN | apply Ext.alloc))) x1)
  have b1 := Lib.hid (B1.out.ext x1)
  have t0 : w1.cell? ⟨w.heap.size, 0, none⟩ = some (.int .i64 1) := b1.out.cell 0
  have t1 : w1.cell? ⟨w.heap.size, 1, none⟩ = some (.int .i64 nn) := b1.out.cell 1
  clear x1 B1
  go_wp2_with (fail)
  go_ret
  exact ⟨rfl, X1.out.tr (by (repeat (first | assumption | exact Ext.rf _ | apply Ext.drew | apply Ext.drewN | apply Ext.alloc)))⟩
set_option maxRecDepth 100000 in
set_option maxHeartbeats 1000000 in
theorem told1_any (i : InstP) (us : List Value) (P : Option Addr) (c m n : Nat) (w : World) (H : RInst w us i) (hc : checkP i = 0) (hk : i.kind = 1) (hn : i.n = n) (hP : RdI w P (xB m n)) (hcap : sumB (atF i.weight) n m ≤ i.cap) :
    Calls Tryd.prog 66 #[.agg (List.toArray us), .slice P n c] w fun e w' => e = .returned (.tuple #[.slice P n c, .int .i64 (sumN (atF i.value) n m), .int .i64 0]) ∧ Ext w w' := by
  have VC := fun (W : World) (x : Ext w W) => vcost1_any i us P c m n W (H.ext x) hc hk hn (hP.ext x) hcap
  obtain ⟨kind, nn, cap, xw, xv, co⟩ := i
  obtain ⟨A, a, B, b, D, d, rfl, -, -, -⟩ := H
  simp only at *
  subst hn
  generalize sumN (atF xv) n m = cc at *
  replace VC := Lib.hid VC
  clear hc hk hP hcap
  go_enter Tryd.func66, Tryd.ntmps66
  go_wp2_with (fail)
  refine (VC.out _ (by (repeat (first | assumption | exact Ext.rf _ | apply Ext.drew | apply Ext.drewN | apply Ext.alloc)))).mono ?_
  rintro e w1 ⟨rfl, x1⟩
  have X1 := Lib.hid (Ext.tr (a := w) (by (repeat (first | assumption | exact Ext.rf _ | apply Ext.drew | apply Ext.drewN | apply Ext.alloc))) x1)
  clear x1
  go_wp2_with (fail)
  go_ret3
  exact ⟨rfl, X1.out.tr (by (repeat (first | assumption | exact Ext.rf _ | apply Ext.drew | apply Ext.drewN | apply Ext.alloc)))⟩
end Go.Proofs.YtleckhbmciiooaaDoor
namespace Go.Proofs.YtleckhbmciiooaaDoor
open Go.Shelf

def sortLay_ren : Go.Shelf.Ren := ⟨fun | 6 => 91 | 15 => 118 | 14 => 117 | 28 => 146 | 29 => 147 | 20 => 138 | 21 => 139 | 22 => 140 | 23 => 141 | 24 => 142 | 25 => 143 | 26 => 144 | 27 => 145 | 46 => 158 | 47 => 159 | 48 => 160 | 49 => 161 | 50 => 162 | 57 => 168 | n => n, fun | 22 => 97 | 24 => 96 | 25 => 129 | 3 => 3 | 39 => 117 | 0 => 0 | 53 => 137 | 55 => 28 | 4 => 4 | 46 => 165 | 45 => 164 | 50 => 55 | 5 => 5 | 9 => 9 | 66 => 180 | 70 => 184 | 76 => 189 | 77 => 190 | n => n, fun n => n⟩
set_option maxRecDepth 100000 in
theorem sortLay : SlLaysF0.n6 Tryd.prog sortLay_ren where
  mixed := by kernel_rfl
  f6 := ⟨ "slices.SortFunc[[]kurgan/exact.load,kurgan/exact.load]", by decide, Tryd.func91.trans (congrArg some (by kernel_rfl))⟩
  f14 := ⟨ "slices.pdqsortCmpFunc[kurgan/exact.load]", by decide, Tryd.func117.trans (congrArg some (by kernel_rfl))⟩
  f15 := Tryd.func118.trans (congrArg some (by kernel_rfl))
  f20 := ⟨ "slices.insertionSortCmpFunc[kurgan/exact.load]", by decide, Tryd.func138.trans (congrArg some (by kernel_rfl))⟩
  f21 := ⟨ "slices.heapSortCmpFunc[kurgan/exact.load]", by decide, Tryd.func139.trans (congrArg some (by kernel_rfl))⟩
  f22 := ⟨ "slices.breakPatternsCmpFunc[kurgan/exact.load]", by decide, Tryd.func140.trans (congrArg some (by kernel_rfl))⟩
  f23 := ⟨ "slices.choosePivotCmpFunc[kurgan/exact.load]", by decide, Tryd.func141.trans (congrArg some (by kernel_rfl))⟩
  f24 := ⟨ "slices.reverseRangeCmpFunc[kurgan/exact.load]", by decide, Tryd.func142.trans (congrArg some (by kernel_rfl))⟩
  f25 := ⟨ "slices.partialInsertionSortCmpFunc[kurgan/exact.load]", by decide, Tryd.func143.trans (congrArg some (by kernel_rfl))⟩
  f26 := ⟨ "slices.partitionEqualCmpFunc[kurgan/exact.load]", by decide, Tryd.func144.trans (congrArg some (by kernel_rfl))⟩
  f27 := ⟨ "slices.partitionCmpFunc[kurgan/exact.load]", by decide, Tryd.func145.trans (congrArg some (by kernel_rfl))⟩
  f28 := Tryd.func146.trans (congrArg some (by kernel_rfl))
  f29 := Tryd.func147.trans (congrArg some (by kernel_rfl))
  f46 := ⟨ "slices.siftDownCmpFunc[kurgan/exact.load]", by decide, Tryd.func158.trans (congrArg some (by kernel_rfl))⟩
  f47 := Tryd.func159.trans (congrArg some (by kernel_rfl))
  f48 := Tryd.func160.trans (congrArg some (by kernel_rfl))
  f49 := ⟨ "slices.medianAdjacentCmpFunc[kurgan/exact.load]", by decide, Tryd.func161.trans (congrArg some (by kernel_rfl))⟩
  f50 := ⟨ "slices.medianCmpFunc[kurgan/exact.load]", by decide, Tryd.func162.trans (congrArg some (by kernel_rfl))⟩
  f57 := ⟨ "slices.order2CmpFunc[kurgan/exact.load]", by decide, Tryd.func168.trans (congrArg some (by kernel_rfl))⟩
  t0 := Tryd.underlying0
  a0 := Tryd.isAgg0
  z0 := Tryd.sizeOf0
  v0 := Tryd.zeroValue0
  t3 := Tryd.underlying3
  a3 := Tryd.isAgg3
  z3 := Tryd.sizeOf3
  v3 := Tryd.zeroValue3
  t4 := Tryd.underlying4
  a4 := Tryd.isAgg4
  z4 := Tryd.sizeOf4
  v4 := Tryd.zeroValue4
  t5 := Tryd.underlying5
  a5 := Tryd.isAgg5
  z5 := Tryd.sizeOf5
  v5 := Tryd.zeroValue5
  t9 := Tryd.underlying9
  a9 := Tryd.isAgg9
  z9 := Tryd.sizeOf9
  v9 := Tryd.zeroValue9
  t22 := Tryd.underlying97
  a22 := Tryd.isAgg97
  z22 := Tryd.sizeOf97
  v22 := Tryd.zeroValue97
  t25 := Tryd.underlying129
  a25 := Tryd.isAgg129
  z25 := Tryd.sizeOf129
  v25 := Tryd.zeroValue129
  t39 := Tryd.underlying117
  a39 := Tryd.isAgg117
  z39 := Tryd.sizeOf117
  v39 := Tryd.zeroValue117
  t45 := Tryd.underlying164
  a45 := Tryd.isAgg164
  z45 := Tryd.sizeOf164
  v45 := Tryd.zeroValue164
  t46 := Tryd.underlying165
  a46 := Tryd.isAgg165
  z46 := Tryd.sizeOf165
  v46 := Tryd.zeroValue165
  t50 := Tryd.underlying55
  a50 := Tryd.isAgg55
  z50 := Tryd.sizeOf55
  v50 := Tryd.zeroValue55
  t53 := Tryd.underlying137
  a53 := Tryd.isAgg137
  z53 := Tryd.sizeOf137
  v53 := Tryd.zeroValue137
  t55 := Tryd.underlying28
  a55 := Tryd.isAgg28
  z55 := Tryd.sizeOf28
  v55 := Tryd.zeroValue28
  t66 := Tryd.underlying180
  a66 := Tryd.isAgg180
  z66 := Tryd.sizeOf180
  v66 := Tryd.zeroValue180
  t70 := Tryd.underlying184
  a70 := Tryd.isAgg184
  z70 := Tryd.sizeOf184
  v70 := Tryd.zeroValue184
  t76 := Tryd.underlying189
  a76 := Tryd.isAgg189
  z76 := Tryd.sizeOf189
  v76 := Tryd.zeroValue189
  t77 := Tryd.underlying190
  a77 := Tryd.isAgg190
  z77 := Tryd.sizeOf190
  v77 := Tryd.zeroValue190
end Go.Proofs.YtleckhbmciiooaaDoor
namespace Go.Proofs.YtleckhbmciiooaaDoor
open Go.RowKit Go.ChangeShapes Go.WideShapes Go.ChangeAt Go.Deep Go.Shelf Go.Sort

abbrev ldA (d : Ld) : Value := .agg #[.int .i64 d.1, .int .i64 d.2.1, .int .u64 (d.2.2 : Int), .int .u64 0]
/-- no great number -/
def LdOk (d : Ld) : Prop := 0 ≤ d.1 ∧ d.1 ≤ 1099511627776 ∧ 0 ≤ d.2.1 ∧ d.2.1 ≤ 1099511627776
abbrev BLd := { d : Ld // LdOk d }
instance : Inhabited BLd := ⟨⟨(0, 0, 0), by simp [LdOk]⟩⟩
def encL (x : BLd) : List Value := [.int .i64 x.1.1, .int .i64 x.1.2.1, .int .u64 (x.1.2.2 : Int), .int .u64 0]
def cfL (x y : BLd) : Int := if x.1.1 = y.1.1 then y.1.2.1 - x.1.2.1 else x.1.1 - y.1.1
theorem cfL_lt (x y : BLd) : ltOf cfL x y = true ↔ (x.1.1 < y.1.1 ∨ (x.1.1 = y.1.1 ∧ y.1.2.1 < x.1.2.1)) := by
  unfold ltOf
  rw [decide_eq_true_iff]
  unfold cfL
  by_cases h : x.1.1 = y.1.1
  · rw [if_pos h]; omega
  · rw [if_neg h]; omega
theorem cfL_nlt (x y : BLd) : ltOf cfL x y = false ↔ ¬ (x.1.1 < y.1.1 ∨ (x.1.1 = y.1.1 ∧ y.1.2.1 < x.1.2.1)) := by
  rw [← cfL_lt]
  simp
theorem cfL_swo : SWO (ltOf cfL) where
  irrefl := fun x => (cfL_nlt x x).2 (by omega)
  trans := fun x y z h1 h2 => (cfL_lt x z).2 (by
    have h1 := (cfL_lt x y).1 h1
    have h2 := (cfL_lt y z).1 h2
    omega)
  ntrans := fun x y z h1 h2 => (cfL_nlt x z).2 (by
    have h1 := (cfL_nlt x y).1 h1
    have h2 := (cfL_nlt y z).1 h2
    omega)
set_option maxRecDepth 100000 in
theorem closure_any (x y : BLd) (W : World) : Calls Tryd.prog 92 #[.agg (encL x).toArray, .agg (encL y).toArray] W fun e w' => e = .returned (.int .i64 (cfL x y)) ∧ ∃ q os', w' = grow (W.drewN q) os' := by
  obtain ⟨⟨a, b, s⟩, h1⟩ := x
  obtain ⟨⟨a', b', s'⟩, h2⟩ := y
  unfold LdOk at h1 h2
  simp only at h1 h2
  have w1 : IntKind.i64.wrap (a - a') = a - a' := IntWalk.i64_in _ (by omega)
  have w2 : IntKind.i64.wrap (b' - b) = b' - b := IntWalk.i64_in _ (by omega)
  unfold cfL encL
  simp only
  by_cases e : a = a'
  · have e1 : (a != a') = false := by simp [e]
    rw [if_pos e]
    clear e h1 h2
    go_enter Tryd.func92, Tryd.ntmps92
    go_wp2
    go_ret
    exact ⟨rfl, 0, _, by rw [alloc_eq_grow, alloc_eq_grow, grow_grow]; rfl⟩
  · have e1 : (a != a') = true := by simp [e]
    rw [if_neg e]
    clear e h1 h2
    go_enter Tryd.func92, Tryd.ntmps92
    go_wp2
    go_ret
    exact ⟨rfl, 0, _, by rw [alloc_eq_grow, alloc_eq_grow, grow_grow]; rfl⟩
theorem flatK_flatL (d : Array BLd) : (flatK encL 4 d).toList = flatL (d.toList.map (·.1)) := by
  refine List.ext_getElem? fun t => ?_
  have hs : (flatK encL 4 d).size = d.size * 4 := size_flatK _ _ _
  have hl : (flatL (d.toList.map (·.1))).length = d.size * 4 := by rw [flatL_len]; simp
  obtain ⟨q, r, hr, rfl⟩ : ∃ q r, r < 4 ∧ t = q * 4 + r := ⟨t / 4, t % 4, by omega, by omega⟩
  have q1 : (q * 4 + r) / 4 = q := by omega
  have q2 : (q * 4 + r) % 4 = r := by omega
  by_cases hk : q < d.size
  · have e1 : (d.toList.map (·.1))[q]? = some (d[q]'hk).1 := by simp [hk]
    obtain ⟨g0, g1, g2, g3⟩ := flatL_get e1
    have e2 : (flatK encL 4 d).toList[q * 4 + r]? = some ((encL (d[q]'hk))[r]!) := by
      have h3 := get_flatK encL 4 d (q * 4 + r) (by omega)
      rw [q1, q2, getElem!_pos d q hk] at h3
      rw [getElem!_pos _ (q * 4 + r) (by rw [hs]; omega)] at h3
      rw [← h3]
      simp [hs]
    rw [e2]
    have hm : r = 0 ∨ r = 1 ∨ r = 2 ∨ r = 3 := by omega
    rcases hm with rfl | rfl | rfl | rfl
    · rw [Nat.add_zero, g0]; rfl
    · rw [g1]; rfl
    · rw [g2]; rfl
    · rw [g3]; rfl
  · rw [List.getElem?_eq_none (by rw [Array.length_toList, hs]; omega), List.getElem?_eq_none (by omega)]
theorem isAgg_ld : ∀ w, (isAgg (sortLay_ren.t 24)).run Tryd.prog w = .ok true w := Tryd.isAgg96
theorem sizeOf_ld : ∀ w, (Go.sizeOf (sortLay_ren.t 24)).run Tryd.prog w = .ok 4 w := Tryd.sizeOf96
/-- the library's sort of loads: they lie otherwise -/
theorem sortld_any {w : World} {base g n c : Nat} {l : List Ld} (h : OwV w base 96 4 (some ⟨g, 0, none⟩) n c (flatL l)) (hn : l.length = n) (hl : ∀ d ∈ l, LdOk d) (hsz : n ≤ 1000000000) :
    Calls Tryd.prog 91 #[.slice (some ⟨g, 0, none⟩) n c, .func (.func 92) #[] #[]] w fun e w' => e = .returned (.tuple #[]) ∧ (∃ l2 : List Ld, l2.Perm l ∧ OwV w' base 96 4 (some ⟨g, 0, none⟩) n c (flatL l2)) ∧ Mod (fun b => b = g) w w' := by
  obtain ⟨d, hd⟩ : ∃ d : Array BLd, d = (l.attach.map fun x => (⟨x.1, hl x.1 x.2⟩ : BLd)).toArray := ⟨_, rfl⟩
  have hdl : d.toList.map (·.1) = l := by
    rw [hd]
    simp only [List.map_map]
    exact List.attach_map_subtype_val l
  have hds : d.size = n := by rw [← hn, ← hdl]; simp
  rcases h.cases with ⟨e, _⟩ | ⟨g', cur, e, hb, hg, hnc, hcm, hs, ht⟩
  · cases e
  obtain rfl : g = g' := by simpa using e
  have hcur : ∀ j, j < n * 4 → cur[j]? = (flatL l)[j]? := fun j hj => by
    have h1 : (cur.toList.take (n * 4))[j]? = cur.toList[j]? := List.getElem?_take_of_lt hj
    rw [ht] at h1
    rw [h1]
    simp
  have hH : HoldsK encL 4 w g 0 d := fun j hj => by
    have hj' : j < n * 4 := by rw [size_flatK, hds] at hj; exact hj
    refine ⟨?_, by simp [World.frozen?, hg]⟩
    rw [Nat.zero_add, cell_of_row w g _ cur _ (0, 0) hg, hcur j hj', ← hdl, ← flatK_flatL]
    rw [getElem!_pos _ j hj]
    simp
  have hblk : g < w.heap.size := (Array.getElem?_eq_some_iff.1 hg).1
  have eg : ∀ args w, (callFunc 92 args).run Tryd.prog w = .ok (.enter 92 args) w := enters_of Tryd.func92 (by kernel_rfl) rfl
  have hcmp : CmpLays Tryd.prog 92 #[] encL 4 cfL g 0 d.size w := fun _ _ _ _ x y => closure_any x y _
  have hcon := AnyQ.slices_SortFunc sortLay 4 isAgg_ld sizeOf_ld encL (fun _ => rfl) (fun x v hv => by simp [encL] at hv; rcases hv with rfl | rfl | rfl | rfl <;> rfl) cfL cfL_swo 92 #[] g 0 c d w eg hcmp hH hblk (by omega)
  rw [hds] at hcon
  change Calls Tryd.prog 91 _ _ _ at hcon
  refine hcon.mono ?_
  rintro e w' ⟨rfl, d', m, os, hp, -, rfl⟩
  have hps : d'.size = n := by rw [hp.1, hds]
  have hperm : (d'.toList.map (·.1)).Perm l := by
    have h3 := hp.2.2
    rw [← hds] at h3
    rw [Array.extract_size] at h3
    rw [show d'.extract 0 d.size = d' by rw [← hp.1]; exact Array.extract_size] at h3
    have := h3.map (·.1)
    rwa [hdl] at this
  have hl2 : (d'.toList.map (·.1)).length = n := by rw [hperm.length_eq, hn]
  refine ⟨rfl, ⟨_, hperm, ?_⟩, ?_⟩
  · refine .mk (cur := putCells id 0 (flatK encL 4 d') cur) hb ?_ hnc hcm (by simp [putCells, hs]) ?_
    · unfold sortWorldK putRowK putRow mapBlock grow
      simp only [Array.getElem?_append_left (show g < (w.heap.modify g _).size by simpa using hblk)]
      rw [show (Sort.ahead w m).heap = w.heap from rfl, Array.getElem?_append_left (by simpa using hblk), Array.getElem?_modify, if_pos rfl, hg]
      rfl
    · rw [← flatK_flatL]
      refine List.ext_getElem? fun j => ?_
      have hsK : (flatK encL 4 d').size = n * 4 := by rw [size_flatK, hps]
      by_cases hj : j < n * 4
      · rw [List.getElem?_take_of_lt hj]
        have hjc : j < cur.size := by rw [hs]; omega
        simp only [putCells, Array.getElem?_toList, Array.getElem?_mapIdx]
        rw [Array.getElem?_eq_getElem hjc]
        simp only [Option.map_some, Nat.zero_le, true_and, Nat.zero_add, hsK, hj, if_true, Nat.sub_zero, id]
        rw [getElem!_pos _ j (by omega)]
        simp [hsK, hj]
      · rw [List.getElem?_eq_none (by rw [List.length_take]; omega), List.getElem?_eq_none (by rw [Array.length_toList, hsK]; omega)]
  · refine ⟨rfl, rfl, rfl, ?_, fun k hk hne => ?_⟩
    · simp [sortWorldK, putRowK, putRow, mapBlock, grow, Sort.ahead]
    · unfold sortWorldK putRowK putRow mapBlock grow
      rw [Array.getElem?_append_left (by simpa [Sort.ahead] using hk), Array.getElem?_modify, if_neg (fun e => hne e.symm)]
      rfl
end Go.Proofs.YtleckhbmciiooaaDoor
namespace Go.Proofs.YtleckhbmciiooaaDoor
open Go.RowKit Go.ChangeShapes Go.WideShapes Go.ChangeAt Go.Deep

theorem ld_info : (Tryd.prog.info? 96).map (fun i => (i.zero, i.size, i.bytes)) = some (some (.agg #[.int .i64 0, .int .i64 0, .int .u64 0, .int .u64 0]), 4, 32) := by kernel_rfl
set_option maxRecDepth 100000 in
theorem worse_any (d m : Ld) (w : World) : Calls Tryd.prog 93 #[ldA d, ldA m] w fun e w' => e = .returned (.bool (worseB d m)) ∧ Ext w w' := by
  obtain ⟨a, b, s⟩ := d
  obtain ⟨a', b', s'⟩ := m
  unfold worseB
  simp only [ldA]
  cases h1 : decide (a' ≤ a)
  · have h1' : ¬ a' ≤ a := of_decide_eq_false h1
    go_enter Tryd.func93, Tryd.ntmps93
    go_wp2
    go_ret
    exact ⟨rfl, by (repeat (first | assumption | exact Ext.rf _ | apply Ext.drew | apply Ext.drewN | apply Ext.alloc))⟩
  · have h1' : a' ≤ a := of_decide_eq_true h1
    go_enter Tryd.func93, Tryd.ntmps93
    go_wp2
    go_ret
    exact ⟨rfl, by (repeat (first | assumption | exact Ext.rf _ | apply Ext.drew | apply Ext.drewN | apply Ext.alloc))⟩
def WithPost (w : World) (L : List Ld) (e : Ending) (w' : World) : Prop := ∃ B c, e = .returned (.slice B L.length c) ∧ OwV w' w.heap.size 96 4 B L.length c (flatL L) ∧ Ext w w'
set_option maxRecDepth 100000 in
set_option maxHeartbeats 2000000 in
theorem withl_any {A : Option Addr} {c n : Nat} {l : List Ld} {w : World} (hA : RdV w 96 A (flatL l)) (hn : l.length = n) (hl : ∀ d ∈ l, LdOk d ∧ d.2.2 < 18446744073709551616) (hsz : n ≤ 1000000) (k : Nat) (hk : k < 64) (wt vl room : Int) (hw : 0 ≤ wt ∧ wt ≤ 2147483647) (hv : 0 ≤ vl ∧ vl ≤ 2147483647) (hr : 0 ≤ room ∧ room ≤ 2147483647) :
    Calls Tryd.prog 64 #[.slice A n c, .int .i64 k, .int .i64 wt, .int .i64 vl, .int .i64 room] w (WithPost w (withP l k wt vl room)) := by
  have WI := Lib.hid (fun (m : Nat) (hm : m < 18446744073709551616) (W : World) => with_any m k hm hk W)
  obtain ⟨i0, hi, hz0, hz1, hz2⟩ := info_parts ld_info
  replace hi := Lib.hid hi
  replace hz0 := Lib.hid hz0
  replace hz1 := Lib.hid hz1
  replace hz2 := Lib.hid hz2
  have W0 : Hid (0 = (withP (l.take 0) k wt vl room).length) := by
    have h : 0 = (withP (l.take 0) k wt vl room).length := by simp [withP]
    exact h
  have O0 : Hid (OwV w w.heap.size 96 4 none 0 0 (flatL (withP (l.take 0) k wt vl room))) := by
    have h : OwV w w.heap.size 96 4 none 0 0 (flatL (withP (l.take 0) k wt vl room)) := by
      simp only [List.take_zero, withP, List.filter_nil, List.map_nil, flatL]
      exact OwV.nil _ _ _ _
    exact h
  replace hA := Lib.hid hA
  replace hn := Lib.hid hn
  replace hl := Lib.hid hl
  go_enter Tryd.func64, Tryd.ntmps64
  go_wp2_with (fail)
  go_loopw [11, 16] (fun v11 v16 wr => ∃ (j m : Nat) (B : Option Addr) (b2 : Nat), v11 = .slice B m b2 ∧ v16 = .int .i64 j ∧ j ≤ n ∧ m ≤ j ∧ Hid (m = (withP (l.take j) k wt vl room).length) ∧ Hid (OwV wr w.heap.size 96 4 B m b2 (flatL (withP (l.take j) k wt vl room))) ∧ Hid (Ext w wr)) (fun _ v16 _ => n - (intOf v16).toNat)
  case atStart => exact ⟨0, 0, none, 0, rfl, rfl, by omega, by omega, W0, O0, Ext.rf _⟩
  case round =>
    clear W0 O0
    obtain ⟨wo, rfl⟩ : ∃ wo : World, wo = wr := ⟨_, rfl⟩
    obtain ⟨j, m, B, b2, rfl, rfl, hj, hmj, hm, hO, X⟩ := hrel
    by_cases hlt : j < n
    · have hjl : j < l.length := by rw [hn.out]; exact hlt
      obtain ⟨d, hd⟩ : ∃ d, Hid (l[j]? = some d) := ⟨l[j], List.getElem?_eq_getElem hjl⟩
      have hne : flatL l ≠ [] := by
        intro e
        have := flatL_len l
        rw [e] at this
        simp at this
        omega
      obtain ⟨b, off, rfl, zb, hcell⟩ := (hA.out.ext X.out).form hne
      obtain ⟨g0, g1, g2, g3⟩ := flatL_get hd.out
      have c0 := hcell _ _ g0
      have c1 := hcell _ _ g1
      have c2 := hcell _ _ g2
      have c3 := hcell _ _ g3
      rw [← Nat.add_assoc] at c1 c2 c3
      have hok := hl.out d (List.mem_of_getElem? hd.out)
      have HT : withP (l.take (j + 1)) k wt vl room = withP (l.take j) k wt vl room ++ (if d.1 + wt ≤ room then [(d.1 + wt, d.2.1 + vl, d.2.2 ||| 2 ^ k)] else []) := by
        rw [List.take_add_one, hd.out]
        exact withP_snoc _ _ _ _ _ _
      obtain ⟨dw, dv, dm⟩ := d
      unfold LdOk at hok
      simp only at hok c0 c1 c2 c3 HT
      have w1 : IntKind.i64.wrap (dw + wt) = dw + wt := IntWalk.i64_in _ (by omega)
      have w2 : IntKind.i64.wrap (dv + vl) = dv + vl := IntWalk.i64_in _ (by omega)
      have q1 : (j : Int) < (n : Int) := by omega
      generalize withP (l.take j) k wt vl room = L at *
      clear hcell hne g0 g1 g2 g3 hjl
      by_cases hfit : dw + wt ≤ room
      · rw [if_pos hfit] at HT
        replace HT := Lib.hid HT
        go_upto_region 6 with (fail)
        have bx : Blk (wo.alloc (.cells #[.int .i64 dw, .int .i64 dv, .int .u64 dm, .int .u64 0] 96)) wo.heap.size 96 #[.int .i64 dw, .int .i64 dv, .int .u64 dm, .int .u64 0] := .new rfl
        have xx : Ext wo (wo.alloc (.cells #[.int .i64 dw, .int .i64 dv, .int .u64 dm, .int .u64 0] 96)) := (Ext.rf _).alloc _
        have X2 := Lib.hid (X.out.tr xx)
        have hO2 := Lib.hid (hO.out.ext xx)
        have hBx : Hid (∀ q, bl B = some q → q < wo.heap.size) := fun q hq => (hO.out.lt q hq).2
        generalize wo.alloc (.cells #[.int .i64 dw, .int .i64 dv, .int .u64 dm, .int .u64 0] 96) = wz at *
        generalize wo.heap.size = gx at *
        clear c0 c1 c2 c3 xx X hO
        have e0 : wz.cell? ⟨gx, 0, none⟩ = some (.int .i64 dw) := bx.cell 0
        have e1 : wz.cell? ⟨gx, 1, none⟩ = some (.int .i64 dv) := bx.cell 1
        have e2 : wz.cell? ⟨gx, 2, none⟩ = some (.int .u64 dm) := bx.cell 2
        have e3 : wz.cell? ⟨gx, 3, none⟩ = some (.int .u64 0) := bx.cell 3
        have zx := bx.lt
        have z0 := X2.out.size
        have WD := WI.out dm hok.2
        unfold setV at WD
        obtain ⟨dm2, hdm2⟩ : ∃ dm2, Hid (dm ||| 2 ^ k = dm2) := ⟨_, rfl⟩
        rw [hdm2.out] at WD HT
        replace WD := Lib.hid WD
        replace bx := Lib.hid bx
        have hO3 := hO2.out
        have hi' := hi.out
        go_region_held3 (fun w' => w'.cell? ⟨gx, 0, none⟩ = some (.int .i64 dw) ∧ w'.cell? ⟨gx, 1, none⟩ = some (.int .i64 dv) ∧ w'.cell? ⟨gx, 2, none⟩ = some (.int .u64 dm) ∧ w'.cell? ⟨gx, 3, none⟩ = some (.int .u64 0)) (go_keep)
          (first
            | (go_at_call 94; refine (WD.out _).mono ?_; rintro e w3 ⟨rfl, x3⟩; have y3 := Ext.tr (a := wz) (by (repeat (first | assumption | exact Ext.rf _ | apply Ext.drew | apply Ext.drewN | apply Ext.alloc))) x3; have s0 := keepEL y3 zx e0; have s1 := keepEL y3 zx e1; have s2 := keepEL y3 zx e2; have s3 := keepEL y3 zx e3)
            | (refine step_app_v _ (e := 96) Tryd.underlying97 hi.out hz0.out hz1.out hz2.out (by simp [Value.cells]) (by omega) (by rfl) _ _ (by rfl) w.heap.size B m b2 (flatL L) _ 1 1 [.int .i64 (dw + wt), .int .i64 (dv + vl), .int .u64 dm2, .int .u64 0] (by rfl) (by rfl) ?_ ?_ ?_ ?_ ?_ ?_ ?_ ?_; (refine hO2.out.ext ?_; (repeat (first | assumption | exact Ext.rf _ | apply Ext.drew | apply Ext.drewN | apply Ext.alloc))); (exact (RdV.blk (by (first | exact .new (by simp) | exact .drew (.new (by simp)) | exact .alloc (.new (by simp)) _ | exact .drew (.alloc (.new (by simp)) _) | exact .alloc (.alloc (.new (by simp)) _) _ | exact .drew (.alloc (.alloc (.new (by simp)) _) _) | (repeat (first | assumption | (refine Blk.new ?_; (focus (simp; done))) | apply Blk.drew | apply Blk.drewN | apply Blk.alloc))))).rdC); (simp); (simp [Value.oneCell']); (simp only [maxLen]; omega); omega; (have := y3.size; simp; omega); rintro A9 c9 w9 o9 g9 _; have X9 : Ext w w9 := Ext.grow (X2.out.tr (Ext.tr (by (repeat (first | assumption | exact Ext.rf _ | apply Ext.drew | apply Ext.drewN | apply Ext.alloc))) (by (repeat (first | assumption | exact Ext.rf _ | apply Ext.drew | apply Ext.drewN | apply Ext.alloc))))) g9 (fun q hq => (hO2.out.lt q hq).1); have b9 : Blk w9 gx 96 #[.int .i64 dw, .int .i64 dv, .int .u64 dm, .int .u64 0] := (bx.out.ext (by (repeat (first | assumption | exact Ext.rf _ | apply Ext.drew | apply Ext.drewN | apply Ext.alloc)))).grown g9 (fun e => by have := hBx.out _ e; omega); have s0 : w9.cell? ⟨gx, 0, none⟩ = some (.int .i64 dw) := b9.cell 0; have s1 : w9.cell? ⟨gx, 1, none⟩ = some (.int .i64 dv) := b9.cell 1; have s2 : w9.cell? ⟨gx, 2, none⟩ = some (.int .u64 dm) := b9.cell 2; have s3 : w9.cell? ⟨gx, 3, none⟩ = some (.int .u64 0) := b9.cell 3; replace b9 := Lib.hid b9))
        all_goals
          have HL : Hid (m + 1 = (withP (l.take (j + 1)) k wt vl room).length) := by
            have h : m + 1 = (withP (l.take (j + 1)) k wt vl room).length := by rw [HT.out, List.length_append, ← hm.out]; rfl
            exact h
          have O9 : Hid (OwV w9 w.heap.size 96 4 A9 (m + 1) c9 (flatL (withP (l.take (j + 1)) k wt vl room))) := by
            have h : OwV w9 w.heap.size 96 4 A9 (m + 1) c9 (flatL (withP (l.take (j + 1)) k wt vl room)) := by rw [HT.out, flatL_append]; exact o9
            exact h
          replace X9 := Lib.hid X9
          clear s0 s1 s2 s3 b9 o9 e0 e1 e2 e3
          go_wp2_with (fail)
          go_roundw
          case rel => exact ⟨j + 1, m + 1, A9, c9, rfl, by go_num, by omega, by omega, HL, O9, X9⟩
          case measure => simp [intOf]; omega
      · rw [if_neg hfit, List.append_nil] at HT
        have HL : Hid (m = (withP (l.take (j + 1)) k wt vl room).length) := by
          have h : m = (withP (l.take (j + 1)) k wt vl room).length := by rw [HT]; exact hm.out
          exact h
        have O9 : Hid (OwV (wo.alloc (.cells #[.int .i64 dw, .int .i64 dv, .int .u64 dm, .int .u64 0] 96)) w.heap.size 96 4 B m b2 (flatL (withP (l.take (j + 1)) k wt vl room))) := by
          have h : OwV wo w.heap.size 96 4 B m b2 (flatL (withP (l.take (j + 1)) k wt vl room)) := by rw [HT]; exact hO.out
          exact h.ext ((Ext.rf _).alloc _)
        have X9 := Lib.hid (X.out.alloc (.cells #[.int .i64 dw, .int .i64 dv, .int .u64 dm, .int .u64 0] 96))
        clear hO X HT
        go_wp2_with (fail)
        go_roundw
        case rel => exact ⟨j + 1, m, B, b2, rfl, by go_num, by omega, by omega, HL, O9, X9⟩
        case measure => simp [intOf]; omega
    · obtain rfl : n = j := by omega
      have e : l.take n = l := List.take_of_length_le (by rw [hn.out]; exact Nat.le_refl _)
      rw [e] at hm hO
      go_wp2_with (fail)
      go_ret
      have h2 := hO.out
      unfold WithPost
      rw [← hm.out]
      exact ⟨B, b2, rfl, h2, X.out⟩
end Go.Proofs.YtleckhbmciiooaaDoor
namespace Go.Proofs.YtleckhbmciiooaaDoor
open Go.RowKit Go.ChangeShapes Go.WideShapes Go.ChangeAt Go.Deep

def BestPost (g : Nat) (l : List Ld) (w : World) (e : Ending) (w' : World) : Prop := ∃ (L l2 : List Ld) (B : Option Addr) (c : Nat), l2.Perm l ∧ L = keepL [] l2 ∧ e = .returned (.slice B L.length c) ∧ OwV w' w.heap.size 96 4 B L.length c (flatL L) ∧ Mod (fun b => b = g) w w'
set_option maxRecDepth 100000 in
set_option maxHeartbeats 2000000 in
theorem best_any {base g n c : Nat} {l : List Ld} {w : World} (h : OwV w base 96 4 (some ⟨g, 0, none⟩) n c (flatL l)) (hn : l.length = n) (hl : ∀ d ∈ l, LdOk d) (hsz : n ≤ 1000000) :
    Calls Tryd.prog 63 #[.slice (some ⟨g, 0, none⟩) n c] w (BestPost g l w) := by
  have SO := Lib.hid (sortld_any h hn hl (by omega))
  have zg := (h.lt g rfl).2
  obtain ⟨i0, hi, hz0, hz1, hz2⟩ := info_parts ld_info
  replace hi := Lib.hid hi
  replace hz0 := Lib.hid hz0
  replace hz1 := Lib.hid hz1
  replace hz2 := Lib.hid hz2
  replace hn := Lib.hid hn
  clear h hl
  go_enter Tryd.func63, Tryd.ntmps63
  go_wp2_with (fail)
  refine SO.out.mono ?_
  rintro e w1 ⟨rfl, ⟨l2, hp, h2⟩, hM⟩
  have hl2 : Hid (l2.length = n) := by
    have h9 : l2.length = n := by rw [hp.length_eq, hn.out]
    exact h9
  have z1 := hM.size
  obtain ⟨G, hG⟩ : ∃ G, Hid (keepL [] l2 = G) := ⟨_, rfl⟩
  have HP := Lib.hid hp
  have HM := Lib.hid hM
  have H2 := Lib.hid h2.read
  clear SO hp hM h2
  go_wp2_with (fail)
  have K0 : Hid (keepL [] (l2.drop 0) = G) := by
    have h9 : keepL [] (l2.drop 0) = G := by rw [List.drop_zero]; exact hG.out
    exact h9
  have O0 : Hid (OwV w1 w1.heap.size 96 4 none 0 0 (flatL [])) := OwV.nil _ _ _ _
  go_loopw [3, 10] (fun v3 v10 wr => ∃ (j m : Nat) (out : List Ld) (B : Option Addr) (b2 : Nat), v3 = .slice B m b2 ∧ v10 = .int .i64 j ∧ j ≤ n ∧ m ≤ j ∧ Hid (m = out.length) ∧ Hid (keepL out (l2.drop j) = G) ∧ Hid (OwV wr w1.heap.size 96 4 B m b2 (flatL out)) ∧ Hid (Ext w1 wr)) (fun _ v10 _ => n - (intOf v10).toNat)
  case atStart => exact ⟨0, 0, [], none, 0, rfl, rfl, by omega, by omega, rfl, K0, O0, Ext.rf _⟩
  case round =>
    clear K0 O0
    obtain ⟨wo, rfl⟩ : ∃ wo : World, wo = wr := ⟨_, rfl⟩
    obtain ⟨j, m, out, B, b2, rfl, rfl, hj, hmj, hm, hK, hO, X⟩ := hrel
    by_cases hlt : j < n
    · have hjl : j < l2.length := by rw [hl2.out]; exact hlt
      obtain ⟨d, hd⟩ : ∃ d, Hid (l2[j]? = some d) := ⟨l2[j], List.getElem?_eq_getElem hjl⟩
      have hne : flatL l2 ≠ [] := by
        intro e
        have := flatL_len l2
        rw [e] at this
        simp at this
        omega
      obtain ⟨b, off, hA, zb, hcell⟩ := (H2.out.ext X.out).form hne
      obtain ⟨rfl, rfl⟩ : g = b ∧ 0 = off := by simpa using hA
      obtain ⟨g0, g1, g2, g3⟩ := flatL_get hd.out
      have c0 := hcell _ _ g0
      have c1 := hcell _ _ g1
      have c2 := hcell _ _ g2
      have c3 := hcell _ _ g3
      rw [Nat.zero_add] at c0 c1 c2 c3
      have HD : l2.drop j = d :: l2.drop (j + 1) := by
        obtain ⟨_, hv⟩ := List.getElem?_eq_some_iff.1 hd.out
        rw [List.drop_eq_getElem_cons hjl, hv]
      have KN : keepL (match out.getLast? with
        | none => [d]
        | some q => if worseB d q = true then out else out ++ [d]) (l2.drop (j + 1)) = G := by
        have := hK.out
        rw [HD] at this
        exact this
      obtain ⟨dw, dv, dm⟩ := d
      simp only at c0 c1 c2 c3
      have q1 : (j : Int) < (n : Int) := by omega
      clear hcell hne g0 g1 g2 g3 hjl HD hA
      go_upto_region 6 with (fail)
      have bx : Blk (wo.alloc (.cells #[.int .i64 dw, .int .i64 dv, .int .u64 dm, .int .u64 0] 96)) wo.heap.size 96 #[.int .i64 dw, .int .i64 dv, .int .u64 dm, .int .u64 0] := .new rfl
      have xx : Ext wo (wo.alloc (.cells #[.int .i64 dw, .int .i64 dv, .int .u64 dm, .int .u64 0] 96)) := (Ext.rf _).alloc _
      have X2 := Lib.hid (X.out.tr xx)
      have hO2 := Lib.hid (hO.out.ext xx)
      generalize wo.alloc (.cells #[.int .i64 dw, .int .i64 dv, .int .u64 dm, .int .u64 0] 96) = wz at *
      generalize wo.heap.size = gx at *
      clear c0 c1 c2 c3 xx X hO hK
      have e0 : wz.cell? ⟨gx, 0, none⟩ = some (.int .i64 dw) := bx.cell 0
      have e1 : wz.cell? ⟨gx, 1, none⟩ = some (.int .i64 dv) := bx.cell 1
      have e2 : wz.cell? ⟨gx, 2, none⟩ = some (.int .u64 dm) := bx.cell 2
      have e3 : wz.cell? ⟨gx, 3, none⟩ = some (.int .u64 0) := bx.cell 3
      have zx := bx.lt
      have z0 := X2.out.size
      replace bx := Lib.hid bx
      have z1' : w.heap.size ≤ w1.heap.size := z1
      by_cases hm0 : m = 0
      · subst hm0
        have ho : out = [] := List.eq_nil_of_length_eq_zero hm.out.symm
        subst ho
        have KN2 : Hid (keepL ([] ++ [(dw, dv, dm)]) (l2.drop (j + 1)) = G) := KN
        clear KN
        refine wp_region_any (by kernel_rfl) ?_
        change wpAny _ _ _ _ _ _ _ (World.drew _)
        refine wpAny_T (i := 0) (op := Op.move (Operand.tmp 3)) (t := 97) (d := some 14) (v := ?_) rfl (by decide +kernel) (by decide +kernel) (by decide +kernel) (fun _ _ _ h => h) ?_ ?_
        case refine_2 => (intro _; unfold exec2; go_simp; try with_reducible rfl)
        try simp only [Act.put, List.setIfInBounds_toArray, List.set_cons_zero, List.set_cons_succ]
        refine wpAny_T (i := 1) (op := Op.call { callee := Callee.builtin Builtin.len, args := #[Operand.tmp 14], argTypes := #[97] }) (t := 3) (d := some 15) (v := ?_) rfl (by decide +kernel) (by decide +kernel) (by decide +kernel) (fun _ _ _ h => h) ?_ ?_
        case refine_2 => (intro _; unfold exec2; go_simp; try with_reducible rfl)
        try simp only [Act.put, List.setIfInBounds_toArray, List.set_cons_zero, List.set_cons_succ]
        refine wpAny_T (i := 2) (op := Op.binOp BinOp.eql 3 (Operand.tmp 15) (Operand.const (Value.int IntKind.i64 0)) 3) (t := 4) (d := some 16) (v := ?_) rfl (by decide +kernel) (by decide +kernel) (by decide +kernel) (fun _ _ _ h => h) ?_ ?_
        case refine_2 => (intro _; unfold exec2; go_simp; try with_reducible rfl)
        try simp only [Act.put, List.setIfInBounds_toArray, List.set_cons_zero, List.set_cons_succ]
        refine wpAny_T (i := 3) (op := Op.move (Operand.tmp 16)) (t := 4) (d := some 17) (v := ?_) rfl (by decide +kernel) (by decide +kernel) (by decide +kernel) (fun _ _ _ h => h) ?_ ?_
        case refine_2 => (intro _; unfold exec2; go_simp; try with_reducible rfl)
        try simp only [Act.put, List.setIfInBounds_toArray, List.set_cons_zero, List.set_cons_succ]
        refine wpAny_S (i := 4) (op := Op.load 96 (Operand.tmp 5)) (t := 96) (d := some 18) (b := true) (g := (3, false)) rfl (by decide +kernel) (by decide +kernel) (by decide +kernel) (fun _ _ _ h => h) (by kernel_rfl) rfl ?_
        try simp only [Act.put, List.setIfInBounds_toArray, List.set_cons_zero, List.set_cons_succ]
        refine wpAny_S (i := 5) (op := Op.move (Operand.tmp 3)) (t := 97) (d := some 19) (b := true) (g := (3, false)) rfl (by decide +kernel) (by decide +kernel) (by decide +kernel) (fun _ _ _ h => h) (by kernel_rfl) rfl ?_
        try simp only [Act.put, List.setIfInBounds_toArray, List.set_cons_zero, List.set_cons_succ]
        refine wpAny_S (i := 6) (op := Op.move (Operand.tmp 3)) (t := 97) (d := some 20) (b := true) (g := (3, false)) rfl (by decide +kernel) (by decide +kernel) (by decide +kernel) (fun _ _ _ h => h) (by kernel_rfl) rfl ?_
        try simp only [Act.put, List.setIfInBounds_toArray, List.set_cons_zero, List.set_cons_succ]
        refine wpAny_S (i := 7) (op := Op.call { callee := Callee.builtin Builtin.len, args := #[Operand.tmp 20], argTypes := #[97] }) (t := 3) (d := some 21) (b := true) (g := (3, false)) rfl (by decide +kernel) (by decide +kernel) (by decide +kernel) (fun _ _ _ h => h) (by kernel_rfl) rfl ?_
        try simp only [Act.put, List.setIfInBounds_toArray, List.set_cons_zero, List.set_cons_succ]
        refine wpAny_S (i := 8) (op := Op.binOp BinOp.sub 3 (Operand.tmp 21) (Operand.const (Value.int IntKind.i64 1)) 3) (t := 3) (d := some 22) (b := true) (g := (3, false)) rfl (by decide +kernel) (by decide +kernel) (by decide +kernel) (fun _ _ _ h => h) (by kernel_rfl) rfl ?_
        try simp only [Act.put, List.setIfInBounds_toArray, List.set_cons_zero, List.set_cons_succ]
        refine wpAny_S (i := 9) (op := Op.indexAddr 97 (Operand.tmp 19) (Operand.tmp 22)) (t := 0) (d := some 23) (b := true) (g := (3, false)) rfl (by decide +kernel) (by decide +kernel) (by decide +kernel) (fun _ _ _ h => h) (by kernel_rfl) rfl ?_
        try simp only [Act.put, List.setIfInBounds_toArray, List.set_cons_zero, List.set_cons_succ]
        refine wpAny_S (i := 10) (op := Op.load 96 (Operand.tmp 23)) (t := 96) (d := some 24) (b := true) (g := (3, false)) rfl (by decide +kernel) (by decide +kernel) (by decide +kernel) (fun _ _ _ h => h) (by kernel_rfl) rfl ?_
        try simp only [Act.put, List.setIfInBounds_toArray, List.set_cons_zero, List.set_cons_succ]
        refine wpAny_S (i := 11) (op := Op.call { callee := Callee.value (Operand.func 93), args := #[Operand.tmp 18, Operand.tmp 24], argTypes := #[96, 96] }) (t := 4) (d := some 25) (b := true) (g := (3, false)) rfl (by decide +kernel) (by decide +kernel) (by decide +kernel) (fun _ _ _ h => h) (by kernel_rfl) rfl ?_
        try simp only [Act.put, List.setIfInBounds_toArray, List.set_cons_zero, List.set_cons_succ]
        refine wpAny_S (i := 12) (op := Op.unOp UnOp.not 4 (Operand.tmp 25)) (t := 4) (d := some 26) (b := true) (g := (3, false)) rfl (by decide +kernel) (by decide +kernel) (by decide +kernel) (fun _ _ _ h => h) (by kernel_rfl) rfl ?_
        try simp only [Act.put, List.setIfInBounds_toArray, List.set_cons_zero, List.set_cons_succ]
        refine wpAny_T (i := 13) (op := Op.pick (Operand.tmp 17) (Operand.const (Value.bool true)) (Operand.tmp 26)) (t := 4) (d := some 27) (v := ?_) rfl (by decide +kernel) (by decide +kernel) (by decide +kernel) (fun _ _ _ h => h) ?_ ?_
        case refine_2 => (intro _; unfold exec2; go_simp; try with_reducible rfl)
        try simp only [Act.put, List.setIfInBounds_toArray, List.set_cons_zero, List.set_cons_succ]
        refine wpAny_done (by kernel_rfl) ?_ _
        go_simp
        have yz : Ext wz wz.drew := (Ext.rf _).drew
        have HO3 := Lib.hid (hO2.out.ext yz)
        have XY := Lib.hid (X2.out.tr yz)
        have HBy := Lib.hid (Nat.le_trans z0 yz.size)
        go_wp2_with (at_builtin; refine wpl_app_v _ (e := 96) Tryd.underlying97 hi.out hz0.out hz1.out hz2.out (by simp [Value.cells]) (by omega) rfl _ _ rfl w1.heap.size B 0 b2 (flatL []) _ 1 1 [.int .i64 dw, .int .i64 dv, .int .u64 dm, .int .u64 0] rfl rfl (HO3.out.ext ((Ext.rf _).alloc _)) (RdV.blk (.new rfl)).rdC (by simp) (by simp [Value.oneCell']) (by simp only [maxLen]; omega) (by omega) (by have := HBy.out; simp; omega) ?_; rintro A9 c9 w9 o9 g9 _; replace o9 := Lib.hid o9; replace g9 := Lib.hid g9)
        have X9 : Hid (Ext w1 w9) := Ext.grow (XY.out.alloc _) g9.out (fun q hq => (hO2.out.lt q hq).1)
        have HL : Hid (0 + 1 = (([] : List Ld) ++ [(dw, dv, dm)]).length) := by
          have h9 : 0 + 1 = (([] : List Ld) ++ [(dw, dv, dm)]).length := by rw [List.length_append, ← hm.out]; rfl
          exact h9
        have O9 : Hid (OwV w9 w1.heap.size 96 4 A9 (0 + 1) c9 (flatL (([] : List Ld) ++ [(dw, dv, dm)]))) := by
          have h9 : OwV w9 w1.heap.size 96 4 A9 (0 + 1) c9 (flatL (([] : List Ld) ++ [(dw, dv, dm)])) := by rw [flatL_append]; exact o9.out
          exact h9
        clear o9 g9 HO3 XY
        go_wp2_with (fail)
        go_roundw
        case rel => exact ⟨j + 1, 0 + 1, _, A9, c9, rfl, by go_num, by omega, by omega, HL, KN2, O9, X9⟩
        case measure => simp [intOf]; omega
      · obtain ⟨p, hp⟩ : ∃ p, Hid (m = p + 1) := ⟨m - 1, (by omega : m = m - 1 + 1)⟩
        have hpl : p < out.length := by rw [← hm.out, hp.out]; omega
        obtain ⟨md, hmd⟩ : ∃ md, Hid (out[p]? = some md) := ⟨out[p], List.getElem?_eq_getElem hpl⟩
        have hlast : out.getLast? = some md := by
          rw [List.getLast?_eq_getElem?, ← hm.out, hp.out]
          exact hmd.out
        rw [hlast] at KN
        simp only at KN
        have hne : flatL out ≠ [] := by
          intro e
          have := flatL_len out
          rw [e] at this
          simp at this
          omega
        obtain ⟨gb, ob, hA, zb, hcell⟩ := hO2.out.read.form hne
        have hob : ob = 0 := by
          rcases hO2.out.cases with ⟨h1, _⟩ | ⟨g', cur, h1, _⟩
          · rw [hA] at h1; cases h1
          · rw [hA] at h1
            have h2 : gb = g' ∧ ob = 0 := by simpa using h1
            exact h2.2
        subst hob hA
        obtain ⟨g0, g1, g2, g3⟩ := flatL_get hmd.out
        have a0 := hcell _ _ g0
        have a1 := hcell _ _ g1
        have a2 := hcell _ _ g2
        have a3 := hcell _ _ g3
        rw [Nat.zero_add] at a0 a1 a2 a3
        obtain ⟨ew, ev, em⟩ := md
        simp only at a0 a1 a2 a3
        have WO := fun (W : World) => worse_any (dw, dv, dm) (ew, ev, em) W
        simp only [ldA] at WO
        obtain ⟨wb, hwb⟩ : ∃ wb, Hid (worseB (dw, dv, dm) (ew, ev, em) = wb) := ⟨_, rfl⟩
        rw [hwb.out] at WO KN
        replace WO := Lib.hid WO
        have wp : IntKind.i64.wrap ((m : Int) - 1) = (p : Int) := by
          have := hp.out
          rw [show (m : Int) - 1 = (p : Int) by omega]
          exact IntWalk.i64_in _ (by omega)
        have qm : ((m : Int) == 0) = false := by simp; omega
        have qp : (p : Int) < (m : Int) := by have := hp.out; omega
        clear hcell hne g0 g1 g2 g3 hlast hpl
        go_region_held3 (fun w' => w'.cell? ⟨gx, 0, none⟩ = some (.int .i64 dw) ∧ w'.cell? ⟨gx, 1, none⟩ = some (.int .i64 dv) ∧ w'.cell? ⟨gx, 2, none⟩ = some (.int .u64 dm) ∧ w'.cell? ⟨gx, 3, none⟩ = some (.int .u64 0) ∧ w'.cell? ⟨gb, p * 4, none⟩ = some (.int .i64 ew) ∧ w'.cell? ⟨gb, p * 4 + 1, none⟩ = some (.int .i64 ev) ∧ w'.cell? ⟨gb, p * 4 + 2, none⟩ = some (.int .u64 em) ∧ w'.cell? ⟨gb, p * 4 + 3, none⟩ = some (.int .u64 0)) (go_keep)
          (first
            | (go_at_call 93; refine (WO.out _).mono ?_; rintro e w3 ⟨rfl, x3⟩; have y3 := Ext.tr (a := wz) (by (repeat (first | assumption | exact Ext.rf _ | apply Ext.drew | apply Ext.drewN | apply Ext.alloc))) x3; have s0 := keepEL y3 zx e0; have s1 := keepEL y3 zx e1; have s2 := keepEL y3 zx e2; have s3 := keepEL y3 zx e3; have s4 := keepEL y3 zb a0; have s5 := keepEL y3 zb a1; have s6 := keepEL y3 zb a2; have s7 := keepEL y3 zb a3))
        all_goals
          cases wb with
          | true =>
            have KN2 : Hid (keepL out (l2.drop (j + 1)) = G) := KN
            have O9 := Lib.hid (hO2.out.ext y3)
            have X9 := Lib.hid (X2.out.tr y3)
            clear KN s0 s1 s2 s3 s4 s5 s6 s7 e0 e1 e2 e3 a0 a1 a2 a3
            go_wp2_with (fail)
            go_roundw
            case rel => exact ⟨j + 1, m, out, _, b2, rfl, by go_num, by omega, by omega, hm, KN2, O9, X9⟩
            case measure => simp [intOf]; omega
          | false =>
            have KN2 : Hid (keepL (out ++ [(dw, dv, dm)]) (l2.drop (j + 1)) = G) := KN
            clear KN s4 s5 s6 s7 e0 e1 e2 e3 a0 a1 a2 a3
            have yz : Ext wz w3 := y3
            have HO3 := Lib.hid (hO2.out.ext yz)
            have XY := Lib.hid (X2.out.tr yz)
            have HBy := Lib.hid (Nat.le_trans z0 yz.size)
            go_wp2_with (at_builtin; refine wpl_app_v _ (e := 96) Tryd.underlying97 hi.out hz0.out hz1.out hz2.out (by simp [Value.cells]) (by omega) rfl _ _ rfl w1.heap.size (some ⟨gb, 0, none⟩) m b2 (flatL out) _ 1 1 [.int .i64 dw, .int .i64 dv, .int .u64 dm, .int .u64 0] rfl rfl (HO3.out.ext ((Ext.rf _).alloc _)) (RdV.blk (.new rfl)).rdC (by simp) (by simp [Value.oneCell']) (by simp only [maxLen]; omega) (by omega) (by have := HBy.out; simp; omega) ?_; rintro A9 c9 w9 o9 g9 _; replace o9 := Lib.hid o9; replace g9 := Lib.hid g9)
            have X9 : Hid (Ext w1 w9) := Ext.grow (XY.out.alloc _) g9.out (fun q hq => (hO2.out.lt q hq).1)
            have HL : Hid (m + 1 = (out ++ [(dw, dv, dm)]).length) := by
              have h9 : m + 1 = (out ++ [(dw, dv, dm)]).length := by rw [List.length_append, ← hm.out]; rfl
              exact h9
            have O9 : Hid (OwV w9 w1.heap.size 96 4 A9 (m + 1) c9 (flatL (out ++ [(dw, dv, dm)]))) := by
              have h9 : OwV w9 w1.heap.size 96 4 A9 (m + 1) c9 (flatL (out ++ [(dw, dv, dm)])) := by rw [flatL_append]; exact o9.out
              exact h9
            clear o9 g9 HO3 XY
            go_wp2_with (fail)
            go_roundw
            case rel => exact ⟨j + 1, m + 1, _, A9, c9, rfl, by go_num, by omega, by omega, HL, KN2, O9, X9⟩
            case measure => simp [intOf]; omega
    · obtain rfl : n = j := by omega
      have e : l2.drop n = [] := List.drop_of_length_le (by rw [hl2.out]; exact Nat.le_refl _)
      rw [e] at hK
      have hoG : out = G := hK.out
      have hGL : Hid (m = G.length ∧ OwV wo w1.heap.size 96 4 B m b2 (flatL G)) := by
        rw [← hoG]
        exact ⟨hm.out, hO.out⟩
      clear hoG hK hm hO e
      go_wp2_with (fail)
      go_ret
      have h2 := hGL.out.2
      rw [hGL.out.1] at h2
      exact ⟨G, l2, B, b2, HP.out, hG.out.symm, by rw [hGL.out.1]; rfl, h2.more HM.out.size, HM.out.ext X.out⟩
end Go.Proofs.YtleckhbmciiooaaDoor
namespace Go.Proofs.YtleckhbmciiooaaDoor
open Go.RowKit Go.ChangeShapes Go.WideShapes Go.ChangeAt Go.Deep Go.Shelf
attribute [local go_sem] Oper.semAt_some

theorem ownFrom_blk {β : Type} {k B : Nat} (hk : k < B) (t : TypeId) (cs : β → Array Value) : OwnFrom B (fun s W => Blk W k t (cs s)) := fun s W W' row hs hg hr =>
  (hg.block k hs.lt (fun e => by obtain ⟨h1, _⟩ := hr _ e.symm; omega)).trans hs
/-- but for one block, what was there is as it was -/
def Held (w0 : World) (sb : Nat) (w : World) : Prop := w0.heap.size ≤ w.heap.size ∧ ∀ b, b < w0.heap.size → b ≠ sb → w.heap[b]? = w0.heap[b]?
theorem Held.blk {w0 w : World} {sb g : Nat} {t : TypeId} {cs : Array Value} (h : Held w0 sb w) (hb : Blk w0 g t cs) (hne : g ≠ sb) : Blk w g t cs := (h.2 g hb.lt hne).trans hb
theorem Held.set {w0 w : World} {sb : Nat} (h : Held w0 sb w) (u : Value) : Held w0 sb (w.setCell ⟨sb, 0, none⟩ u) := ⟨by simp; exact h.1, fun b h1 h2 => (Below.heap_setCell w ⟨sb, 0, none⟩ u b h2).trans (h.2 b h1 h2)⟩
theorem Held.ext {w0 w w' : World} {sb : Nat} (h : Held w0 sb w) (x : Ext w w') : Held w0 sb w' := ⟨Nat.le_trans h.1 x.size, fun b h1 h2 => (x.block b (Nat.lt_of_lt_of_le h1 h.1)).trans (h.2 b h1 h2)⟩
theorem ownFrom_held {β : Type} {w0 : World} {B sb : Nat} (hB : w0.heap.size ≤ B) : OwnFrom B (fun (_ : β) W => Held w0 sb W) := fun _ W W' row hs hg hr =>
  ⟨Nat.le_trans hs.1 hg.size, fun b h1 h2 => (hg.block b (Nat.lt_of_lt_of_le h1 hs.1) (fun e => by have := (hr b e.symm).1; omega)).trans (hs.2 b h1 h2)⟩
theorem KeepsFrom.of_ext {B : Nat} {W W' : World} (x : Ext W W') : KeepsFrom B W W' := ⟨x.size, fun k _ _ hk _ => (x.block k (Array.getElem?_eq_some_iff.1 hk).1).trans hk⟩
end Go.Proofs.YtleckhbmciiooaaDoor
