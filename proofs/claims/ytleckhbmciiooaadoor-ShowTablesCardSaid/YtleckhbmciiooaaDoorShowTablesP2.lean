/-
  The document's Check of a problem.
    The document's Check of the other problems, and whole.
  What the laws on kernels share: a copied problem.
  An assignment, plainly: a square in form; which columns a beginning leaves.
  Sets of numbers (Of), orders of 0 to n - 1, what an assignment's answer costs (value.Cost).
  The document's Perm (kurganref08), of all lists.
  set.Of of any numbers, value.order at any list.
  A knapsack in form: what that says.
  A knapsack's kernel: what New leaves alone of other problems; what a problem in form says.
    A knapsack's kernel as New makes it: its first half, the memory of it.
    A knapsack's kernel as New makes it: what an append and a store do to it.
  What the rest of a tour costs.
  Ways from city to city: what is left of a way, and how much it may cost at most.
  An assignment's kernel: New, Depth, free.
    An assignment's kernel: which columns a beginning leaves.
    An assignment's kernel: the least of a row's numbers in some columns.
    An assignment's kernel: what rows cost at least, in some columns.
    A region that draws its order and only reads, walked once inside a round of a loop over a function.
    An assignment's kernel: what rows cost at least, walked.
    An assignment's kernel: what no answer that begins so is below.
  An assignment's kernel: the order of the kids.
    An assignment's kernel: what may follow a beginning.
    The law's own example: a kernel of two rows.
  A tour's kernel: what no answer that begins so is below.
  The kind of a problem in form.
  The document's Cost (kurganref08), of all problems and lists.
  inst.Check of a problem whose rows of numbers are as long as a machine's.
  value.Cost, takes, told at a tour.
  value.Cost, of all problems and lists.
  value.Value of all problems and lists; kurganref08.Of.
  What an answer says, in words: the plain part.
  The document's Write of a number (kurganref03), digit by digit.
  kurganref34.Answer: an answer in words.
  A problem's numbers in columns: the plain part.
  kurganref34.Answer of all problems and lists.
  The library function lies in this program: its bodies, its types, number by number.
  Numbers as digits: strconv.Itoa, digit.Write.
  show.Answer, under a contract for show.words.
  The library function lies in this program: its bodies, its types, number by number.
  show.words at a tour. (Begun.)
-/
import Derived.Test.YtleckhbmciiooaaDoorShowTablesP1
import Derived.Sort.BigQuietIn
import Derived.Deep.QuietTactic
import Derived.BigQuiet
import Derived.Lib.ItoaNum
import Derived.Lib.Join
import Derived.Laws.BytesArg
import Derived.Lib.ItoaLen
import Derived.Shelf.LaysM
import Derived.Shelf.Strconv.Itoa3
import Derived.Lib.AppendIntMem
import Derived.Shelf.Lays
import Derived.Shelf.Strings.OnBuilder
namespace Go.Proofs.YtleckhbmciiooaaDoor
open Go.RowKit Go.ChangeShapes Go.WideShapes Go.ChangeAt Go.Deep

set_option maxRecDepth 100000 in
set_option maxHeartbeats 4000000 in
theorem rcheck_size (k n cap : Int) (a b c : Value) (w : World) (h : sizeP k n ≠ 0) :
    Calls Tryd.prog 29 #[.agg #[.int .i64 k, .int .i64 n, .int .i64 cap, a, b, c]] w fun e w' => e = .returned (.int .i64 (sizeP k n)) ∧ Ext w w' := by
  by_cases k0 : k < 1
  · have hs : Hid (sizeP k n = 14) := by
      have h : sizeP k n = 14 := by unfold sizeP; rw [if_neg (by omega), if_neg (by omega), if_neg (by omega)]
      exact h
    clear h
    go_enter Tryd.func29, Tryd.ntmps29
    go_wp2
    go_ret
    exact ⟨ret_i hs.out.symm, by (repeat (first | assumption | exact Ext.rf _ | apply Ext.drew | apply Ext.drewN | apply Ext.alloc))⟩
  · by_cases k3 : 3 < k
    · have hs : Hid (sizeP k n = 14) := by
        have h : sizeP k n = 14 := by unfold sizeP; rw [if_neg (by omega), if_neg (by omega), if_neg (by omega)]
        exact h
      clear h
      go_enter Tryd.func29, Tryd.ntmps29
      go_wp2
      go_ret
      exact ⟨ret_i hs.out.symm, by (repeat (first | assumption | exact Ext.rf _ | apply Ext.drew | apply Ext.drewN | apply Ext.alloc))⟩
    · by_cases n1 : n < 1
      · have hs : Hid (sizeP k n = 1) := by
          have h : sizeP k n = 1 := by
            unfold sizeP
            by_cases a1 : k = 1
            · rw [if_pos a1, if_pos n1]
            · rw [if_neg a1]
              by_cases a2 : k = 2
              · rw [if_pos a2, if_pos n1]
              · rw [if_neg a2, if_pos (by omega), if_pos n1]
          exact h
        clear h
        go_enter Tryd.func29, Tryd.ntmps29
        go_wp2
        go_ret
        exact ⟨ret_i hs.out.symm, by (repeat (first | assumption | exact Ext.rf _ | apply Ext.drew | apply Ext.drewN | apply Ext.alloc))⟩
      · by_cases a1 : k = 1
        · subst a1
          have n64 : 64 < n := by
            unfold sizeP at h
            rw [if_pos rfl, if_neg n1] at h
            by_cases h2 : 64 < n
            · exact h2
            · rw [if_neg h2] at h; exact absurd rfl h
          have hs : Hid (sizeP 1 n = 5) := by
            have h : sizeP 1 n = 5 := by unfold sizeP; rw [if_pos rfl, if_neg n1, if_pos n64]
            exact h
          clear h
          go_enter Tryd.func29, Tryd.ntmps29
          go_wp2
          go_ret
          exact ⟨ret_i hs.out.symm, by (repeat (first | assumption | exact Ext.rf _ | apply Ext.drew | apply Ext.drewN | apply Ext.alloc))⟩
        · have n24 : 24 < n := by
            unfold sizeP at h
            rw [if_neg a1] at h
            by_cases a2 : k = 2
            · rw [if_pos a2, if_neg n1] at h
              by_cases h2 : 24 < n
              · exact h2
              · rw [if_neg h2] at h; exact absurd rfl h
            · rw [if_neg a2, if_pos (by omega), if_neg n1] at h
              by_cases h2 : 24 < n
              · exact h2
              · rw [if_neg h2] at h; exact absurd rfl h
          have hs : Hid (sizeP k n = 5) := by
            have h : sizeP k n = 5 := by
              unfold sizeP
              rw [if_neg a1]
              by_cases a2 : k = 2
              · rw [if_pos a2, if_neg n1, if_pos n24]
              · rw [if_neg a2, if_pos (by omega), if_neg n1, if_pos n24]
            exact h
          have a1' : (k == 1) = false := by simpa using a1
          clear h a1
          have k1 : 1 < k := by
            have : k ≠ 1 := by simpa using a1'
            omega
          go_enter Tryd.func29, Tryd.ntmps29
          go_wp2
          go_ret
          exact ⟨ret_i hs.out.symm, by (repeat (first | assumption | exact Ext.rf _ | apply Ext.drew | apply Ext.drewN | apply Ext.alloc))⟩
set_option maxRecDepth 100000 in
set_option maxHeartbeats 4000000 in
theorem rcheck_1 (n : Nat) (cap : Int) (A B C : Option Addr) (a b c : Nat) (xs ys : List Int) (l : List (List Int)) (w : World) (hA : RdI w A xs) (hB : RdI w B ys) (n1 : 1 ≤ n) (n2 : n ≤ 64) :
    Calls Tryd.prog 29 #[.agg #[.int .i64 1, .int .i64 n, .int .i64 cap, .slice A xs.length a, .slice B ys.length b, .slice C l.length c]] w fun e w' => e = .returned (.int .i64 (if (((xs.length : Int) == (n : Int)) && ((ys.length : Int) == (n : Int)) && ((l.length : Int) == 0)) = true then itemsP cap xs ys xs.length else 8)) ∧ Ext w w' := by
  have B1 : Hid (Blk (w.alloc (.cells #[.int .i64 1, .int .i64 n, .int .i64 cap, .slice A xs.length a, .slice B ys.length b, .slice C l.length c] 25)) w.heap.size 25 #[.int .i64 1, .int .i64 n, .int .i64 cap, .slice A xs.length a, .slice B ys.length b, .slice C l.length c]) := .new rfl
  have nn1 : ¬ ((n : Int) < 1) := by omega
  have nn2 : ¬ ((64 : Int) < n) := by omega
  cases h1 : ((xs.length : Int) == (n : Int))
  · have h1' : ((xs.length : Int) != (n : Int)) = true := by simp only [bne, h1]; rfl
    go_enter Tryd.func29, Tryd.ntmps29
    go_wp2
    go_ret
    exact ⟨rfl, by (repeat (first | assumption | exact Ext.rf _ | apply Ext.drew | apply Ext.drewN | apply Ext.alloc))⟩
  · have h1' : ((xs.length : Int) != (n : Int)) = false := by simp only [bne, h1]; rfl
    cases h2 : ((ys.length : Int) == (n : Int))
    · have h2' : ((ys.length : Int) != (n : Int)) = true := by simp only [bne, h2]; rfl
      go_enter Tryd.func29, Tryd.ntmps29
      go_wp2
      go_ret
      exact ⟨rfl, by (repeat (first | assumption | exact Ext.rf _ | apply Ext.drew | apply Ext.drewN | apply Ext.alloc))⟩
    · have h2' : ((ys.length : Int) != (n : Int)) = false := by simp only [bne, h2]; rfl
      cases h3 : ((l.length : Int) == 0)
      · have h3' : ((l.length : Int) != 0) = true := by simp only [bne, h3]; rfl
        go_enter Tryd.func29, Tryd.ntmps29
        go_wp2
        go_ret
        exact ⟨rfl, by (repeat (first | assumption | exact Ext.rf _ | apply Ext.drew | apply Ext.drewN | apply Ext.alloc))⟩
      · have h3' : ((l.length : Int) != 0) = false := by simp only [bne, h3]; rfl
        have e1 : xs.length = n := by simp only [beq_iff_eq] at h1; omega
        have e2 : ys.length = n := by simp only [beq_iff_eq] at h2; omega
        have e3 : l.length = 0 := by simp only [beq_iff_eq] at h3; omega
        simp only [Bool.and_true, if_true]
        have HI := Lib.hid (itemsP_zero cap xs ys)
        have HST : Hid (∀ k, itemsP cap xs ys k ≠ 0 → itemsP cap xs ys xs.length = itemsP cap xs ys k) := fun k hk => itemsP_stop (by omega) hk
        rw [e1, e2, e3] at B1
        rw [e1] at HST
        rw [e1, e2, e3]
        clear h1 h1' h2 h2' h3 h3' e3
        replace e1 := Lib.hid e1
        replace e2 := Lib.hid e2
        go_enter Tryd.func29, Tryd.ntmps29
        go_wp2_with (fail)
        refine (number_any cap _).mono ?_
        rintro e w2 ⟨rfl, x2⟩
        have X2 := Lib.hid (Ext.tr (a := w) (by (repeat (first | assumption | exact Ext.rf _ | apply Ext.drew | apply Ext.drewN | apply Ext.alloc))) x2)
        have B2 := Lib.hid (B1.out.ext x2)
        clear x2
        by_cases hc : numP cap = 0
        · have hc' : (numP cap != 0) = false := by simpa using hc
          have H0 : Hid (itemsP cap xs ys 0 = 0) := by
            have h := HI.out
            rw [hc] at h
            exact h
          clear hc
          have d1 : w2.cell? ⟨w.heap.size, 1, none⟩ = some (.int .i64 n) := B2.out.cell 1
          go_wp2_with (fail)
          go_loopw [4] (fun i wr => ∃ k : Nat, i = .int .i64 k ∧ k ≤ n ∧ Hid (itemsP cap xs ys k = 0) ∧ Ext w wr ∧ Hid (Blk wr w.heap.size 25 #[.int .i64 1, .int .i64 n, .int .i64 cap, .slice A n a, .slice B n b, .slice C 0 c])) (fun i _ => n - (intOf i).toNat)
          case atStart => exact ⟨0, rfl, by omega, H0, X2.out, B2⟩
          case round =>
            obtain ⟨wo, rfl⟩ : ∃ wo : World, wo = wr := ⟨_, rfl⟩
            obtain ⟨k, rfl, hk, HK, Y, BB⟩ := hrel
            have c1 : wo.cell? ⟨w.heap.size, 1, none⟩ = some (.int .i64 n) := BB.out.cell 1
            have c3 : wo.cell? ⟨w.heap.size, 3, none⟩ = some (.slice A n a) := BB.out.cell 3
            by_cases hlt : k < n
            · obtain ⟨bb, off, x, rfl, _, hc1, hx1, _⟩ := (hA.ext Y).at (k := k) (by rw [e1.out]; exact hlt)
              obtain ⟨bb', off', y, rfl, zy, hc2, hy1, _⟩ := (hB.ext Y).at (k := k) (by rw [e2.out]; exact hlt)
              have S := Lib.hid (itemsP_succ hx1.out hy1.out HK.out)
              go_wp2_with (fail)
              refine (number_any x _).mono ?_
              rintro e w3 ⟨rfl, x3⟩
              have Y3 := Ext.tr Y x3
              have B3 := Lib.hid (BB.out.ext x3)
              have c4' : w3.cell? ⟨w.heap.size, 4, none⟩ = some (.slice (some ⟨bb', off', none⟩) n b) := B3.out.cell 4
              have hc2' := keepEL x3 zy hc2
              by_cases hn : numP x = 0
              · have hn' : (numP x != 0) = false := by simpa using hn
                have HN := Lib.hid hn
                clear hn c1 c3 hc1 hc2
                go_wp2_with (fail)
                refine (number_any y _).mono ?_
                rintro e w4 ⟨rfl, x4⟩
                have Y4 := Ext.tr Y3 x4
                have B4 := Lib.hid (B3.out.ext x4)
                have HR : Hid (itemsP cap xs ys (k + 1) = numP y) := by
                  have h1 := S.out
                  rw [if_pos HN.out] at h1
                  exact h1
                clear c4' hc2' hn'
                by_cases hm : numP y = 0
                · have hm' : (numP y != 0) = false := by simpa using hm
                  have HR2 : Hid (itemsP cap xs ys (k + 1) = 0) := by
                    have h := HR.out
                    rw [hm] at h
                    exact h
                  clear hm
                  go_wp2
                  go_roundw
                  case rel => exact ⟨k + 1, by go_num, by omega, HR2, Y4, B4⟩
                  case measure => simp [intOf]; omega
                · have hm' : (numP y != 0) = true := by simpa using hm
                  have HR2 : Hid (itemsP cap xs ys n = numP y) := by
                    have h := HST.out (k + 1) (by rw [HR.out]; exact hm)
                    rw [HR.out] at h
                    exact h
                  clear hm
                  go_wp2
                  go_ret
                  exact ⟨ret_i HR2.out.symm, Y4⟩
              · have hn' : (numP x != 0) = true := by simpa using hn
                have HR2 : Hid (itemsP cap xs ys n = numP x) := by
                  have h1 := S.out
                  rw [if_neg hn] at h1
                  have h := HST.out (k + 1) (by rw [h1]; exact hn)
                  rw [h1] at h
                  exact h
                clear hn c1 c3 c4' hc1 hc2 hc2'
                go_wp2
                go_ret
                exact ⟨ret_i HR2.out.symm, Y3⟩
            · obtain rfl : k = n := by omega
              clear c3
              go_wp2
              go_ret
              exact ⟨ret_i HK.out.symm, Y⟩
        · have hc' : (numP cap != 0) = true := by simpa using hc
          have HR2 : Hid (itemsP cap xs ys n = numP cap) := by
            have h := HST.out 0 (by rw [HI.out]; exact hc)
            rw [HI.out] at h
            exact h
          clear hc
          go_wp2
          go_ret
          exact ⟨ret_i HR2.out.symm, X2.out⟩
end Go.Proofs.YtleckhbmciiooaaDoor
namespace Go.Proofs.YtleckhbmciiooaaDoor
open Go.RowKit Go.ChangeShapes Go.WideShapes Go.ChangeAt Go.Deep

set_option maxRecDepth 100000 in
set_option maxHeartbeats 4000000 in
theorem rcheck_flat (k : Int) (n : Nat) (cap : Int) (A B C : Option Addr) (a b c : Nat) (xs ys : List Int) (l : List (List Int)) (w : World) (hk : k = 2 ∨ k = 3) (n1 : 1 ≤ n) (n2 : n ≤ 24)
    (h : (((l.length : Int) == (n : Int)) && (cap == 0) && decide (xs.length + ys.length = 0)) = false) :
    Calls Tryd.prog 29 #[.agg #[.int .i64 k, .int .i64 n, .int .i64 cap, .slice A xs.length a, .slice B ys.length b, .slice C l.length c]] w fun e w' => e = .returned (.int .i64 8) ∧ Ext w w' := by
  have nn1 : ¬ ((n : Int) < 1) := by omega
  have nn2 : ¬ ((24 : Int) < n) := by omega
  have k0 : ¬ k < 1 := by omega
  have k3 : ¬ 3 < k := by omega
  have k1 : 1 < k := by omega
  have kb : (k == 1) = false := by rw [beq_eq_false_iff_ne]; omega
  clear hk
  cases h1 : ((l.length : Int) == (n : Int))
  · have h1' : ((l.length : Int) != (n : Int)) = true := by simp only [bne, h1]; rfl
    clear h
    go_enter Tryd.func29, Tryd.ntmps29
    go_wp2
    go_ret
    exact ⟨rfl, by (repeat (first | assumption | exact Ext.rf _ | apply Ext.drew | apply Ext.drewN | apply Ext.alloc))⟩
  · have h1' : ((l.length : Int) != (n : Int)) = false := by simp only [bne, h1]; rfl
    cases h2 : (cap == 0)
    · have h2' : (cap != 0) = true := by simp only [bne, h2]; rfl
      clear h
      go_enter Tryd.func29, Tryd.ntmps29
      go_wp2
      go_ret
      exact ⟨rfl, by (repeat (first | assumption | exact Ext.rf _ | apply Ext.drew | apply Ext.drewN | apply Ext.alloc))⟩
    · have h2' : (cap != 0) = false := by simp only [bne, h2]; rfl
      have h3 : ¬ (xs.length + ys.length = 0) := by rw [h1, h2] at h; simpa using h
      clear h
      by_cases hx : xs.length = 0
      · have hxb : ((xs.length : Int) != 0) = false := by rw [bne_eq_false_iff_eq]; omega
        have hyb : ((ys.length : Int) != 0) = true := by rw [bne_iff_ne]; omega
        clear hx h3
        go_enter Tryd.func29, Tryd.ntmps29
        go_wp2
        go_ret
        exact ⟨rfl, by (repeat (first | assumption | exact Ext.rf _ | apply Ext.drew | apply Ext.drewN | apply Ext.alloc))⟩
      · have hxb : ((xs.length : Int) != 0) = true := by rw [bne_iff_ne]; omega
        clear hx h3
        go_enter Tryd.func29, Tryd.ntmps29
        go_wp2
        go_ret
        exact ⟨rfl, by (repeat (first | assumption | exact Ext.rf _ | apply Ext.drew | apply Ext.drewN | apply Ext.alloc))⟩
theorem any_take_succ {l : List (List Int)} {r : Nat} {row : List Int} (p : List Int → Bool) (h : l[r]? = some row) : (l.take (r + 1)).any p = ((l.take r).any p || p row) := by
  obtain ⟨hr, h⟩ := List.getElem?_eq_some_iff.1 h
  rw [List.take_succ_eq_append_getElem hr, List.any_append, h]
  simp
set_option maxRecDepth 100000 in
set_option maxHeartbeats 8000000 in
theorem rcheck_sq (k : Int) (n : Nat) (A B C : Option Addr) (a b c : Nat) (l : List (List Int)) (w : World) (hC : RdE 1 RInts w C l) (hk : k = 2 ∨ k = 3) (n1 : 1 ≤ n) (n2 : n ≤ 24) (hl : l.length = n) :
    Calls Tryd.prog 29 #[.agg #[.int .i64 k, .int .i64 n, .int .i64 0, .slice A 0 a, .slice B 0 b, .slice C n c]] w fun e w' => e = .returned (.int .i64 (if (l.any fun r => (r.length : Int) != (n : Int)) = true then 8 else rowsE k 0 l)) ∧ Ext w w' := by
  have nn1 : ¬ ((n : Int) < 1) := by omega
  have nn2 : ¬ ((24 : Int) < n) := by omega
  have k0 : ¬ k < 1 := by omega
  have k3 : ¬ 3 < k := by omega
  have k1 : 1 < k := by omega
  have kb : (k == 1) = false := by rw [beq_eq_false_iff_ne]; omega
  have B1 : Hid (Blk (w.alloc (.cells #[.int .i64 k, .int .i64 n, .int .i64 0, .slice A 0 a, .slice B 0 b, .slice C n c] 25)) w.heap.size 25 #[.int .i64 k, .int .i64 n, .int .i64 0, .slice A 0 a, .slice B 0 b, .slice C n c]) := .new rfl
  clear hk
  replace hl := Lib.hid hl
  obtain ⟨res, hres⟩ : ∃ res, Hid (res = if (l.any fun r => (r.length : Int) != (n : Int)) = true then 8 else rowsE k 0 l) := ⟨_, rfl⟩
  rw [← hres.out]
  go_enter Tryd.func29, Tryd.ntmps29
  go_wp2_with (fail)
  go_loopw [7] (fun i wr => ∃ r : Nat, i = .int .i64 r ∧ r ≤ n ∧ Hid (((l.take r).any fun r => (r.length : Int) != (n : Int)) = false) ∧ Ext w wr ∧ Hid (Blk wr w.heap.size 25 #[.int .i64 k, .int .i64 n, .int .i64 0, .slice A 0 a, .slice B 0 b, .slice C n c])) (fun i _ => n - (intOf i).toNat)
  case atStart => exact ⟨0, rfl, by omega, by exact rfl, by (repeat (first | assumption | exact Ext.rf _ | apply Ext.drew | apply Ext.drewN | apply Ext.alloc)), B1⟩
  case round =>
    obtain ⟨wo, rfl⟩ : ∃ wo : World, wo = wr := ⟨_, rfl⟩
    obtain ⟨r, rfl, hr, HA, Y, BB⟩ := hrel
    have c1 : wo.cell? ⟨w.heap.size, 1, none⟩ = some (.int .i64 n) := BB.out.cell 1
    have c5 : wo.cell? ⟨w.heap.size, 5, none⟩ = some (.slice C n c) := BB.out.cell 5
    by_cases hlt : r < n
    · obtain ⟨cb, co, D, row, d, rfl, _, hc1, hrow, HD, rr, ir, ld, md⟩ := (hC.ext Y fun _ _ h => h.ext Y).ints (r := r) (by rw [hl.out]; exact hlt)
      by_cases hlen : row.length = n
      · have hlb : ((row.length : Int) != (n : Int)) = false := by rw [bne_eq_false_iff_eq]; omega
        have HN : Hid (((l.take (r + 1)).any fun r => (r.length : Int) != (n : Int)) = false) := by
          have h : ((l.take (r + 1)).any fun r => (r.length : Int) != (n : Int)) = false := by rw [any_take_succ _ hrow.out, HA.out, hlb]; rfl
          exact h
        replace hlen := Lib.hid hlen
        go_wp2_with (go_quiet (fail))
        go_roundw
        case rel => exact ⟨r + 1, by go_num, by omega, HN, by repeat (first | exact Y | apply Ext.drewN), by repeat (first | exact BB | exact (Lib.hid BB.out))⟩
        case measure => simp [intOf]; omega
      · have hlb : ((row.length : Int) != (n : Int)) = true := by rw [bne_iff_ne]; omega
        have HN : Hid (res = 8) := by
          have h : res = 8 := by
            rw [hres.out, if_pos]
            exact List.any_eq_true.2 ⟨row, List.mem_of_getElem? hrow.out, hlb⟩
          exact h
        clear hlen
        go_wp2_with (go_quiet (fail))
        go_ret
        exact ⟨ret_i HN.out.symm, by repeat (first | exact Y | apply Ext.drewN)⟩
    · obtain rfl : r = n := by omega
      have HN : Hid (res = rowsE k 0 l) := by
        have h := HA.out
        rw [List.take_of_length_le (by rw [hl.out]; exact Nat.le_refl _)] at h
        have h2 : res = rowsE k 0 l := by rw [hres.out, if_neg (by rw [h]; decide)]
        exact h2
      have HL : Hid (∀ row ∈ l, row.length = r) := fun row hrow => by
        have h := HA.out
        rw [List.take_of_length_le (by rw [hl.out]; exact Nat.le_refl _)] at h
        have h2 := List.any_eq_false.1 h row hrow
        simp at h2
        omega
      clear HA hlt
      clear c5
      go_wp2_with (fail)
      clear c1
      go_loopw [8] (fun i wr => ∃ q : Nat, i = .int .i64 q ∧ q ≤ r ∧ Hid (rowsE k 0 l = rowsE k q (l.drop q)) ∧ Ext w wr ∧ Hid (Blk wr w.heap.size 25 #[.int .i64 k, .int .i64 r, .int .i64 0, .slice A 0 a, .slice B 0 b, .slice C r c])) (fun i _ => r - (intOf i).toNat)
      case atStart => exact ⟨0, rfl, by omega, by exact rfl, Y, BB⟩
      case round =>
        obtain ⟨w1, rfl⟩ : ∃ w1 : World, w1 = wr := ⟨_, rfl⟩
        obtain ⟨q, rfl, hq, HT, Y1, B2⟩ := hrel
        have c1 : w1.cell? ⟨w.heap.size, 1, none⟩ = some (.int .i64 r) := B2.out.cell 1
        by_cases hlt : q < r
        · obtain ⟨cb, co, D, row, d, rfl, _, hc1, hrow, HD, rr, ir, ld, md⟩ := (hC.ext Y1 fun _ _ h => h.ext Y1).ints (r := q) (by rw [hl.out]; exact hlt)
          have hlen : Hid (row.length = r) := HL.out row (List.mem_of_getElem? hrow.out)
          have hlen2 : row.length = r := hlen.out
          rw [hlen2] at hc1 ld
          clear hlen2 hc1
          go_wp2_with (fail)
          go_loopw [9] (fun i wr => ∃ j : Nat, i = .int .i64 j ∧ j ≤ r ∧ Hid (rowE k q 0 row = rowE k q j (row.drop j)) ∧ Ext w wr ∧ Hid (Blk wr w.heap.size 25 #[.int .i64 k, .int .i64 r, .int .i64 0, .slice A 0 a, .slice B 0 b, .slice (some ⟨cb, co, none⟩) r c])) (fun i _ => r - (intOf i).toNat)
          case atStart => exact ⟨0, rfl, by omega, by exact rfl, Y1, B2⟩
          case round =>
            obtain ⟨w3, rfl⟩ : ∃ w3 : World, w3 = wr := ⟨_, rfl⟩
            obtain ⟨j, rfl, hj, HJ, Y2, B3⟩ := hrel
            have c1' : w3.cell? ⟨w.heap.size, 1, none⟩ = some (.int .i64 r) := B3.out.cell 1
            by_cases hlj : j < r
            · obtain ⟨cb', co', D', row', d', e9, zc, hc1, hrow', _, rr', ir', ld', md'⟩ := (hC.ext Y2 fun _ _ h => h.ext Y2).ints (r := q) (by rw [hl.out]; exact hlt)
              obtain ⟨rfl, rfl⟩ : cb = cb' ∧ co = co' := by injection e9 with h; injection h with h1 h2; exact ⟨h1, h2⟩
              obtain rfl : row = row' := by
                have h := hrow.out
                rw [hrow'.out] at h
                exact (Option.some.inj h).symm
              obtain ⟨bb, off', x, rfl, zx, hc2, _, hd2⟩ := rr'.at (k := j) (by rw [hlen.out]; exact hlj)
              have hl9 : row.length = r := hlen.out
              rw [hl9] at hc1 ld'
              have c5' : w3.cell? ⟨w.heap.size, 5, none⟩ = some (.slice (some ⟨cb, co, none⟩) r c) := B3.out.cell 5
              clear hl9 e9
              go_wp2_with (fail)
              refine (number_any x _).mono ?_
              rintro e w4 ⟨rfl, x4⟩
              have Y3 := Ext.tr Y2 x4
              have B4 := Lib.hid (B3.out.ext x4)
              have k0' : w4.cell? ⟨w.heap.size, 0, none⟩ = some (.int .i64 k) := B4.out.cell 0
              have k5' : w4.cell? ⟨w.heap.size, 5, none⟩ = some (.slice (some ⟨cb, co, none⟩) r c) := B4.out.cell 5
              have hc1' := keepEL x4 zc hc1
              have hc2' := keepEL x4 zx hc2
              clear hc1 hc2 c5' c1'
              by_cases hn : numP x = 0
              · have hn' : (numP x != 0) = false := by simpa using hn
                have HN0 := Lib.hid hn
                clear hn
                by_cases k3e : k = 3
                · subst k3e
                  by_cases hrj : q = j
                  · subst hrj
                    by_cases hx : x = 0
                    · have hx' : (x != 0) = false := by simpa using hx
                      have HR : Hid (rowE 3 q 0 row = rowE 3 q (q + 1) (row.drop (q + 1))) := by
                        have h1 := HJ.out
                        rw [hd2.out, rowE, if_pos HN0.out, if_neg (by simp [hx])] at h1
                        exact h1
                      clear hx
                      go_wp2
                      go_roundw
                      case rel => exact ⟨q + 1, by go_num, by omega, HR, Y3, B4⟩
                      case measure => simp [intOf]; omega
                    · have hx' : (x != 0) = true := by simpa using hx
                      have HR : Hid (res = 8) := by
                        have h1 := HJ.out
                        rw [hd2.out, rowE, if_pos HN0.out, if_pos ⟨rfl, rfl, hx⟩] at h1
                        have h2 := HT.out
                        rw [HD.out, rowsE, h1] at h2
                        have h3 : res = 8 := by rw [HN.out]; exact h2
                        exact h3
                      clear hx
                      go_wp2
                      go_ret
                      exact ⟨ret_i HR.out.symm, Y3⟩
                  · have hrj' : ((q : Int) == (j : Int)) = false := by rw [beq_eq_false_iff_ne]; omega
                    have HR : Hid (rowE 3 q 0 row = rowE 3 q (j + 1) (row.drop (j + 1))) := by
                      have h1 := HJ.out
                      rw [hd2.out, rowE, if_pos HN0.out, if_neg (by simp [hrj])] at h1
                      exact h1
                    go_wp2
                    go_roundw
                    case rel => exact ⟨j + 1, by go_num, by omega, HR, Y3, B4⟩
                    case measure => simp [intOf]; omega
                · have k3' : (k == 3) = false := by rw [beq_eq_false_iff_ne]; exact k3e
                  have HR : Hid (rowE k q 0 row = rowE k q (j + 1) (row.drop (j + 1))) := by
                    have h1 := HJ.out
                    rw [hd2.out, rowE, if_pos HN0.out, if_neg (by simp [k3e])] at h1
                    exact h1
                  clear k3e
                  go_wp2
                  go_roundw
                  case rel => exact ⟨j + 1, by go_num, by omega, HR, Y3, B4⟩
                  case measure => simp [intOf]; omega
              · have hn' : (numP x != 0) = true := by simpa using hn
                have HR : Hid (res = numP x) := by
                  have h1 := HJ.out
                  rw [hd2.out, rowE, if_neg hn] at h1
                  have h2 := HT.out
                  rw [HD.out, rowsE, h1, if_neg hn] at h2
                  have h3 : res = numP x := by rw [HN.out]; exact h2
                  exact h3
                clear hn
                go_wp2
                go_ret
                exact ⟨ret_i HR.out.symm, Y3⟩
            · have hd2 := drop_nil (xs := row) (k := j) (by rw [hlen.out]; omega)
              have HR : Hid (rowsE k 0 l = rowsE k (q + 1) (l.drop (q + 1))) := by
                have h1 := HJ.out
                rw [hd2.out, rowE] at h1
                have h2 := HT.out
                rw [HD.out, rowsE, if_pos h1] at h2
                exact h2
              clear hd2
              go_wp2
              go_roundw
              case rel => exact ⟨q + 1, by go_num, by omega, HR, Y2, B3⟩
              case measure => simp [intOf]; omega
        · have hd := drop_nil (xs := l) (k := q) (by rw [hl.out]; omega)
          have HR : Hid (res = 0) := by
            have h1 := HT.out
            rw [hd.out, rowsE] at h1
            have h3 : res = 0 := by rw [HN.out]; exact h1
            exact h3
          clear hd
          go_wp2
          go_ret
          exact ⟨ret_i HR.out.symm, Y1⟩
set_option maxRecDepth 100000 in
theorem rcheck_any (i : InstP) (vs : List Value) (w : World) (H : RInst w vs i) : Calls Tryd.prog 29 #[.agg (List.toArray vs)] w fun e w' => e = .returned (.int .i64 (checkP i)) ∧ Ext w w' := by
  obtain ⟨k, nn, cap, xs, ys, l⟩ := i
  obtain ⟨A, a, B, b, C, c, rfl, ⟨rA, iA, lA, mA⟩, ⟨rB, iB, lB, mB⟩, ⟨rC, lC, mC⟩⟩ := H
  simp only at *
  by_cases hs : sizeP k nn = 0
  · have kk := sizeP_kind hs
    have hn : 1 ≤ nn ∧ nn ≤ 64 ∧ (k ≠ 1 → nn ≤ 24) := by
      unfold sizeP at hs
      split at hs
      · split at hs
        · cases hs
        · split at hs
          · cases hs
          · exact ⟨by omega, by omega, fun h => absurd ‹_› h⟩
      · split at hs
        · split at hs
          · cases hs
          · split at hs
            · cases hs
            · exact ⟨by omega, by omega, fun _ => by omega⟩
        · split at hs
          · split at hs
            · cases hs
            · split at hs
              · cases hs
              · exact ⟨by omega, by omega, fun _ => by omega⟩
          · cases hs
    obtain ⟨n1, n2, n3⟩ := hn
    obtain ⟨n, rfl⟩ : ∃ n : Nat, nn = (n : Int) := ⟨nn.toNat, by omega⟩
    unfold checkP
    simp only [if_pos hs]
    unfold shapeP
    simp only
    by_cases k1 : k = 1
    · subst k1
      simp only [if_true]
      exact rcheck_1 n cap A B C a b c xs ys l w rA rB (by omega) (by omega)
    · rw [if_neg k1, if_neg k1]
      have hk : k = 2 ∨ k = 3 := by omega
      cases hf : (((l.length : Int) == (n : Int)) && (cap == 0) && decide (xs.length + ys.length = 0)) with
      | false =>
        simp only [Bool.false_and, Bool.false_eq_true, if_false]
        exact rcheck_flat k n cap A B C a b c xs ys l w hk (by omega) (by have := n3 k1; omega) hf
      | true =>
        simp only [Bool.and_eq_true, beq_iff_eq, decide_eq_true_eq] at hf
        obtain ⟨⟨h1, rfl⟩, h3⟩ := hf
        have e1 : xs = [] := List.eq_nil_of_length_eq_zero (by omega)
        have e2 : ys = [] := List.eq_nil_of_length_eq_zero (by omega)
        have e3 : l.length = n := by omega
        subst e1 e2
        have R := rcheck_sq k n A B C a b c l w rC hk (by omega) (by have := n3 k1; omega) e3
        rw [e3]
        simp only [List.length_nil]
        cases hany : (l.any fun r => (r.length : Int) != (n : Int)) with
        | true => rw [hany] at R; simpa using R
        | false => rw [hany] at R; simpa using R
  · have e : checkP ⟨k, nn, cap, xs, ys, l⟩ = sizeP k nn := by unfold checkP; simp only [if_neg hs]
    rw [e]
    exact rcheck_size k nn cap _ _ _ w hs
end Go.Proofs.YtleckhbmciiooaaDoor
namespace Go.Proofs.YtleckhbmciiooaaDoor
open Go.RowKit Go.ChangeShapes Go.WideShapes Go.ChangeAt Go.Deep

/-- each number is an int -/
def InstInts (i : InstP) : Prop := Ints i.weight ∧ Ints i.value ∧ ∀ r ∈ i.cost, Ints r
theorem RInst.ints {w : World} {vs : List Value} {i : InstP} (h : RInst w vs i) : InstInts i := by
  obtain ⟨A, a, B, b, C, c, rfl, ⟨_, h2, _⟩, ⟨_, h4, _⟩, ⟨h5, _⟩⟩ := h
  refine ⟨h2, h4, fun r hr => ?_⟩
  obtain ⟨k, hk, rfl⟩ := List.mem_iff_getElem.1 hr
  obtain ⟨_, _, _, row, _, _, _, _, he, _, _, hi, _⟩ := h5.ints hk
  have h := he.out
  rw [List.getElem?_eq_getElem hk] at h
  rw [Option.some.inj h]
  exact hi
theorem InstInts.copy {i : InstP} (h : InstInts i) : InstInts (copyP i) := by
  refine ⟨h.1.take _, h.2.1.take _, fun r hr => ?_⟩
  simp only [copyP, wantC, List.mem_map] at hr
  obtain ⟨q, hq, rfl⟩ := hr
  exact (h.2.2 q (List.mem_of_mem_take hq)).take _
theorem InstO.rinst {w : World} {base : Nat} {vs : List Value} {i : InstP} (h : InstO w base vs i) (hi : InstInts i) : RInst w vs i := by
  obtain ⟨A, a, B, b, C, c, us, rfl, h1, h2, h3, h4⟩ := h
  refine ⟨A, a, B, b, C, c, rfl, ⟨h1.read, hi.1, h1.le.1, h1.le.2⟩, ⟨h2.read, hi.2.1, h2.le.1, h2.le.2⟩, ?_, h3.le.1, h3.le.2⟩
  rcases h3.read with h0 | ⟨b', off, cur, hA, hb, hc⟩
  · left
    have := h4.1
    rw [h0] at this
    exact List.eq_nil_of_length_eq_zero this.symm
  · refine .inr ⟨b', off, hA, (Array.getElem?_eq_some_iff.1 hb).1, fun k r hr => ?_⟩
    obtain ⟨A', c', hu, ho⟩ := h4.2 k r hr
    refine ⟨[.slice A' r.length c'], ⟨A', c', rfl, ho.read, hi.2.2 r (List.mem_of_getElem? hr), ho.le.1, ho.le.2⟩, rfl, fun j v hj => ?_⟩
    cases j with
    | zero =>
      simp at hj
      subst hj
      rw [cell_of_row w b' _ cur _ (0, 0) hb]
      simpa using hc k _ hu
    | succ j => simp at hj
theorem InstO.ext {w w' : World} {base : Nat} {vs : List Value} {i : InstP} (h : InstO w base vs i) (x : Ext w w') : InstO w' base vs i := by
  obtain ⟨A, a, B, b, C, c, us, rfl, h1, h2, h3, h4⟩ := h
  exact ⟨A, a, B, b, C, c, us, rfl, h1.ext x, h2.ext x, h3.ext x, h4.ext x⟩
theorem InstO.modT {w w' : World} {base base' : Nat} {ts : List TypeId} {vs : List Value} {i : InstP} (h : InstO w base vs i) (k : ModT base' ts w w') (h1 : 3 ∉ ts) (h2 : 22 ∉ ts) : InstO w' base vs i := by
  obtain ⟨A, a, B, b, C, c, us, rfl, g1, g2, g3, g4⟩ := h
  exact ⟨A, a, B, b, C, c, us, rfl, g1.modT k h1, g2.modT k h1, g3.modT k h2, g4.modT k h1⟩
theorem copyP_lens (i : InstP) : (copyP i).weight.length ≤ 70 ∧ (copyP i).value.length ≤ 70 ∧ (copyP i).cost.length ≤ 30 := by
  refine ⟨List.length_take_le _ _, List.length_take_le _ _, ?_⟩
  simp [copyP, wantC]
  omega
/-- the copied problem put in the place of the given one -/
theorem put_copy {w w2 : World} {a0 a1 a2 a3 a4 a5 u0 u1 u2 u3 u4 u5 : Value} {j : InstP} {base : Nat}
    (hB : Blk w2 w.heap.size 25 #[a0, a1, a2, a3, a4, a5]) (x : Ext w w2) (hO : InstO w2 base [u0, u1, u2, u3, u4, u5] j) :
    Ext w ((((((w2.setCell ⟨w.heap.size, 0, none⟩ u0).setCell ⟨w.heap.size, 1, none⟩ u1).setCell ⟨w.heap.size, 2, none⟩ u2).setCell ⟨w.heap.size, 3, none⟩ u3).setCell ⟨w.heap.size, 4, none⟩ u4).setCell ⟨w.heap.size, 5, none⟩ u5) ∧
    Blk ((((((w2.setCell ⟨w.heap.size, 0, none⟩ u0).setCell ⟨w.heap.size, 1, none⟩ u1).setCell ⟨w.heap.size, 2, none⟩ u2).setCell ⟨w.heap.size, 3, none⟩ u3).setCell ⟨w.heap.size, 4, none⟩ u4).setCell ⟨w.heap.size, 5, none⟩ u5) w.heap.size 25 #[u0, u1, u2, u3, u4, u5] ∧
    InstO ((((((w2.setCell ⟨w.heap.size, 0, none⟩ u0).setCell ⟨w.heap.size, 1, none⟩ u1).setCell ⟨w.heap.size, 2, none⟩ u2).setCell ⟨w.heap.size, 3, none⟩ u3).setCell ⟨w.heap.size, 4, none⟩ u4).setCell ⟨w.heap.size, 5, none⟩ u5) base [u0, u1, u2, u3, u4, u5] j := by
  obtain ⟨h1, h2⟩ := set6 hB (base := w.heap.size) (Nat.le_refl _) u0 u1 u2 u3 u4 u5
  exact ⟨x.modT h2 (Nat.le_refl _), h1, hO.modT h2 (by decide) (by decide)⟩
theorem InstO.six {w : World} {base : Nat} {vs : List Value} {i : InstP} (h : InstO w base vs i) : ∃ A3 l3 c3 A4 l4 c4 A5 l5 c5, vs = [.int .i64 i.kind, .int .i64 i.n, .int .i64 i.cap, .slice A3 l3 c3, .slice A4 l4 c4, .slice A5 l5 c5] := by
  obtain ⟨A, a, B, b, C, c, us, rfl, _⟩ := h
  exact ⟨_, _, _, _, _, _, _, _, _, rfl⟩
def CopyTo (j : InstP) (w : World) (e : Ending) (w' : World) : Prop := ∃ vs, e = .returned (.agg (List.toArray vs)) ∧ InstO w' w.heap.size vs j ∧ Ext w w'
theorem copy_to {i j : InstP} (hj : j = copyP i) (vs : List Value) (w : World) (H : RInst w vs i) : Calls Tryd.prog 14 #[.agg (List.toArray vs)] w (CopyTo j w) := by subst hj; exact copy_any vs i w H
end Go.Proofs.YtleckhbmciiooaaDoor
namespace Go.Proofs.YtleckhbmciiooaaDoor

/-- a problem over a square, in form -/
structure SquareOk (i : InstP) : Prop where
  n1 : 1 ≤ i.n
  n2 : i.n ≤ 24
  len : (i.cost.length : Int) = i.n
  row : ∀ r ∈ i.cost, (r.length : Int) = i.n
  num : ∀ r ∈ i.cost, ∀ x ∈ r, 0 ≤ x ∧ x ≤ 2147483647
  w : i.weight = []
  v : i.value = []
theorem numP_none {n : Int} (h : numP n = 0) : 0 ≤ n ∧ n ≤ 2147483647 := by
  unfold numP at h
  split at h
  · cases h
  · split at h
    · cases h
    · omega
theorem rowE_zero : ∀ {l : List Int} {k : Int} {r c : Nat}, rowE k r c l = 0 → ∀ x ∈ l, 0 ≤ x ∧ x ≤ 2147483647
  | [], _, _, _, _, x, hx => by cases hx
  | n :: l, k, r, c, h, x, hx => by
    unfold rowE at h
    split at h
    · rename_i hn
      split at h
      · cases h
      · rcases List.mem_cons.1 hx with rfl | hx
        · exact numP_none hn
        · exact rowE_zero h x hx
    · rename_i hn
      exact absurd h hn
theorem rowsE_zero : ∀ {l : List (List Int)} {k : Int} {r : Nat}, rowsE k r l = 0 → ∀ q ∈ l, ∀ x ∈ q, 0 ≤ x ∧ x ≤ 2147483647
  | [], _, _, _, q, hq => by cases hq
  | row :: l, k, r, h, q, hq => by
    unfold rowsE at h
    split at h
    · rename_i hr
      rcases List.mem_cons.1 hq with rfl | hq
      · exact rowE_zero hr
      · exact rowsE_zero h q hq
    · rename_i hr
      exact absurd h hr
theorem square_ok {i : InstP} (h : checkP i = 0) (hk : i.kind ≠ 1) : SquareOk i := by
  unfold checkP at h
  by_cases hs : sizeP i.kind i.n = 0
  · rw [if_pos hs] at h
    by_cases hsh : shapeP i = true
    · rw [if_pos hsh, if_neg hk] at h
      unfold shapeP at hsh
      rw [if_neg hk] at hsh
      simp only [Bool.and_eq_true, beq_iff_eq, decide_eq_true_eq, Bool.not_eq_true', List.any_eq_false, bne_iff_ne, ne_eq, Decidable.not_not] at hsh
      obtain ⟨⟨⟨h1, h2⟩, h3⟩, h4⟩ := hsh
      unfold sizeP at hs
      rw [if_neg hk] at hs
      have hn : 1 ≤ i.n ∧ i.n ≤ 24 := by
        split at hs
        · split at hs
          · cases hs
          · split at hs
            · cases hs
            · omega
        · split at hs
          · split at hs
            · cases hs
            · split at hs
              · cases hs
              · omega
          · cases hs
      exact ⟨hn.1, hn.2, h1, h4, rowsE_zero h, List.eq_nil_of_length_eq_zero (by omega), List.eq_nil_of_length_eq_zero (by omega)⟩
    · rw [if_neg hsh] at h
      cases h
  · rw [if_neg hs] at h
    exact absurd h hs
theorem rows_ok {i : InstP} (h : SquareOk i) : RowsOk i.cost := by
  have h1 := h.n1
  have h2 := h.n2
  have h3 := h.len
  refine ⟨by omega, by omega, fun r hr => ?_, h.num⟩
  have := h.row r hr
  omega
end Go.Proofs.YtleckhbmciiooaaDoor
namespace Go.Proofs.YtleckhbmciiooaaDoor
open Go.RowKit Go.ChangeShapes Go.WideShapes Go.ChangeAt Go.Deep

def orP (m : Nat) : List Nat → Nat
  | [] => m
  | x :: l => orP (m ||| 2 ^ x) l
theorem orP_bit : ∀ (l : List Nat) (m j : Nat), (orP m l).testBit j = (m.testBit j || decide (j ∈ l))
  | [], m, j => by simp [orP]
  | x :: l, m, j => by
    rw [orP, orP_bit l, Nat.testBit_or, Nat.testBit_two_pow]
    by_cases e : x = j
    · subst e; simp
    · have e' : ¬ j = x := fun h => e h.symm
      simp [e, e']
theorem orP_snoc : ∀ (l : List Nat) (m x : Nat), orP m (l ++ [x]) = orP m l ||| 2 ^ x
  | [], m, x => rfl
  | y :: l, m, x => by rw [List.cons_append, orP, orP_snoc l, orP]
theorem orP_lt {l : List Nat} (h : ∀ x ∈ l, x < 64) : orP 0 l < 18446744073709551616 := by
  refine Nat.lt_pow_two_of_testBit (n := 64) _ fun i hi => ?_
  rw [orP_bit]
  simp
  intro hm
  have := h i hm
  omega
theorem orP_full {l : List Nat} {n : Nat} (h : l.Perm (List.range n)) : orP 0 l = 2 ^ n - 1 := by
  refine Nat.eq_of_testBit_eq fun j => ?_
  rw [orP_bit, Nat.testBit_two_pow_sub_one]
  have : j ∈ l ↔ j < n := by rw [h.mem_iff, List.mem_range]
  simp [this]
theorem eq_sets (x y : Int) (u : World) : (Op.equalIn 10000 94 (.agg #[.int .u64 x, .int .u64 0]) (.agg #[.int .u64 y, .int .u64 0])).run Tryd.prog u = .ok (x == y) u := by
  unfold Op.equalIn
  simp only [Sem.run_bind, run_underlying Tryd.underlying94, Result.andThen_ok]
  have e9 : List.range' 0 2 1 = [0, 1] := rfl
  simp only [Std.Legacy.Range.forIn_eq_forIn_range', Std.Legacy.Range.size, Nat.sub_zero, Nat.add_one_sub_one, Nat.div_one, e9, List.forIn_cons, List.forIn_nil]
  by_cases hx : x = y
  · subst hx
    go_simp
  · have hx' : (x == y) = false := by simpa using hx
    go_simp
set_option maxRecDepth 100000 in
theorem of_any (A : Option Addr) (c : Nat) (l : List Nat) (hl : ∀ x ∈ l, x < 64) (hn : l.length ≤ 1000) (w : World) (hA : RdI w A (intsN l)) :
    Calls Tryd.prog 123 #[.slice A l.length c] w fun e w' => e = .returned (setV (orP 0 l)) ∧ Ext w w' := by
  have B0 : Hid (Blk ((w.alloc (.cells #[.int .u64 0, .int .u64 0] 94)).alloc (.cells #[.int .u64 0, .int .u64 0] 94)) w.heap.size 94 #[.int .u64 0, .int .u64 0]) := Blk.alloc (.new rfl) _
  have B1 : Hid (Blk ((w.alloc (.cells #[.int .u64 0, .int .u64 0] 94)).alloc (.cells #[.int .u64 0, .int .u64 0] 94)) (w.heap.size + 1) 94 #[.int .u64 ((orP 0 (l.take 0) : Nat) : Int), .int .u64 0]) := .new (by simp)
  have X0 : Hid (Ext w ((w.alloc (.cells #[.int .u64 0, .int .u64 0] 94)).alloc (.cells #[.int .u64 0, .int .u64 0] 94))) := ((Ext.rf w).alloc _).alloc _
  have WI := fun (m i : Nat) (h : m < 18446744073709551616) (hi : i < 64) (W : World) => with_any m i h hi W
  unfold setV at WI ⊢
  replace WI := Lib.hid WI
  replace hA := Lib.hid hA
  replace hl := Lib.hid hl
  go_enter Tryd.func123, Tryd.ntmps123
  go_wp2_with (fail)
  go_loopw [8] (fun i wr => ∃ k : Nat, i = .int .i64 k ∧ k ≤ l.length ∧ Hid (Blk wr (w.heap.size + 1) 94 #[.int .u64 ((orP 0 (l.take k) : Nat) : Int), .int .u64 0]) ∧ Hid (Blk wr w.heap.size 94 #[.int .u64 0, .int .u64 0]) ∧ Hid (Ext w wr)) (fun i _ => l.length - (intOf i).toNat)
  case atStart => exact ⟨0, rfl, by omega, B1, B0, X0⟩
  case round =>
    clear B0 B1 X0
    obtain ⟨wo, rfl⟩ : ∃ wo : World, wo = wr := ⟨_, rfl⟩
    obtain ⟨k, rfl, hk, B1, B0, X0⟩ := hrel
    by_cases hlt : k < l.length
    · obtain ⟨b, off, x, rfl, zb, cx, ex, _⟩ := (hA.out.ext X0.out).at (k := k) (by rw [intsN_len]; exact hlt)
      obtain ⟨y, hy⟩ : ∃ y, Hid (l[k]? = some y) := ⟨l[k], List.getElem?_eq_getElem hlt⟩
      obtain rfl : x = (y : Int) := by
        have h1 := ex.out
        simp only [intsN, List.getElem?_map, hy.out, Option.map_some, Option.some.injEq] at h1
        exact h1.symm
      have hy64 := hl.out y (List.mem_of_getElem? hy.out)
      have hm := orP_lt (l := l.take k) (fun x hx => hl.out x (List.mem_of_mem_take hx))
      have HS : orP 0 (l.take (k + 1)) = orP 0 (l.take k) ||| 2 ^ y := by
        rw [List.take_add_one, hy.out]
        exact orP_snoc _ _ _
      have HW := Lib.hid (WI.out (orP 0 (l.take k)) y hm hy64)
      rw [← HS] at HW
      clear HS hm hy64 ex
      generalize orP 0 (l.take k) = m at *
      obtain ⟨m2, hm2⟩ : ∃ m2, Hid (orP 0 (l.take (k + 1)) = m2) := ⟨_, rfl⟩
      rw [hm2.out] at HW
      have c0 : wo.cell? ⟨w.heap.size + 1, 0, none⟩ = some (.int .u64 m) := B1.out.cell 0
      have c1 : wo.cell? ⟨w.heap.size + 1, 1, none⟩ = some (.int .u64 0) := B1.out.cell 1
      have q1 : (k : Int) < (l.length : Int) := by omega
      go_wp2_with (fail)
      refine (HW.out _).mono ?_
      rintro e w1 ⟨rfl, x1⟩
      have b1 := B1.out.ext x1
      have d0 : w1.cell? ⟨w.heap.size + 1, 0, none⟩ = some (.int .u64 m) := b1.cell 0
      have d1 : w1.cell? ⟨w.heap.size + 1, 1, none⟩ = some (.int .u64 0) := b1.cell 1
      have f0 := b1.free 0
      have f1 := b1.free 1
      have B1' := Lib.hid ((b1.set 0 (.int .u64 m2)).set 1 (.int .u64 0))
      have B0' := Lib.hid (((B0.out.ext x1).far (p := ⟨w.heap.size + 1, 0, none⟩) (by simp) (.int .u64 m2)).far (p := ⟨w.heap.size + 1, 1, none⟩) (by simp) (.int .u64 0))
      have X1 := Lib.hid (((X0.out.tr x1).setNew (p := ⟨w.heap.size + 1, 0, none⟩) (by simp) (.int .u64 m2)).setNew (p := ⟨w.heap.size + 1, 1, none⟩) (by simp) (.int .u64 0))
      clear b1 x1 B0 B1 X0 c0 c1
      go_wp2_with (fail)
      go_roundw
      case rel => exact ⟨k + 1, by go_num, by omega, by rw [hm2.out]; exact B1', B0', X1⟩
      case measure => simp [intOf]; omega
    · obtain rfl : k = l.length := by omega
      rw [List.take_length] at B1
      obtain ⟨m, hm⟩ : ∃ m, Hid (orP 0 l = m) := ⟨_, rfl⟩
      rw [hm.out] at B1
      have c0 : wo.cell? ⟨w.heap.size + 1, 0, none⟩ = some (.int .u64 m) := B1.out.cell 0
      have c1 : wo.cell? ⟨w.heap.size + 1, 1, none⟩ = some (.int .u64 0) := B1.out.cell 1
      have r0 : wo.cell? ⟨w.heap.size, 0, none⟩ = some (.int .u64 0) := B0.out.cell 0
      have r1 : wo.cell? ⟨w.heap.size, 1, none⟩ = some (.int .u64 0) := B0.out.cell 1
      have g0 := B0.out.free 0
      have g1 := B0.out.free 1
      go_wp2_with (fail)
      refine bodyPost_ret (v := .agg #[.int .u64 m, .int .u64 0]) (by simp [results, Tryd.results123, go_sem, *]) rfl ⟨by rw [hm.out], ?_⟩
      exact (X0.out.setNew (p := ⟨w.heap.size, 0, none⟩) (by simp) _).setNew (p := ⟨w.heap.size, 1, none⟩) (by simp) _
set_option maxRecDepth 100000 in
theorem order_yes (A : Option Addr) (c n : Nat) (l : List Nat) (hl : l.Perm (List.range n)) (hn : n < 64) (w : World) (hA : RdI w A (intsN l)) :
    Calls Tryd.prog 101 #[.slice A n c, .int .i64 n] w fun e w' => e = .returned (.bool true) ∧ Ext w w' := by
  have lk : l.length = n := by rw [hl.length_eq, List.length_range]
  have OF := fun (W : World) (x : Ext w W) => of_any A c l (fun x hx => by have := List.mem_range.1 (hl.mem_iff.1 hx); omega) (by omega) W (hA.ext x)
  have FU := fun (W : World) => full_any n hn W
  rw [orP_full hl, lk] at OF
  clear lk hl hA
  unfold setV at OF FU
  generalize 2 ^ n - 1 = m at *
  have EQ := fun u : World => eq_sets (m : Int) (m : Int) u
  simp only [beq_self_eq_true] at EQ
  have en : ((n : Int) == (n : Int)) = true := by simp
  replace OF := Lib.hid OF
  replace FU := Lib.hid FU
  go_enter Tryd.func101, Tryd.ntmps101
  go_wp2_with (fail)
  refine (OF.out _ (by (repeat (first | assumption | exact Ext.rf _ | apply Ext.drew | apply Ext.drewN | apply Ext.alloc)))).mono ?_
  rintro e w1 ⟨rfl, x1⟩
  go_wp2_with (fail)
  refine (FU.out _).mono ?_
  rintro e w2 ⟨rfl, x2⟩
  have X2 := Lib.hid (Ext.tr (Ext.tr (a := w) (by (repeat (first | assumption | exact Ext.rf _ | apply Ext.drew | apply Ext.drewN | apply Ext.alloc))) x1) x2)
  clear x1 x2
  go_wp2_with (fail)
  go_ret
  exact ⟨rfl, X2.out⟩
/-- what the first rows cost -/
def costK (rows : List (List Int)) (l : List Nat) (k : Nat) : Int := sumL ((List.range k).map fun j => costAt rows j (l.getD j 0))
theorem costK_succ (rows : List (List Int)) (l : List Nat) (k : Nat) : costK rows l (k + 1) = costK rows l k + costAt rows k (l.getD k 0) := by
  unfold costK
  rw [List.range_succ, List.map_append, sumL_append]
  simp [sumL]
set_option maxRecDepth 100000 in
set_option maxHeartbeats 2000000 in
theorem vcost2_any (i : InstP) (us : List Value) (P : Option Addr) (c : Nat) (l : List Nat) (w : World) (H : RInst w us i) (hc : checkP i = 0) (hk : i.kind = 2) (hP : RdI w P (intsN l)) (hl : l.Perm (List.range i.cost.length)) :
    Calls Tryd.prog 75 #[.agg (List.toArray us), .slice P i.cost.length c] w fun e w' => e = .returned (.tuple #[.int .i64 (costF i.cost (intsN l)), .int .i64 0]) ∧ Ext w w' := by
  have sq := square_ok hc (by omega)
  have rok := rows_ok sq
  have CH := fun (W : World) (x : Ext w W) => check_any i us W (H.ext x) (by rw [sq.w]; simp) (by rw [sq.v]; simp)
  have lk : l.length = i.cost.length := by rw [hl.length_eq, List.length_range]
  have OY := fun (W : World) (x : Ext w W) => order_yes P c i.cost.length l hl (by have := rok.n2; omega) W (hP.ext x)
  have CF : Hid (costF i.cost (intsN l) = costK i.cost l i.cost.length) := by
    have h : costF i.cost (intsN l) = costK i.cost l i.cost.length := by rw [costF_range lk.symm, lk]; rfl
    exact h
  have hln := sq.len
  rw [hc] at CH
  obtain ⟨kind, nn, cap, xw, xv, co⟩ := i
  obtain ⟨A, a, B, b, D, d, rfl, -, -, hC, -⟩ := H
  simp only at *
  subst hk
  have n1 := rok.n1
  have n2 := rok.n2
  obtain ⟨n, hn⟩ : ∃ n, co.length = n := ⟨_, rfl⟩
  rw [hn] at CH OY CF lk hln hl n1 n2 ⊢
  have lt : ∀ k, k < n → l.getD k 0 < n := fun k hk => by
    have h1 : l[k]? = some (l[k]'(by omega)) := List.getElem?_eq_getElem _
    rw [getD_some h1]
    exact List.mem_range.1 (hl.mem_iff.1 (List.getElem_mem _))
  have CA := fun (W : World) (x : Ext w W) (r c : Nat) (hr : r < n) (hc : c < n) => cost_at rok (hC.ext x fun _ _ h => h.ext x) (r := r) (c := c) (by omega) (by omega)
  rw [hn] at CA
  have EB := fun r c (hr : r < n) (hc : c < n) => ends_num rok r c (by omega) (by omega)
  have B1 : Hid (Blk (w.alloc (.cells #[.int .i64 2, .int .i64 nn, .int .i64 cap, .slice A xw.length a, .slice B xv.length b, .slice D n d] 25)) w.heap.size 25 #[.int .i64 2, .int .i64 nn, .int .i64 cap, .slice A xw.length a, .slice B xv.length b, .slice D n d]) := .new rfl
  subst hln
  replace CH := Lib.hid CH
  replace OY := Lib.hid OY
  replace CA := Lib.hid CA
  replace EB := Lib.hid EB
  replace hP := Lib.hid hP
  replace lk := Lib.hid lk
  replace lt := Lib.hid lt
  replace hn := Lib.hid hn
  clear hc hl hC rok sq
  go_enter Tryd.func75, Tryd.ntmps75
  go_wp2_with (fail)
  refine (CH.out _ (by (repeat (first | assumption | exact Ext.rf _ | apply Ext.drew | apply Ext.drewN | apply Ext.alloc)))).mono ?_
  rintro e w1 ⟨rfl, x1⟩
  have X1 := Lib.hid (Ext.tr (a := w) (by (repeat (first | assumption | exact Ext.rf _ | apply Ext.drew | apply Ext.drewN | apply Ext.alloc))) x1)
  have b1 := Lib.hid (B1.out.ext x1)
  have t0 : w1.cell? ⟨w.heap.size, 0, none⟩ = some (.int .i64 2) := b1.out.cell 0
  have t1 : w1.cell? ⟨w.heap.size, 1, none⟩ = some (.int .i64 n) := b1.out.cell 1
  clear x1 B1
  go_wp2_with (fail)
  refine (OY.out _ (X1.out.tr (by (repeat (first | assumption | exact Ext.rf _ | apply Ext.drew | apply Ext.drewN | apply Ext.alloc))))).mono ?_
  rintro e w2 ⟨rfl, x2⟩
  have X2 := Lib.hid (X1.out.tr (Ext.tr (by (repeat (first | assumption | exact Ext.rf _ | apply Ext.drew | apply Ext.drewN | apply Ext.alloc))) x2))
  have b2 := Lib.hid (b1.out.ext (Ext.tr (by (repeat (first | assumption | exact Ext.rf _ | apply Ext.drew | apply Ext.drewN | apply Ext.alloc))) x2))
  have s0 : w2.cell? ⟨w.heap.size, 0, none⟩ = some (.int .i64 2) := b2.out.cell 0
  clear x2 b1 X1 t0 t1
  go_wp2_with (fail)
  go_loopw [7, 44] (fun sv i wr => ∃ k : Nat, i = .int .i64 k ∧ sv = .int .i64 (costK co l k) ∧ k ≤ n ∧ Hid (0 ≤ costK co l k ∧ costK co l k ≤ k * 2147483647) ∧ Hid (Ext w2 wr)) (fun _ i _ => n - (intOf i).toNat)
  case atStart => exact ⟨0, rfl, rfl, by omega, ⟨Int.le_refl _, by simp [costK, sumL]⟩, Ext.rf _⟩
  case round =>
    clear s0
    obtain ⟨wo, rfl⟩ : ∃ wo : World, wo = wr := ⟨_, rfl⟩
    obtain ⟨k, rfl, rfl, hk, BD, X3⟩ := hrel
    by_cases hlt : k < n
    · obtain ⟨y, hy⟩ : ∃ y, Hid (l.getD k 0 = y) := ⟨_, rfl⟩
      have yn : y < n := by rw [← hy.out]; exact lt.out k hlt
      obtain ⟨pb, po, x, rfl, zp, cp, ex, _⟩ := ((hP.out.ext X2.out).ext X3.out).at (k := k) (by rw [intsN_len, lk.out]; exact hlt)
      obtain rfl : x = (y : Int) := by
        have h1 := ex.out
        have h2 : l[k]? = some (l[k]'(by rw [lk.out]; exact hlt)) := List.getElem?_eq_getElem _
        have h3 := hy.out
        rw [getD_some h2] at h3
        simp only [intsN, List.getElem?_map, h2, Option.map_some, Option.some.injEq, h3] at h1
        exact h1.symm
      obtain ⟨cb, cof, rb, ro, d', rfl, k1, k2⟩ := CA.out wo (X2.out.tr X3.out) k y hlt yn
      have eb := EB.out k y hlt yn
      have HK : Hid (costK co l (k + 1) = costK co l k + costAt co k y) := by
        have h : costK co l (k + 1) = costK co l k + costAt co k y := by rw [costK_succ, hy.out]
        exact h
      have b3 := b2.out.ext X3.out
      have s0 : wo.cell? ⟨w.heap.size, 0, none⟩ = some (.int .i64 2) := b3.cell 0
      have s5 : wo.cell? ⟨w.heap.size, 5, none⟩ = some (.slice (some ⟨cb, cof, none⟩) n d) := b3.cell 5
      obtain ⟨b0, b1⟩ := BD.out
      generalize costK co l k = su at *
      generalize costAt co k y = cv at *
      have wv : IntKind.i64.wrap (su + cv) = su + cv := IntWalk.i64_in _ (by omega)
      have q1 : (k : Int) < (n : Int) := by omega
      have q2 : (y : Int) < (n : Int) := by omega
      have bd2 : 0 ≤ su + cv ∧ su + cv ≤ ((k + 1 : Nat) : Int) * 2147483647 := by omega
      replace bd2 := Lib.hid bd2
      clear b0 b1 eb BD b3 ex
      go_wp2_with (fail)
      go_roundw
      case rel => exact ⟨k + 1, by go_num, by rw [HK.out], by omega, by rw [HK.out]; exact bd2, X3.out.tr (by (repeat (first | assumption | exact Ext.rf _ | apply Ext.drew | apply Ext.drewN | apply Ext.alloc)))⟩
      case measure => simp [intOf]; omega
    · obtain rfl : k = n := by omega
      go_wp2_with (fail)
      go_ret2
      exact ⟨by rw [CF.out]; rfl, X2.out.tr X3.out⟩
end Go.Proofs.YtleckhbmciiooaaDoor
namespace Go.Proofs.YtleckhbmciiooaaDoor
open Go.RowKit Go.ChangeShapes Go.WideShapes Go.ChangeAt Go.Deep

/-- each of 0 to n - 1, once? -/
def permB (x : List Int) (n : Nat) : Bool := decide (x.length = n ∧ ∀ k, k < n → x.count (k : Int) = 1)
theorem perm_of_sub : ∀ {r x : List Int}, r.Nodup → (∀ y ∈ r, y ∈ x) → r.length = x.length → r.Perm x
  | [], x, _, _, hl => by rw [List.eq_nil_of_length_eq_zero hl.symm]
  | a :: r, x, hd, hs, hl => by
    obtain ⟨h1, h2⟩ := List.nodup_cons.1 hd
    have ha : a ∈ x := hs a (by simp)
    have hp := List.perm_cons_erase ha
    have ih := perm_of_sub (r := r) (x := x.erase a) h2 (fun y hy => by
      have hne : y ≠ a := fun e => h1 (e ▸ hy)
      exact (List.mem_erase_of_ne hne).2 (hs y (by simp [hy]))) (by
      have := hp.length_eq
      simp only [List.length_cons] at this hl
      omega)
    exact (ih.cons a).trans hp.symm
theorem count_one_i {k : Int} : ∀ {l : List Int}, l.Nodup → k ∈ l → l.count k = 1
  | [], _, h => by cases h
  | x :: l, hd, h => by
    have hd' := List.nodup_cons.1 hd
    by_cases e : x = k
    · subst e
      rw [List.count_cons_self, List.count_eq_zero.2 hd'.1]
    · rw [List.count_cons_of_ne e]
      rcases List.mem_cons.1 h with h | h
      · exact absurd h.symm e
      · exact count_one_i hd'.2 h
theorem permB_iff {x : List Int} {n : Nat} : permB x n = true ↔ ∃ l : List Nat, x = intsN l ∧ l.Perm (List.range n) := by
  unfold permB
  rw [decide_eq_true_iff]
  constructor
  · rintro ⟨h1, h2⟩
    have hsub : intsN (List.range n) ⊆ x := fun y hy => by
      obtain ⟨k, hk, rfl⟩ := List.mem_map.1 hy
      have := h2 k (List.mem_range.1 hk)
      exact List.count_pos_iff.1 (by omega)
    have hnd : (intsN (List.range n)).Nodup := by
      unfold intsN
      refine List.pairwise_map.2 (List.nodup_range.imp ?_)
      intro a b hab e
      exact hab (by omega)
    have hp : (intsN (List.range n)).Perm x := perm_of_sub hnd (fun y hy => hsub hy) (by rw [intsN_len, List.length_range]; omega)
    refine ⟨x.map Int.toNat, ?_, ?_⟩
    · unfold intsN
      rw [List.map_map]
      refine (List.map_id x).symm.trans (List.map_congr_left fun y hy => ?_)
      obtain ⟨k, _, rfl⟩ := List.mem_map.1 (hp.mem_iff.2 hy)
      simp
    · have := hp.symm.map Int.toNat
      refine this.trans ?_
      unfold intsN
      rw [List.map_map]
      have e : (List.range n).map (Int.toNat ∘ fun n : Nat => (n : Int)) = List.range n := by
        refine (List.map_congr_left fun k _ => ?_).trans (List.map_id _)
        simp
      rw [e]
  · rintro ⟨l, rfl, hl⟩
    refine ⟨by rw [intsN_len, hl.length_eq, List.length_range], fun k hk => ?_⟩
    have h1 : (intsN l).Perm (intsN (List.range n)) := hl.map _
    rw [h1.count_eq]
    have hm : (k : Int) ∈ intsN (List.range n) := List.mem_map.2 ⟨k, List.mem_range.2 hk, rfl⟩
    have hnd : (intsN (List.range n)).Nodup := by
      unfold intsN
      refine List.pairwise_map.2 (List.nodup_range.imp ?_)
      intro a b hab e
      exact hab (by omega)
    exact count_one_i hnd hm
end Go.Proofs.YtleckhbmciiooaaDoor
namespace Go.Proofs.YtleckhbmciiooaaDoor
open Go.RowKit Go.ChangeShapes Go.WideShapes Go.ChangeAt Go.Deep

/-- a set's value: its two words -/
def setW (m q : Nat) : Value := .agg #[.int .u64 m, .int .u64 q]
set_option maxRecDepth 100000 in
theorem with_lo (m q i : Nat) (hm : m < 18446744073709551616) (hi : i < 64) (w : World) : Calls Tryd.prog 94 #[setW m q, .int .i64 i] w fun e w' => e = .returned (setW (m ||| 2 ^ i) q) ∧ Ext w w' := by
  unfold setW
  have K := bits_or_u64_nat m (2 ^ i) hm (Nat.pow_lt_pow_right (by omega) hi)
  have sh := shl_wrap i hi
  generalize 2 ^ i = b2 at *
  generalize m ||| b2 = z at *
  replace K := Lib.hid K
  replace sh := Lib.hid sh
  have B1' : Blk ((w.alloc (.cells #[.int .u64 m, .int .u64 q] 94)).alloc (.cells #[.int .u64 0, .int .u64 0] 94)) w.heap.size 94 #[.int .u64 m, .int .u64 q] := .alloc (.new rfl) _
  have B2 : Blk ((w.alloc (.cells #[.int .u64 m, .int .u64 q] 94)).alloc (.cells #[.int .u64 0, .int .u64 0] 94)) (w.heap.size + 1) 94 #[.int .u64 0, .int .u64 0] := .new (by simp)
  have B1 : Blk (w.alloc (.cells #[.int .u64 m, .int .u64 q] 94)) w.heap.size 94 #[.int .u64 m, .int .u64 q] := .new rfl
  go_enter Tryd.func94, Tryd.ntmps94
  go_wp2_with (fail)
  refine (within_any _ _).mono ?_
  rintro e w1 ⟨rfl, x1⟩
  have e1 : (decide (0 ≤ (i : Int)) && decide ((i : Int) < 128)) = true := by simp; omega
  rw [e1]
  have c0 : w1.cell? ⟨w.heap.size, 0, none⟩ = some (.int .u64 m) := (B1'.ext x1).cell 0
  have c1 : w1.cell? ⟨w.heap.size, 1, none⟩ = some (.int .u64 q) := (B1'.ext x1).cell 1
  have f0 := (B1'.ext x1).free 0
  have r0 : w1.cell? ⟨w.heap.size + 1, 0, none⟩ = some (.int .u64 0) := (B2.ext x1).cell 0
  have r1 : w1.cell? ⟨w.heap.size + 1, 1, none⟩ = some (.int .u64 0) := (B2.ext x1).cell 1
  have g0 := (B2.ext x1).free 0
  have g1 := (B2.ext x1).free 1
  have X1 := Lib.hid (Ext.tr (a := w) (by (repeat (first | assumption | exact Ext.rf _ | apply Ext.drew | apply Ext.drewN | apply Ext.alloc))) x1)
  replace K := K.out
  replace sh := sh.out
  have wz : IntKind.i64.wrap 0 = 0 := by decide
  have q1 : (i : Int) / 64 = 0 := by omega
  have q2 : (i : Int).tmod 64 = (i : Int) := by rw [Int.tmod_eq_emod_of_nonneg (by omega)]; omega
  have bA := B1'.ext x1
  have bR := B2.ext x1
  clear x1 B1' B2 e1 c1 f0 r0 r1 g0 g1
  have bA2 := Lib.hid (bA.set 0 (.int .u64 z))
  have bR2 := Lib.hid (bR.far (p := ⟨w.heap.size, 0, none⟩) (by simp) (.int .u64 z))
  have X2 := Lib.hid (X1.out.setNew (p := ⟨w.heap.size, 0, none⟩) (Nat.le_refl _) (.int .u64 z))
  have fA : w1.frozen? ⟨w.heap.size, 0, none⟩ = false := bA.free 0
  go_upto_region 2 with (fail)
  refine wp_region_any (by kernel_rfl) ?_
  change wpAny _ _ _ _ _ _ _ (World.drew _)
  refine wpAny_T (i := 0) (op := Op.move (Operand.tmp 1)) (t := 3) (d := some 7) (v := ?_) rfl (by decide +kernel) (by decide +kernel) (by decide +kernel) (fun _ _ _ h => h) ?_ ?_
  case refine_2 => (intro _; unfold exec2; go_simp; try with_reducible rfl)
  try simp only [Act.put, List.setIfInBounds_toArray, List.set_cons_zero, List.set_cons_succ]
  refine wpAny_T (i := 1) (op := Op.binOp BinOp.quo 3 (Operand.tmp 7) (Operand.const (Value.int IntKind.i64 64)) 3) (t := 3) (d := some 8) (v := ?_) rfl (by decide +kernel) (by decide +kernel) (by decide +kernel) (fun _ _ _ h => h) ?_ ?_
  case refine_2 => (intro _; unfold exec2; go_simp; try with_reducible rfl)
  try simp only [Act.put, List.setIfInBounds_toArray, List.set_cons_zero, List.set_cons_succ]
  refine wpAny_T (i := 2) (op := Op.indexAddr 94 (Operand.tmp 2) (Operand.tmp 8)) (t := 0) (d := some 9) (v := ?_) rfl (by decide +kernel) (by decide +kernel) (by decide +kernel) (fun _ _ _ h => h) ?_ ?_
  case refine_2 => (intro _; unfold exec2; go_simp; try with_reducible rfl)
  try simp only [Act.put, List.setIfInBounds_toArray, List.set_cons_zero, List.set_cons_succ]
  refine wpAny_T (i := 4) (op := Op.move (Operand.tmp 1)) (t := 3) (d := some 11) (v := ?_) rfl (by decide +kernel) (by decide +kernel) (by decide +kernel) (fun _ _ _ h => h) ?_ ?_
  case refine_2 => (intro _; unfold exec2; go_simp; try with_reducible rfl)
  try simp only [Act.put, List.setIfInBounds_toArray, List.set_cons_zero, List.set_cons_succ]
  refine wpAny_T (i := 5) (op := Op.binOp BinOp.rem 3 (Operand.tmp 11) (Operand.const (Value.int IntKind.i64 64)) 3) (t := 3) (d := some 12) (v := ?_) rfl (by decide +kernel) (by decide +kernel) (by decide +kernel) (fun _ _ _ h => h) ?_ ?_
  case refine_2 => (intro _; unfold exec2; go_simp; try with_reducible rfl)
  try simp only [Act.put, List.setIfInBounds_toArray, List.set_cons_zero, List.set_cons_succ]
  refine wpAny_T (i := 6) (op := Op.binOp BinOp.shl 28 (Operand.const (Value.int IntKind.u64 1)) (Operand.tmp 12) 3) (t := 28) (d := some 13) (v := ?_) rfl (by decide +kernel) (by decide +kernel) (by decide +kernel) (fun _ _ _ h => h) ?_ ?_
  case refine_2 => (intro _; unfold exec2; go_simp; try with_reducible rfl)
  try simp only [Act.put, List.setIfInBounds_toArray, List.set_cons_zero, List.set_cons_succ]
  refine wpAny_next 3 (by decide +kernel) (op_ld (T := 28) (x := Operand.tmp 9) (t := 28) (d := some 10) rfl (.pointer (some ⟨w.heap.size, 0, none⟩)) (by kernel_rfl) (.int .u64 m) (by go_simp) ?_)
  try simp only [Act.put, List.setIfInBounds_toArray, List.set_cons_zero, List.set_cons_succ]
  refine wpAny_T (i := 7) (op := Op.binOp BinOp.or 28 (Operand.tmp 10) (Operand.tmp 13) 28) (t := 28) (d := some 14) (v := ?_) rfl (by decide +kernel) (by decide +kernel) (by decide +kernel) (fun _ _ _ h => h) ?_ ?_
  case refine_2 => (intro _; unfold exec2; go_simp; try with_reducible rfl)
  try simp only [Act.put, List.setIfInBounds_toArray, List.set_cons_zero, List.set_cons_succ]
  refine wpAny_T (i := 8) (op := Op.indexAddr 94 (Operand.tmp 2) (Operand.tmp 8)) (t := 0) (d := some 15) (v := ?_) rfl (by decide +kernel) (by decide +kernel) (by decide +kernel) (fun _ _ _ h => h) ?_ ?_
  case refine_2 => (intro _; unfold exec2; go_simp; try with_reducible rfl)
  try simp only [Act.put, List.setIfInBounds_toArray, List.set_cons_zero, List.set_cons_succ]
  refine wpAny_next 9 (by decide +kernel) (op_st rfl (.pointer (some ⟨w.heap.size, 0, none⟩)) (.int .u64 z) (by kernel_rfl) (by kernel_rfl) (by go_simp; rfl) ?_)
  refine wpAny_done (by kernel_rfl) ?_ _
  clear c0 fA bA bR X1 hm K sh
  generalize w1.setCell ⟨w.heap.size, 0, none⟩ (.int .u64 z) = w2 at *
  clear w1
  have c0 : w2.cell? ⟨w.heap.size, 0, none⟩ = some (.int .u64 z) := bA2.out.cell 0
  have c1 : w2.cell? ⟨w.heap.size, 1, none⟩ = some (.int .u64 q) := bA2.out.cell 1
  have r0 : w2.cell? ⟨w.heap.size + 1, 0, none⟩ = some (.int .u64 0) := bR2.out.cell 0
  have r1 : w2.cell? ⟨w.heap.size + 1, 1, none⟩ = some (.int .u64 0) := bR2.out.cell 1
  have g0 := bR2.out.free 0
  have g1 := bR2.out.free 1
  go_simp
  go_wp2_with (fail)
  refine bodyPost_ret (v := .agg #[.int .u64 z, .int .u64 q]) (by simp [results, Tryd.results94, go_sem, *]) rfl ⟨rfl, ?_⟩
  exact ((X2.out.setNew (p := ⟨w.heap.size + 1, 0, none⟩) (by simp) _).setNew (p := ⟨w.heap.size + 1, 1, none⟩) (by simp) _).drew
set_option maxRecDepth 100000 in
theorem with_hi (q m i : Nat) (x : Int) (hx : x = ((64 + i : Nat) : Int)) (hm : m < 18446744073709551616) (hi : i < 64) (w : World) : Calls Tryd.prog 94 #[setW q m, .int .i64 x] w fun e w' => e = .returned (setW q (m ||| 2 ^ i)) ∧ Ext w w' := by
  unfold setW
  have K := bits_or_u64_nat m (2 ^ i) hm (Nat.pow_lt_pow_right (by omega) hi)
  have sh := shl_wrap i hi
  generalize 2 ^ i = b2 at *
  generalize m ||| b2 = z at *
  replace K := Lib.hid K
  replace sh := Lib.hid sh
  have B1' : Blk ((w.alloc (.cells #[.int .u64 q, .int .u64 m] 94)).alloc (.cells #[.int .u64 0, .int .u64 0] 94)) w.heap.size 94 #[.int .u64 q, .int .u64 m] := .alloc (.new rfl) _
  have B2 : Blk ((w.alloc (.cells #[.int .u64 q, .int .u64 m] 94)).alloc (.cells #[.int .u64 0, .int .u64 0] 94)) (w.heap.size + 1) 94 #[.int .u64 0, .int .u64 0] := .new (by simp)
  have B1 : Blk (w.alloc (.cells #[.int .u64 q, .int .u64 m] 94)) w.heap.size 94 #[.int .u64 q, .int .u64 m] := .new rfl
  replace hx := Lib.hid hx
  go_enter Tryd.func94, Tryd.ntmps94
  go_wp2_with (fail)
  refine (within_any _ _).mono ?_
  rintro e w1 ⟨rfl, x1⟩
  have e1 : (decide (0 ≤ x) && decide (x < 128)) = true := by have := hx.out; simp; omega
  rw [e1]
  have c0 : w1.cell? ⟨w.heap.size, 0, none⟩ = some (.int .u64 q) := (B1'.ext x1).cell 0
  have c1 : w1.cell? ⟨w.heap.size, 1, none⟩ = some (.int .u64 m) := (B1'.ext x1).cell 1
  have f0 := (B1'.ext x1).free 1
  have r0 : w1.cell? ⟨w.heap.size + 1, 0, none⟩ = some (.int .u64 0) := (B2.ext x1).cell 0
  have r1 : w1.cell? ⟨w.heap.size + 1, 1, none⟩ = some (.int .u64 0) := (B2.ext x1).cell 1
  have g0 := (B2.ext x1).free 0
  have g1 := (B2.ext x1).free 1
  have X1 := Lib.hid (Ext.tr (a := w) (by (repeat (first | assumption | exact Ext.rf _ | apply Ext.drew | apply Ext.drewN | apply Ext.alloc))) x1)
  replace K := K.out
  replace sh := sh.out
  have wz : IntKind.i64.wrap 1 = 1 := by decide
  have q1 : x.tdiv 64 = 1 := by have := hx.out; rw [Int.tdiv_eq_ediv_of_nonneg (by omega)]; omega
  have q2 : (x).tmod 64 = (i : Int) := by have := hx.out; rw [Int.tmod_eq_emod_of_nonneg (by omega)]; omega
  have bA := B1'.ext x1
  have bR := B2.ext x1
  clear x1 B1' B2 e1 c0 f0 r0 r1 g0 g1
  have bA2 := Lib.hid (bA.set 1 (.int .u64 z))
  have bR2 := Lib.hid (bR.far (p := ⟨w.heap.size, 1, none⟩) (by simp) (.int .u64 z))
  have X2 := Lib.hid (X1.out.setNew (p := ⟨w.heap.size, 1, none⟩) (Nat.le_refl _) (.int .u64 z))
  have fA : w1.frozen? ⟨w.heap.size, 1, none⟩ = false := bA.free 1
  go_upto_region 2 with (fail)
  refine wp_region_any (by kernel_rfl) ?_
  change wpAny _ _ _ _ _ _ _ (World.drew _)
  refine wpAny_T (i := 0) (op := Op.move (Operand.tmp 1)) (t := 3) (d := some 7) (v := ?_) rfl (by decide +kernel) (by decide +kernel) (by decide +kernel) (fun _ _ _ h => h) ?_ ?_
  case refine_2 => (intro _; unfold exec2; go_simp; try with_reducible rfl)
  try simp only [Act.put, List.setIfInBounds_toArray, List.set_cons_zero, List.set_cons_succ]
  refine wpAny_T (i := 1) (op := Op.binOp BinOp.quo 3 (Operand.tmp 7) (Operand.const (Value.int IntKind.i64 64)) 3) (t := 3) (d := some 8) (v := ?_) rfl (by decide +kernel) (by decide +kernel) (by decide +kernel) (fun _ _ _ h => h) ?_ ?_
  case refine_2 => (intro _; unfold exec2; go_simp; try with_reducible rfl)
  try simp only [Act.put, List.setIfInBounds_toArray, List.set_cons_zero, List.set_cons_succ]
  refine wpAny_T (i := 2) (op := Op.indexAddr 94 (Operand.tmp 2) (Operand.tmp 8)) (t := 0) (d := some 9) (v := ?_) rfl (by decide +kernel) (by decide +kernel) (by decide +kernel) (fun _ _ _ h => h) ?_ ?_
  case refine_2 => (intro _; unfold exec2; go_simp; try with_reducible rfl)
  try simp only [Act.put, List.setIfInBounds_toArray, List.set_cons_zero, List.set_cons_succ]
  refine wpAny_T (i := 4) (op := Op.move (Operand.tmp 1)) (t := 3) (d := some 11) (v := ?_) rfl (by decide +kernel) (by decide +kernel) (by decide +kernel) (fun _ _ _ h => h) ?_ ?_
  case refine_2 => (intro _; unfold exec2; go_simp; try with_reducible rfl)
  try simp only [Act.put, List.setIfInBounds_toArray, List.set_cons_zero, List.set_cons_succ]
  refine wpAny_T (i := 5) (op := Op.binOp BinOp.rem 3 (Operand.tmp 11) (Operand.const (Value.int IntKind.i64 64)) 3) (t := 3) (d := some 12) (v := ?_) rfl (by decide +kernel) (by decide +kernel) (by decide +kernel) (fun _ _ _ h => h) ?_ ?_
  case refine_2 => (intro _; unfold exec2; go_simp; try with_reducible rfl)
  try simp only [Act.put, List.setIfInBounds_toArray, List.set_cons_zero, List.set_cons_succ]
  refine wpAny_T (i := 6) (op := Op.binOp BinOp.shl 28 (Operand.const (Value.int IntKind.u64 1)) (Operand.tmp 12) 3) (t := 28) (d := some 13) (v := ?_) rfl (by decide +kernel) (by decide +kernel) (by decide +kernel) (fun _ _ _ h => h) ?_ ?_
  case refine_2 => (intro _; unfold exec2; go_simp; try with_reducible rfl)
  try simp only [Act.put, List.setIfInBounds_toArray, List.set_cons_zero, List.set_cons_succ]
  refine wpAny_next 3 (by decide +kernel) (op_ld (T := 28) (x := Operand.tmp 9) (t := 28) (d := some 10) rfl (.pointer (some ⟨w.heap.size, 1, none⟩)) (by kernel_rfl) (.int .u64 m) (by go_simp) ?_)
  try simp only [Act.put, List.setIfInBounds_toArray, List.set_cons_zero, List.set_cons_succ]
  refine wpAny_T (i := 7) (op := Op.binOp BinOp.or 28 (Operand.tmp 10) (Operand.tmp 13) 28) (t := 28) (d := some 14) (v := ?_) rfl (by decide +kernel) (by decide +kernel) (by decide +kernel) (fun _ _ _ h => h) ?_ ?_
  case refine_2 => (intro _; unfold exec2; go_simp; try with_reducible rfl)
  try simp only [Act.put, List.setIfInBounds_toArray, List.set_cons_zero, List.set_cons_succ]
  refine wpAny_T (i := 8) (op := Op.indexAddr 94 (Operand.tmp 2) (Operand.tmp 8)) (t := 0) (d := some 15) (v := ?_) rfl (by decide +kernel) (by decide +kernel) (by decide +kernel) (fun _ _ _ h => h) ?_ ?_
  case refine_2 => (intro _; unfold exec2; go_simp; try with_reducible rfl)
  try simp only [Act.put, List.setIfInBounds_toArray, List.set_cons_zero, List.set_cons_succ]
  refine wpAny_next 9 (by decide +kernel) (op_st rfl (.pointer (some ⟨w.heap.size, 1, none⟩)) (.int .u64 z) (by kernel_rfl) (by kernel_rfl) (by go_simp; rfl) ?_)
  refine wpAny_done (by kernel_rfl) ?_ _
  clear c1 fA bA bR X1 hm K sh
  generalize w1.setCell ⟨w.heap.size, 1, none⟩ (.int .u64 z) = w2 at *
  clear w1
  have c0 : w2.cell? ⟨w.heap.size, 0, none⟩ = some (.int .u64 q) := bA2.out.cell 0
  have c1 : w2.cell? ⟨w.heap.size, 1, none⟩ = some (.int .u64 z) := bA2.out.cell 1
  have r0 : w2.cell? ⟨w.heap.size + 1, 0, none⟩ = some (.int .u64 0) := bR2.out.cell 0
  have r1 : w2.cell? ⟨w.heap.size + 1, 1, none⟩ = some (.int .u64 0) := bR2.out.cell 1
  have g0 := bR2.out.free 0
  have g1 := bR2.out.free 1
  go_simp
  go_wp2_with (fail)
  refine bodyPost_ret (v := .agg #[.int .u64 q, .int .u64 z]) (by simp [results, Tryd.results94, go_sem, *]) rfl ⟨rfl, ?_⟩
  exact ((X2.out.setNew (p := ⟨w.heap.size + 1, 0, none⟩) (by simp) _).setNew (p := ⟨w.heap.size + 1, 1, none⟩) (by simp) _).drew
set_option maxRecDepth 100000 in
theorem with_out (m q : Nat) (x : Int) (hx : ¬ (0 ≤ x ∧ x < 128)) (w : World) : Calls Tryd.prog 94 #[setW m q, .int .i64 x] w fun e w' => e = .returned (setW m q) ∧ Ext w w' := by
  unfold setW
  have B1' : Blk ((w.alloc (.cells #[.int .u64 m, .int .u64 q] 94)).alloc (.cells #[.int .u64 0, .int .u64 0] 94)) w.heap.size 94 #[.int .u64 m, .int .u64 q] := .alloc (.new rfl) _
  have B2 : Blk ((w.alloc (.cells #[.int .u64 m, .int .u64 q] 94)).alloc (.cells #[.int .u64 0, .int .u64 0] 94)) (w.heap.size + 1) 94 #[.int .u64 0, .int .u64 0] := .new (by simp)
  have e1 : (decide (0 ≤ x) && decide (x < 128)) = false := by
    rw [Bool.eq_false_iff]
    simp
    omega
  go_enter Tryd.func94, Tryd.ntmps94
  go_wp2_with (fail)
  refine (within_any _ _).mono ?_
  rintro e w1 ⟨rfl, x1⟩
  rw [e1]
  have c0 : w1.cell? ⟨w.heap.size, 0, none⟩ = some (.int .u64 m) := (B1'.ext x1).cell 0
  have c1 : w1.cell? ⟨w.heap.size, 1, none⟩ = some (.int .u64 q) := (B1'.ext x1).cell 1
  have r0 : w1.cell? ⟨w.heap.size + 1, 0, none⟩ = some (.int .u64 0) := (B2.ext x1).cell 0
  have r1 : w1.cell? ⟨w.heap.size + 1, 1, none⟩ = some (.int .u64 0) := (B2.ext x1).cell 1
  have g0 := (B2.ext x1).free 0
  have g1 := (B2.ext x1).free 1
  have X1 := Lib.hid (Ext.tr (a := w) (by (repeat (first | assumption | exact Ext.rf _ | apply Ext.drew | apply Ext.drewN | apply Ext.alloc))) x1)
  clear x1 B1' B2 e1
  go_wp2_with (fail)
  refine bodyPost_ret (v := .agg #[.int .u64 m, .int .u64 q]) (by simp [results, Tryd.results94, go_sem, *]) rfl ⟨rfl, ?_⟩
  exact (X1.out.setNew (p := ⟨w.heap.size + 1, 0, none⟩) (by simp) _).setNew (p := ⟨w.heap.size + 1, 1, none⟩) (by simp) _
/-- with one number -/
def wthP (s : Nat × Nat) (x : Int) : Nat × Nat := if 0 ≤ x ∧ x < 64 then (s.1 ||| 2 ^ x.toNat, s.2) else if 64 ≤ x ∧ x < 128 then (s.1, s.2 ||| 2 ^ (x.toNat - 64)) else s
def ofP (l : List Int) : Nat × Nat := l.foldl wthP (0, 0)
theorem ofP_snoc (l : List Int) (x : Int) : ofP (l ++ [x]) = wthP (ofP l) x := by
  unfold ofP
  rw [List.foldl_append]
  rfl
theorem wthP_lt {s : Nat × Nat} (h : s.1 < 18446744073709551616 ∧ s.2 < 18446744073709551616) (x : Int) : (wthP s x).1 < 18446744073709551616 ∧ (wthP s x).2 < 18446744073709551616 := by
  unfold wthP
  split
  · rename_i hx
    exact ⟨Nat.or_lt_two_pow (n := 64) h.1 (Nat.pow_lt_pow_right (by omega) (by omega)), h.2⟩
  · split
    · exact ⟨h.1, Nat.or_lt_two_pow (n := 64) h.2 (Nat.pow_lt_pow_right (by omega) (by omega))⟩
    · exact h
theorem fold_lt : ∀ (l : List Int) (s : Nat × Nat), s.1 < 18446744073709551616 ∧ s.2 < 18446744073709551616 → (l.foldl wthP s).1 < 18446744073709551616 ∧ (l.foldl wthP s).2 < 18446744073709551616
  | [], _, h => h
  | x :: l, s, h => fold_lt l _ (wthP_lt h x)
theorem ofP_lt (l : List Int) : (ofP l).1 < 18446744073709551616 ∧ (ofP l).2 < 18446744073709551616 := fold_lt l _ ⟨by decide, by decide⟩
theorem fold_bit1 : ∀ (l : List Int) (s : Nat × Nat) (j : Nat), j < 64 → (l.foldl wthP s).1.testBit j = (s.1.testBit j || decide ((j : Int) ∈ l))
  | [], s, j, _ => by simp
  | x :: l, s, j, hj => by
    rw [List.foldl_cons, fold_bit1 l _ j hj]
    have e : (wthP s x).1.testBit j = (s.1.testBit j || decide ((j : Int) = x)) := by
      unfold wthP
      split
      · rw [Nat.testBit_or, Nat.testBit_two_pow]
        congr 1
        rw [decide_eq_decide]
        omega
      · have h : ¬ (j : Int) = x := by omega
        split <;> simp [h]
    rw [e]
    by_cases h1 : (j : Int) = x <;> simp [h1]
theorem fold_bit2 : ∀ (l : List Int) (s : Nat × Nat) (j : Nat), j < 64 → (l.foldl wthP s).2.testBit j = (s.2.testBit j || decide (((64 + j : Nat) : Int) ∈ l))
  | [], s, j, _ => by simp
  | x :: l, s, j, hj => by
    rw [List.foldl_cons, fold_bit2 l _ j hj]
    have e : (wthP s x).2.testBit j = (s.2.testBit j || decide (((64 + j : Nat) : Int) = x)) := by
      unfold wthP
      split
      · have h : ¬ ((64 + j : Nat) : Int) = x := by omega
        simp only [h, decide_false, Bool.or_false]
      · split
        · rw [Nat.testBit_or, Nat.testBit_two_pow]
          congr 1
          rw [decide_eq_decide]
          omega
        · have h : ¬ ((64 + j : Nat) : Int) = x := by omega
          simp only [h, decide_false, Bool.or_false]
    rw [e]
    by_cases h1 : ((64 + j : Nat) : Int) = x
    · rw [h1]; simp
    · have h2 : decide (((64 + j : Nat) : Int) ∈ x :: l) = decide (((64 + j : Nat) : Int) ∈ l) := by
        rw [decide_eq_decide, List.mem_cons]
        exact ⟨fun h => h.resolve_left h1, .inr⟩
      rw [h2]
      simp only [h1, decide_false, Bool.or_false]
/-- the test by sets is the test by counting -/
theorem ofP_perm {x : List Int} {n : Nat} (hl : x.length = n) (hn : n < 64) : (((ofP x).1 : Int) == ((2 ^ n - 1 : Nat) : Int) && ((ofP x).2 : Int) == 0) = permB x n := by
  rw [Bool.eq_iff_iff, permB_iff, Bool.and_eq_true, beq_iff_eq, beq_iff_eq]
  have b1 := fold_bit1 x (0, 0)
  have b2 := fold_bit2 x (0, 0)
  have lt := ofP_lt x
  change ∀ j, j < 64 → (ofP x).1.testBit j = _ at b1
  change ∀ j, j < 64 → (ofP x).2.testBit j = _ at b2
  constructor
  · rintro ⟨h1, -⟩
    have h1' : (ofP x).1 = 2 ^ n - 1 := by omega
    rw [h1'] at b1
    have hmem : ∀ k : Nat, k < n → (k : Int) ∈ x := fun k hk => by
      have h := b1 k (by omega)
      rw [Nat.testBit_two_pow_sub_one] at h
      simp only [Nat.zero_testBit, Bool.false_or, hk, decide_true] at h
      exact of_decide_eq_true h.symm
    have hnd : (intsN (List.range n)).Nodup := by
      unfold intsN
      refine List.pairwise_map.2 (List.nodup_range.imp ?_)
      intro a b hab e
      exact hab (by omega)
    have hp : (intsN (List.range n)).Perm x := perm_of_sub hnd (fun y hy => by
      obtain ⟨k, hk, rfl⟩ := List.mem_map.1 hy
      exact hmem k (List.mem_range.1 hk)) (by rw [intsN_len, List.length_range, hl])
    refine permB_iff.1 ?_
    unfold permB
    rw [decide_eq_true_iff]
    exact ⟨hl, fun k hk => count_one_i (hp.nodup hnd) (hmem k hk)⟩
  · rintro ⟨l, rfl, hp⟩
    have hm : ∀ k : Nat, ((k : Int) ∈ intsN l) ↔ k < n := fun k => by
      rw [← List.mem_range, ← hp.mem_iff]
      unfold intsN
      rw [List.mem_map]
      constructor
      · rintro ⟨a, ha, e⟩
        have : a = k := by omega
        exact this ▸ ha
      · exact fun h => ⟨k, h, rfl⟩
    constructor
    · have e : (ofP (intsN l)).1 = 2 ^ n - 1 := by
        refine Nat.eq_of_testBit_eq fun j => ?_
        rw [Nat.testBit_two_pow_sub_one]
        by_cases hj : j < 64
        · rw [b1 j hj]
          simp only [Nat.zero_testBit, Bool.false_or]
          rw [decide_eq_decide]
          exact hm j
        · have h : ¬ j < n := by omega
          rw [Nat.testBit_lt_two_pow (Nat.lt_of_lt_of_le lt.1 (Nat.pow_le_pow_right (n := 2) (by omega) (by omega : 64 ≤ j)))]
          simp [h]
      rw [e]
    · have e : (ofP (intsN l)).2 = 0 := by
        refine Nat.eq_of_testBit_eq fun j => ?_
        rw [Nat.zero_testBit]
        by_cases hj : j < 64
        · rw [b2 j hj]
          simp only [Nat.zero_testBit, Bool.false_or]
          refine decide_eq_false ?_
          rw [hm]
          omega
        · exact Nat.testBit_lt_two_pow (Nat.lt_of_lt_of_le lt.2 (Nat.pow_le_pow_right (n := 2) (by omega) (by omega : 64 ≤ j)))
      rw [e]
      rfl
theorem with_gen (s : Nat × Nat) (h : s.1 < 18446744073709551616 ∧ s.2 < 18446744073709551616) (x : Int) (w : World) : Calls Tryd.prog 94 #[setW s.1 s.2, .int .i64 x] w fun e w' => e = .returned (setW (wthP s x).1 (wthP s x).2) ∧ Ext w w' := by
  unfold wthP
  by_cases h1 : 0 ≤ x ∧ x < 64
  · rw [if_pos h1]
    obtain ⟨i, rfl⟩ : ∃ i : Nat, x = (i : Int) := ⟨x.toNat, by omega⟩
    exact with_lo s.1 s.2 i h.1 (by omega) w
  · rw [if_neg h1]
    by_cases h2 : 64 ≤ x ∧ x < 128
    · rw [if_pos h2]
      obtain ⟨i, rfl⟩ : ∃ i : Nat, x = ((64 + i : Nat) : Int) := ⟨x.toNat - 64, by omega⟩
      have e : ((64 + i : Nat) : Int).toNat - 64 = i := by omega
      rw [e]
      exact with_hi s.1 s.2 i _ rfl h.2 (by omega) w
    · rw [if_neg h2]
      exact with_out s.1 s.2 x (by omega) w
theorem eq_setw (a b x y : Int) (u : World) : (Op.equalIn 10000 94 (.agg #[.int .u64 a, .int .u64 b]) (.agg #[.int .u64 x, .int .u64 y])).run Tryd.prog u = .ok (a == x && b == y) u := by
  unfold Op.equalIn
  simp only [Sem.run_bind, run_underlying Tryd.underlying94, Result.andThen_ok]
  have e9 : List.range' 0 2 1 = [0, 1] := rfl
  simp only [Std.Legacy.Range.forIn_eq_forIn_range', Std.Legacy.Range.size, Nat.sub_zero, Nat.add_one_sub_one, Nat.div_one, e9, List.forIn_cons, List.forIn_nil]
  by_cases hx : a = x
  · subst hx
    by_cases hy : b = y
    · subst hy
      go_simp
    · have hy' : (b == y) = false := by simpa using hy
      go_simp
  · have hx' : (a == x) = false := by simpa using hx
    go_simp
set_option maxRecDepth 100000 in
theorem of_gen (A : Option Addr) (c : Nat) (l : List Int) (hn : l.length ≤ 1000) (w : World) (hA : RdI w A l) :
    Calls Tryd.prog 123 #[.slice A l.length c] w fun e w' => e = .returned (setW (ofP l).1 (ofP l).2) ∧ Ext w w' := by
  have B0 : Hid (Blk ((w.alloc (.cells #[.int .u64 0, .int .u64 0] 94)).alloc (.cells #[.int .u64 0, .int .u64 0] 94)) w.heap.size 94 #[.int .u64 0, .int .u64 0]) := Blk.alloc (.new rfl) _
  have B1 : Hid (Blk ((w.alloc (.cells #[.int .u64 0, .int .u64 0] 94)).alloc (.cells #[.int .u64 0, .int .u64 0] 94)) (w.heap.size + 1) 94 #[.int .u64 ((ofP (l.take 0)).1 : Int), .int .u64 ((ofP (l.take 0)).2 : Int)]) := .new (by simp)
  have X0 : Hid (Ext w ((w.alloc (.cells #[.int .u64 0, .int .u64 0] 94)).alloc (.cells #[.int .u64 0, .int .u64 0] 94))) := ((Ext.rf w).alloc _).alloc _
  have WI := fun (s : Nat × Nat) (h : s.1 < 18446744073709551616 ∧ s.2 < 18446744073709551616) (x : Int) (W : World) => with_gen s h x W
  unfold setW at WI ⊢
  replace WI := Lib.hid WI
  replace hA := Lib.hid hA
  go_enter Tryd.func123, Tryd.ntmps123
  go_wp2_with (fail)
  go_loopw [8] (fun i wr => ∃ k : Nat, i = .int .i64 k ∧ k ≤ l.length ∧ Hid (Blk wr (w.heap.size + 1) 94 #[.int .u64 ((ofP (l.take k)).1 : Int), .int .u64 ((ofP (l.take k)).2 : Int)]) ∧ Hid (Blk wr w.heap.size 94 #[.int .u64 0, .int .u64 0]) ∧ Hid (Ext w wr)) (fun i _ => l.length - (intOf i).toNat)
  case atStart => exact ⟨0, rfl, by omega, B1, B0, X0⟩
  case round =>
    clear B0 B1 X0
    obtain ⟨wo, rfl⟩ : ∃ wo : World, wo = wr := ⟨_, rfl⟩
    obtain ⟨k, rfl, hk, B1, B0, X0⟩ := hrel
    by_cases hlt : k < l.length
    · obtain ⟨b, off, x, rfl, zb, cx, ex, _⟩ := (hA.out.ext X0.out).at (k := k) hlt
      have hm := ofP_lt (l.take k)
      have HS : ofP (l.take (k + 1)) = wthP (ofP (l.take k)) x := by
        rw [List.take_add_one, ex.out]
        exact ofP_snoc _ _
      have HW := Lib.hid (WI.out (ofP (l.take k)) hm x)
      rw [← HS] at HW
      clear HS hm ex
      obtain ⟨m, hm1⟩ : ∃ m, Hid ((ofP (l.take k)).1 = m) := ⟨_, rfl⟩
      obtain ⟨q, hq1⟩ : ∃ q, Hid ((ofP (l.take k)).2 = q) := ⟨_, rfl⟩
      obtain ⟨m2, hm2⟩ : ∃ m2, Hid ((ofP (l.take (k + 1))).1 = m2) := ⟨_, rfl⟩
      obtain ⟨p2, hp2⟩ : ∃ p2, Hid ((ofP (l.take (k + 1))).2 = p2) := ⟨_, rfl⟩
      rw [hm1.out, hq1.out, hm2.out, hp2.out] at HW
      rw [hm1.out, hq1.out] at B1
      have c0 : wo.cell? ⟨w.heap.size + 1, 0, none⟩ = some (.int .u64 m) := B1.out.cell 0
      have c1 : wo.cell? ⟨w.heap.size + 1, 1, none⟩ = some (.int .u64 q) := B1.out.cell 1
      have q1 : (k : Int) < (l.length : Int) := by omega
      go_wp2_with (fail)
      refine (HW.out _).mono ?_
      rintro e w1 ⟨rfl, x1⟩
      have b1 := B1.out.ext x1
      have d0 : w1.cell? ⟨w.heap.size + 1, 0, none⟩ = some (.int .u64 m) := b1.cell 0
      have d1 : w1.cell? ⟨w.heap.size + 1, 1, none⟩ = some (.int .u64 q) := b1.cell 1
      have f0 := b1.free 0
      have f1 := b1.free 1
      have B1' := Lib.hid ((b1.set 0 (.int .u64 m2)).set 1 (.int .u64 p2))
      have B0' := Lib.hid (((B0.out.ext x1).far (p := ⟨w.heap.size + 1, 0, none⟩) (by simp) (.int .u64 m2)).far (p := ⟨w.heap.size + 1, 1, none⟩) (by simp) (.int .u64 p2))
      have X1 := Lib.hid (((X0.out.tr x1).setNew (p := ⟨w.heap.size + 1, 0, none⟩) (by simp) (.int .u64 m2)).setNew (p := ⟨w.heap.size + 1, 1, none⟩) (by simp) (.int .u64 p2))
      clear b1 x1 B0 B1 X0 c0 c1
      go_wp2_with (fail)
      go_roundw
      case rel => exact ⟨k + 1, by go_num, by omega, by rw [hm2.out, hp2.out]; exact B1', B0', X1⟩
      case measure => simp [intOf]; omega
    · obtain rfl : k = l.length := by omega
      rw [List.take_length] at B1
      obtain ⟨m, hm⟩ : ∃ m, Hid ((ofP l).1 = m) := ⟨_, rfl⟩
      obtain ⟨q, hq⟩ : ∃ q, Hid ((ofP l).2 = q) := ⟨_, rfl⟩
      rw [hm.out, hq.out] at B1
      have c0 : wo.cell? ⟨w.heap.size + 1, 0, none⟩ = some (.int .u64 m) := B1.out.cell 0
      have c1 : wo.cell? ⟨w.heap.size + 1, 1, none⟩ = some (.int .u64 q) := B1.out.cell 1
      have r0 : wo.cell? ⟨w.heap.size, 0, none⟩ = some (.int .u64 0) := B0.out.cell 0
      have r1 : wo.cell? ⟨w.heap.size, 1, none⟩ = some (.int .u64 0) := B0.out.cell 1
      have g0 := B0.out.free 0
      have g1 := B0.out.free 1
      go_wp2_with (fail)
      refine bodyPost_ret (v := .agg #[.int .u64 m, .int .u64 q]) (by simp [results, Tryd.results123, go_sem, *]) rfl ⟨by rw [hm.out, hq.out], ?_⟩
      exact (X0.out.setNew (p := ⟨w.heap.size, 0, none⟩) (by simp) _).setNew (p := ⟨w.heap.size, 1, none⟩) (by simp) _
set_option maxRecDepth 100000 in
theorem order_gen (A : Option Addr) (c n : Nat) (x : List Int) (hx : x.length ≤ 1000) (hn : n < 64) (w : World) (hA : RdI w A x) :
    Calls Tryd.prog 101 #[.slice A x.length c, .int .i64 n] w fun e w' => e = .returned (.bool (permB x n)) ∧ Ext w w' := by
  by_cases hl : x.length = n
  · have OF := fun (W : World) (x' : Ext w W) => of_gen A c x hx W (hA.ext x')
    have FU := fun (W : World) => full_any n hn W
    have EQ := ofP_perm hl hn
    have en : ((n : Int) == (n : Int)) = true := by simp
    rw [hl] at OF ⊢
    clear hl hA hx
    unfold setV setW at *
    generalize 2 ^ n - 1 = m at *
    generalize (ofP x).1 = s1 at *
    generalize (ofP x).2 = s2 at *
    have EQ2 := fun u : World => eq_setw (s1 : Int) (s2 : Int) (m : Int) 0 u
    rw [EQ] at EQ2
    clear EQ
    generalize permB x n = pb at *
    replace OF := Lib.hid OF
    replace FU := Lib.hid FU
    go_enter Tryd.func101, Tryd.ntmps101
    go_wp2_with (fail)
    refine (OF.out _ (by (repeat (first | assumption | exact Ext.rf _ | apply Ext.drew | apply Ext.drewN | apply Ext.alloc)))).mono ?_
    rintro e w1 ⟨rfl, x1⟩
    go_wp2_with (fail)
    refine (FU.out _).mono ?_
    rintro e w2 ⟨rfl, x2⟩
    have X2 := Lib.hid (Ext.tr (Ext.tr (a := w) (by (repeat (first | assumption | exact Ext.rf _ | apply Ext.drew | apply Ext.drewN | apply Ext.alloc))) x1) x2)
    clear x1 x2
    go_wp2_with (fail)
    go_ret
    exact ⟨rfl, X2.out⟩
  · have PB : permB x n = false := by
      unfold permB
      exact decide_eq_false fun h => hl h.1
    have en : ((x.length : Int) == (n : Int)) = false := by
      rw [beq_eq_false_iff_ne]
      omega
    rw [PB]
    clear PB hl
    go_enter Tryd.func101, Tryd.ntmps101
    go_wp2_with (fail)
    go_ret
    exact ⟨rfl, by (repeat (first | assumption | exact Ext.rf _ | apply Ext.drew | apply Ext.drewN | apply Ext.alloc))⟩
end Go.Proofs.YtleckhbmciiooaaDoor
namespace Go.Proofs.YtleckhbmciiooaaDoor
open Go.RowKit Go.ChangeShapes Go.WideShapes Go.ChangeAt Go.Deep

/-- a problem's numbers, each by itself in form -/
def Small31 (xs : List Int) : Prop := ∀ x ∈ xs, 0 ≤ x ∧ x ≤ 2147483647
theorem Small31.get {xs : List Int} (h : Small31 xs) {k : Nat} {x : Int} (hk : xs[k]? = some x) : 0 ≤ x ∧ x ≤ 2147483647 := h x (List.mem_of_getElem? hk)
theorem numP_zero {n : Int} (h : numP n = 0) : 0 ≤ n ∧ n ≤ 2147483647 := by
  unfold numP at h
  split at h
  · cases h
  · split at h
    · cases h
    · omega
theorem firstBad_zero : ∀ {l : List Int}, firstBad l = 0 → ∀ x ∈ l, 0 ≤ x ∧ x ≤ 2147483647
  | [], _, x, hx => by cases hx
  | y :: l, h, x, hx => by
    unfold firstBad at h
    split at h
    · rename_i h0
      rcases List.mem_cons.1 hx with rfl | hx
      · exact numP_zero h0
      · exact firstBad_zero h x hx
    · exact absurd h ‹_›
theorem inter_mem : ∀ {xs ys : List Int}, xs.length = ys.length → (∀ x ∈ xs, x ∈ inter xs ys) ∧ (∀ y ∈ ys, y ∈ inter xs ys)
  | [], [], _ => by simp
  | x :: xs, y :: ys, h => by
    obtain ⟨h1, h2⟩ := inter_mem (xs := xs) (ys := ys) (by simpa using h)
    simp only [inter]
    refine ⟨fun z hz => ?_, fun z hz => ?_⟩
    · rcases List.mem_cons.1 hz with rfl | hz
      · simp
      · simp [h1 z hz]
    · rcases List.mem_cons.1 hz with rfl | hz
      · simp
      · simp [h2 z hz]
  | [], _ :: _, h => by simp at h
  | _ :: _, [], h => by simp at h
structure KnapOk (i : InstP) : Prop where
  n1 : 1 ≤ i.n
  n2 : i.n ≤ 64
  w : (i.weight.length : Int) = i.n
  v : (i.value.length : Int) = i.n
  cap : 0 ≤ i.cap ∧ i.cap ≤ 2147483647
  sw : Small31 i.weight
  sv : Small31 i.value
  cost : i.cost = []
theorem knap_ok {i : InstP} (h : checkP i = 0) (hk : i.kind = 1) : KnapOk i := by
  unfold checkP at h
  by_cases hs : sizeP i.kind i.n = 0
  · rw [if_pos hs] at h
    by_cases hsh : shapeP i = true
    · rw [if_pos hsh, if_pos hk] at h
      unfold shapeP at hsh
      rw [if_pos hk] at hsh
      simp only [Bool.and_eq_true, beq_iff_eq] at hsh
      obtain ⟨⟨h1, h2⟩, h3⟩ := hsh
      unfold sizeP at hs
      rw [if_pos hk] at hs
      have hn : 1 ≤ i.n ∧ i.n ≤ 64 := by
        split at hs
        · cases hs
        · split at hs
          · cases hs
          · omega
      have hl : i.weight.length = i.value.length := by omega
      unfold itemsP at h
      rw [List.take_length, hl, List.take_length] at h
      have hb := firstBad_zero h
      obtain ⟨m1, m2⟩ := inter_mem hl
      exact ⟨hn.1, hn.2, h1, h2, hb _ (by simp), fun x hx => hb x (by simp [m1 x hx]), fun x hx => hb x (by simp [m2 x hx]), List.eq_nil_of_length_eq_zero (by omega)⟩
    · rw [if_neg hsh] at h
      cases h
  · rw [if_neg hs] at h
    exact absurd h hs
end Go.Proofs.YtleckhbmciiooaaDoor
namespace Go.Proofs.YtleckhbmciiooaaDoor
open Go.RowKit Go.ChangeShapes Go.WideShapes Go.ChangeAt Go.Deep

end Go.Proofs.YtleckhbmciiooaaDoor
namespace Go.Proofs.YtleckhbmciiooaaDoor
open Go.RowKit Go.ChangeShapes Go.WideShapes Go.ChangeAt Go.Deep

section
variable {ops : Array Oper} {i : Nat} {t : TypeId} {d : Option Tmp} {a : Act} {w : World} {K : Act → World → Prop} {Q : Exit → Act → World → Prop}
end
theorem RdI.mod {S : Nat → Prop} {w w' : World} {A : Option Addr} {xs : List Int} (h : RdI w A xs) (k : Mod S w w') (hb : ∀ b, bl A = some b → ¬ S b) : RdI w' A xs := by
  rcases h with rfl | ⟨b, off, rfl, hlt, hc⟩
  · exact .inl rfl
  · refine .inr ⟨b, off, rfl, Nat.lt_of_lt_of_le hlt k.size, fun j x hj => ?_⟩
    rw [← hc j x hj]
    exact World.cell?_of_block (k.block b hlt (hb b rfl))
end Go.Proofs.YtleckhbmciiooaaDoor
namespace Go.Proofs.YtleckhbmciiooaaDoor
open Go.RowKit Go.ChangeShapes Go.WideShapes Go.ChangeAt Go.Deep

section
variable {w w2 : World} {base g pn pc wc vc hc c' : Nat} {cap x : Int} {PA WA VA HA A' : Option Addr} {ws vs bs : List Int}
end
end Go.Proofs.YtleckhbmciiooaaDoor
namespace Go.Proofs.YtleckhbmciiooaaDoor

/-- what the rest of a tour costs -/
def pathT (rows : List (List Int)) : Nat → List Nat → Int
  | last, [] => costAt rows last 0
  | last, u :: q => costAt rows last u + pathT rows u q
end Go.Proofs.YtleckhbmciiooaaDoor
namespace Go.Proofs.YtleckhbmciiooaaDoor

/-- what is left of a round trip behind its first so many ways -/
def restW (co : List (List Int)) : List Nat → Int
  | [] => 0
  | u :: q => pathT co u q
theorem pathT_bd {rows : List (List Int)} (num : ∀ a b, a < rows.length → b < rows.length → 0 ≤ costAt rows a b ∧ costAt rows a b ≤ 2147483647) : ∀ (q : List Nat) (s : Nat), s < rows.length → (∀ x ∈ q, x < rows.length) → 0 ≤ pathT rows s q ∧ pathT rows s q ≤ 2147483647 * ((q.length : Int) + 1)
  | [], s, hs, _ => by have := num s 0 hs (by omega); simp only [pathT, List.length_nil]; omega
  | u :: q, s, hs, h => by
    have h1 := num s u hs (h u (by simp))
    have h2 := pathT_bd num q u (h u (by simp)) fun x hx => h x (by simp [hx])
    simp only [pathT, List.length_cons]
    omega
theorem intsN_at {l : List Nat} {k y : Nat} (h : l[k]? = some y) : (intsN l)[k]? = some (y : Int) := by simp [intsN, h]
end Go.Proofs.YtleckhbmciiooaaDoor
namespace Go.Proofs.YtleckhbmciiooaaDoor
open Go.RowKit Go.ChangeShapes Go.WideShapes Go.ChangeAt Go.Deep

end Go.Proofs.YtleckhbmciiooaaDoor
namespace Go.Proofs.YtleckhbmciiooaaDoor
open Go.RowKit Go.ChangeShapes Go.WideShapes Go.ChangeAt Go.Deep Go.Shelf
attribute [local go_sem] Oper.semAt_some

end Go.Proofs.YtleckhbmciiooaaDoor
namespace Go.Proofs.YtleckhbmciiooaaDoor
open Go.RowKit Go.ChangeShapes Go.WideShapes Go.ChangeAt Go.Deep Go.Shelf
attribute [local go_sem] Oper.semAt_some

end Go.Proofs.YtleckhbmciiooaaDoor
namespace Go.Proofs.YtleckhbmciiooaaDoor
open Go

section
variable {F : Fence} {n : Nat} {P : Program} {ops : Array Oper} {md : Region.Mode} {C : World → Prop}
end
end Go.Proofs.YtleckhbmciiooaaDoor
namespace Go.Proofs.YtleckhbmciiooaaDoor
open Go.RowKit Go.ChangeShapes Go.WideShapes Go.ChangeAt Go.Deep Go.Shelf
attribute [local go_sem] Oper.semAt_some

end Go.Proofs.YtleckhbmciiooaaDoor
namespace Go.Proofs.YtleckhbmciiooaaDoor
open Go.RowKit Go.ChangeShapes Go.WideShapes Go.ChangeAt Go.Deep Go.Shelf

theorem RowsO.drop {w : World} {base : Nat} {us : List Value} {rows : List (List Int)} (h : RowsO w base us rows) (k : Nat) : RowsO w base (us.drop k) (rows.drop k) := by
  refine ⟨by rw [List.length_drop, List.length_drop, h.1], fun i r hr => ?_⟩
  rw [List.getElem?_drop] at hr
  obtain ⟨A, c, h1, h2⟩ := h.2 (k + i) r hr
  exact ⟨A, c, by rw [List.getElem?_drop]; exact h1, h2⟩
end Go.Proofs.YtleckhbmciiooaaDoor
namespace Go.Proofs.YtleckhbmciiooaaDoor
open Go.RowKit Go.ChangeShapes Go.WideShapes Go.ChangeAt Go.Deep

end Go.Proofs.YtleckhbmciiooaaDoor
namespace Go.Proofs.YtleckhbmciiooaaDoor
open Go.RowKit Go.ChangeShapes Go.WideShapes Go.ChangeAt Go.Deep

theorem Mod.heap {g : Nat} {w w' : World} (h : Mod (fun k => k = g) w w') {a : World} (x : Ext a w) (hg : a.heap.size ≤ g) : Ext a w' := x.mod h fun k hk e => by omega
end Go.Proofs.YtleckhbmciiooaaDoor
namespace Go.Proofs.YtleckhbmciiooaaDoor
open Go.RowKit Go.ChangeShapes Go.WideShapes Go.ChangeAt Go.Deep

end Go.Proofs.YtleckhbmciiooaaDoor
namespace Go.Proofs.YtleckhbmciiooaaDoor
open Go.RowKit Go.ChangeShapes Go.WideShapes Go.ChangeAt Go.Deep

theorem sumL_map_bd {f : Nat → Int} {B : Int} : ∀ (l : List Nat), (∀ x ∈ l, 0 ≤ f x ∧ f x ≤ B) → 0 ≤ sumL (l.map f) ∧ sumL (l.map f) ≤ B * (l.length : Int)
  | [], _ => by simp [sumL]
  | x :: l, h => by
    have h1 := h x (by simp)
    have h2 := sumL_map_bd l fun y hy => h y (by simp [hy])
    have h3 : B * ((l.length : Int) + 1) = B * (l.length : Int) + B := by rw [Int.mul_add, Int.mul_one]
    simp only [List.map_cons, sumL, List.length_cons, Int.natCast_add, Int.natCast_one]
    omega
section
variable {rows : List (List Int)} {us : List Nat} {last : Nat}
end
end Go.Proofs.YtleckhbmciiooaaDoor
namespace Go.Proofs.YtleckhbmciiooaaDoor
open Go.RowKit Go.ChangeShapes Go.WideShapes Go.ChangeAt Go.Deep

theorem check_kind {i : InstP} (h : checkP i = 0) : i.kind = 1 ∨ i.kind = 2 ∨ i.kind = 3 := by
  unfold checkP at h
  by_cases hs : sizeP i.kind i.n = 0
  · exact sizeP_kind hs
  · rw [if_neg hs] at h
    exact absurd h hs
end Go.Proofs.YtleckhbmciiooaaDoor
namespace Go.Proofs.YtleckhbmciiooaaDoor
open Go.RowKit Go.ChangeShapes Go.WideShapes Go.ChangeAt Go.Deep

/-- what an answer costs, or why it is none -/
def costG (i : InstP) (x : List Int) : Int × Int :=
  if checkP i ≠ 0 then (0, checkP i)
  else if i.kind = 1 then (if (x.length : Int) = i.n ∧ ∀ v ∈ x, v = 0 ∨ v = 1 then costP i.cap i.weight i.value x else (0, 1))
  else if permB x i.cost.length = true ∧ (i.kind = 3 → x[0]? = some 0) then (if i.kind = 2 then costF i.cost x else pathT i.cost 0 (x.tail.map Int.toNat), 0) else (0, 1)
end Go.Proofs.YtleckhbmciiooaaDoor
namespace Go.Proofs.YtleckhbmciiooaaDoor
open Go.RowKit Go.ChangeShapes Go.WideShapes Go.ChangeAt Go.Deep

set_option maxRecDepth 100000 in
set_option maxHeartbeats 4000000 in
theorem shape0g_any (k n cap : Int) (A B C : Option Addr) (a b c : Nat) (xs ys : List Int) (l : List (List Int)) (w : World) (hk : k ≠ 1) (hC : RdE 1 RInts w C l) (lc : l.length ≤ c) (mc : c ≤ maxLen) (lx : xs.length ≤ maxLen) (ly : ys.length ≤ maxLen) (lxy : xs.length + ys.length ≤ maxLen) :
    Calls Tryd.prog 40 #[.agg #[.int .i64 k, .int .i64 n, .int .i64 cap, .slice A xs.length a, .slice B ys.length b, .slice C l.length c]] w fun e w' => e = .returned (.bool ((((l.length : Int) == n) && (cap == 0) && decide (xs.length + ys.length = 0)) && !(l.any fun r => (r.length : Int) != n))) ∧ Ext w w' := by
  have B1 : Hid (Blk (w.alloc (.cells #[.int .i64 k, .int .i64 n, .int .i64 cap, .slice A xs.length a, .slice B ys.length b, .slice C l.length c] 25)) w.heap.size 25 #[.int .i64 k, .int .i64 n, .int .i64 cap, .slice A xs.length a, .slice B ys.length b, .slice C l.length c]) := .new rfl
  have hk' : (k == 1) = false := by simpa using hk
  have lm : l.length ≤ maxLen := by omega
  replace hC := Lib.hid hC
  replace mc := Lib.hid mc
  replace lm := Lib.hid lm
  clear hk
  cases h1 : ((l.length : Int) == n)
  · have h1' : ((l.length : Int) != n) = true := by simp only [bne, h1]; rfl
    go_enter Tryd.func40, Tryd.ntmps40
    go_wp2
    go_ret
    exact ⟨rfl, by (repeat (first | assumption | exact Ext.rf _ | apply Ext.drew | apply Ext.drewN | apply Ext.alloc))⟩
  · have h1' : ((l.length : Int) != n) = false := by simp only [bne, h1]; rfl
    cases h2 : (cap == 0)
    · have h2' : (cap != 0) = true := by simp only [bne, h2]; rfl
      go_enter Tryd.func40, Tryd.ntmps40
      go_wp2
      go_ret
      exact ⟨rfl, by (repeat (first | assumption | exact Ext.rf _ | apply Ext.drew | apply Ext.drewN | apply Ext.alloc))⟩
    · have h2' : (cap != 0) = false := by simp only [bne, h2]; rfl
      by_cases hs : xs.length + ys.length = 0
      · have hs1 : decide (xs.length + ys.length = 0) = true := by simpa using hs
        rw [hs1]
        have l0 : xs.length = 0 := by omega
        have l1 : ys.length = 0 := by omega
        rw [l0, l1] at B1 ⊢
        clear hs hs1 l0 l1 lx ly lxy
        go_enter Tryd.func40, Tryd.ntmps40
        go_wp2_with (fail)
        refine (has_rows _ _ (fun m => (m : Int) != n) lens_enters C c l _ (hC.out.ext ((Ext.rf _).alloc _) fun _ _ h => h.ext ((Ext.rf _).alloc _)) lm.out ?_).mono ?_
        · intro W D r d _ hx
          exact lens_any D r.length d w.heap.size n _ W (B1.out.ext hx) rfl
        rintro e w' ⟨rfl, x'⟩
        go_wp2
        go_ret
        exact ⟨by simp, Ext.tr (a := w) (by (repeat (first | assumption | exact Ext.rf _ | apply Ext.drew | apply Ext.drewN | apply Ext.alloc))) x'⟩
      · have hs1 : decide (xs.length + ys.length = 0) = false := by simpa using hs
        rw [hs1]
        have hs2 : (0 : Int) < (xs.length : Int) + (ys.length : Int) := by omega
        have hs3 : IntKind.i64.wrap ((xs.length : Int) + (ys.length : Int)) = (xs.length : Int) + (ys.length : Int) := IntWalk.i64_in _ (by simp only [maxLen] at lxy; omega)
        clear hs hs1
        go_enter Tryd.func40, Tryd.ntmps40
        go_wp2
        go_ret
        exact ⟨rfl, by (repeat (first | assumption | exact Ext.rf _ | apply Ext.drew | apply Ext.drewN | apply Ext.alloc))⟩
set_option maxRecDepth 100000 in
set_option maxHeartbeats 4000000 in
theorem check_gen (i : InstP) (vs : List Value) (w : World) (H : RInst w vs i) (lw : i.weight.length ≤ maxLen) (lv : i.value.length ≤ maxLen) (lwv : i.weight.length + i.value.length ≤ maxLen) :
    Calls Tryd.prog 13 #[.agg (List.toArray vs)] w fun e w' => e = .returned (.int .i64 (checkP i)) ∧ Ext w w' := by
  obtain ⟨k, n, cap, xs, ys, l⟩ := i
  obtain ⟨A, a, B, b, C, c, rfl, ⟨rA, iA, lA, mA⟩, ⟨rB, iB, lB, mB⟩, ⟨rC, lC, mC⟩⟩ := H
  simp only at *
  have B1 : Hid (Blk (w.alloc (.cells #[.int .i64 k, .int .i64 n, .int .i64 cap, .slice A xs.length a, .slice B ys.length b, .slice C l.length c] 25)) w.heap.size 25 #[.int .i64 k, .int .i64 n, .int .i64 cap, .slice A xs.length a, .slice B ys.length b, .slice C l.length c]) := .new rfl
  replace rA := Lib.hid rA
  replace rB := Lib.hid rB
  replace rC := Lib.hid rC
  replace iA := Lib.hid iA
  replace iB := Lib.hid iB
  replace mA := Lib.hid mA
  replace mB := Lib.hid mB
  replace mC := Lib.hid mC
  have X1 : Ext w (w.alloc (.cells #[.int .i64 k, .int .i64 n, .int .i64 cap, .slice A xs.length a, .slice B ys.length b, .slice C l.length c] 25)) := (Ext.rf _).alloc _
  replace X1 := Lib.hid X1
  go_enter Tryd.func13, Tryd.ntmps13
  go_wp2_with (fail)
  refine (size_any k n cap _ _ _ _).mono ?_
  rintro e w2 ⟨rfl, x2⟩
  have X2 := Lib.hid (Ext.tr X1.out x2)
  have B2 := Lib.hid (B1.out.ext x2)
  have d0 : w2.cell? ⟨w.heap.size, 0, none⟩ = some (.int .i64 k) := B2.out.cell 0
  have d1 : w2.cell? ⟨w.heap.size, 1, none⟩ = some (.int .i64 n) := B2.out.cell 1
  have d2 : w2.cell? ⟨w.heap.size, 2, none⟩ = some (.int .i64 cap) := B2.out.cell 2
  have d3 : w2.cell? ⟨w.heap.size, 3, none⟩ = some (.slice A xs.length a) := B2.out.cell 3
  have d4 : w2.cell? ⟨w.heap.size, 4, none⟩ = some (.slice B ys.length b) := B2.out.cell 4
  have d5 : w2.cell? ⟨w.heap.size, 5, none⟩ = some (.slice C l.length c) := B2.out.cell 5
  by_cases hs : sizeP k n = 0
  · have hs' : (sizeP k n != 0) = false := by simpa using hs
    have qHS : checkP ⟨k, n, cap, xs, ys, l⟩ = (if shapeP ⟨k, n, cap, xs, ys, l⟩ = true then (if k = 1 then itemsP cap xs ys xs.length else rowsE k 0 l) else 8) := by
      unfold checkP
      simp only [if_pos hs]
    have HS := Lib.hid qHS
    clear qHS
    have kk := sizeP_kind hs
    replace hs := Lib.hid hs
    clear x2
    by_cases k1 : k = 1
    · subst k1
      have qHS2 : checkP ⟨1, n, cap, xs, ys, l⟩ = (if (((xs.length : Int) == n) && ((ys.length : Int) == n) && ((l.length : Int) == 0)) = true then itemsP cap xs ys xs.length else 8) := by
        have h1 := HS.out
        unfold shapeP at h1
        simpa only [if_true] using h1
      have HS2 := Lib.hid qHS2
      clear qHS2
      clear HS
      go_wp2_with (fail)
      refine (shape1_any n cap A B C a b c xs ys l _).mono ?_
      rintro e w3 ⟨rfl, x3⟩
      have X3 := Lib.hid (Ext.tr X2.out x3)
      have B3 := Lib.hid (B2.out.ext x3)
      have e0 : w3.cell? ⟨w.heap.size, 0, none⟩ = some (.int .i64 1) := B3.out.cell 0
      have e1 : w3.cell? ⟨w.heap.size, 1, none⟩ = some (.int .i64 n) := B3.out.cell 1
      have e2 : w3.cell? ⟨w.heap.size, 2, none⟩ = some (.int .i64 cap) := B3.out.cell 2
      have e3 : w3.cell? ⟨w.heap.size, 3, none⟩ = some (.slice A xs.length a) := B3.out.cell 3
      have e4 : w3.cell? ⟨w.heap.size, 4, none⟩ = some (.slice B ys.length b) := B3.out.cell 4
      have e5 : w3.cell? ⟨w.heap.size, 5, none⟩ = some (.slice C l.length c) := B3.out.cell 5
      clear d0 d1 d2 d3 d4 d5 x3 kk
      cases hh : (((xs.length : Int) == n) && ((ys.length : Int) == n) && ((l.length : Int) == 0)) with
      | false =>
        have qHC : checkP ⟨1, n, cap, xs, ys, l⟩ = 8 := by
          have h1 := HS2.out
          rw [hh, if_neg (by decide)] at h1
          exact h1
        have HC := Lib.hid qHC
        clear qHC
        clear hh
        go_wp2
        go_ret
        exact ⟨ret_i HC.out.symm, X3.out⟩
      | true =>
        have qHC : checkP ⟨1, n, cap, xs, ys, l⟩ = itemsP cap xs ys xs.length := by
          have h1 := HS2.out
          rw [hh, if_pos rfl] at h1
          exact h1
        have HC := Lib.hid qHC
        clear qHC
        simp only [Bool.and_eq_true, beq_iff_eq] at hh
        obtain ⟨⟨rfl, hy⟩, hz⟩ := hh
        clear HS2
        have hyx : Hid (xs.length = ys.length) := by have : xs.length = ys.length := by omega
                                                     exact this
        clear hy hz
        go_wp2_with (fail)
        refine (items_any A B a b 1 cap xs ys _ _ (rA.out.ext X3.out) (rB.out.ext X3.out) lA mA.out lB mB.out hyx.out).mono ?_
        rintro e w4 ⟨rfl, x4⟩
        go_wp2
        go_ret
        exact ⟨ret_i HC.out.symm, Ext.tr X3.out x4⟩
    · have k1' : (k == 1) = false := by simpa using k1
      have qHS2 : checkP ⟨k, n, cap, xs, ys, l⟩ = (if ((((l.length : Int) == n) && (cap == 0) && decide (xs.length + ys.length = 0)) && !(l.any fun r => (r.length : Int) != n)) = true then rowsE k 0 l else 8) := by
        have h1 := HS.out
        unfold shapeP at h1
        simpa only [if_neg k1] using h1
      have HS2 := Lib.hid qHS2
      clear qHS2
      clear HS
      go_wp2_with (fail)
      refine (shape0g_any k n cap A B C a b c xs ys l _ k1 (rC.out.ext X2.out fun _ _ h => h.ext X2.out) lC mC.out lw lv lwv).mono ?_
      rintro e w3 ⟨rfl, x3⟩
      have X3 := Lib.hid (Ext.tr X2.out x3)
      have B3 := Lib.hid (B2.out.ext x3)
      have e0 : w3.cell? ⟨w.heap.size, 0, none⟩ = some (.int .i64 k) := B3.out.cell 0
      have e1 : w3.cell? ⟨w.heap.size, 1, none⟩ = some (.int .i64 n) := B3.out.cell 1
      have e2 : w3.cell? ⟨w.heap.size, 2, none⟩ = some (.int .i64 cap) := B3.out.cell 2
      have e3 : w3.cell? ⟨w.heap.size, 3, none⟩ = some (.slice A xs.length a) := B3.out.cell 3
      have e4 : w3.cell? ⟨w.heap.size, 4, none⟩ = some (.slice B ys.length b) := B3.out.cell 4
      have e5 : w3.cell? ⟨w.heap.size, 5, none⟩ = some (.slice C l.length c) := B3.out.cell 5
      clear d0 d1 d2 d3 d4 d5 x3 kk k1
      generalize ((((l.length : Int) == n) && (cap == 0) && decide (xs.length + ys.length = 0)) && !(l.any fun r => (r.length : Int) != n)) = hh at HS2 ⊢
      cases hh with
      | false =>
        have HC : Hid (checkP ⟨k, n, cap, xs, ys, l⟩ = 8) := HS2.out
        clear HS2
        go_wp2
        go_ret
        exact ⟨ret_i HC.out.symm, X3.out⟩
      | true =>
        have HC : Hid (checkP ⟨k, n, cap, xs, ys, l⟩ = rowsE k 0 l) := HS2.out
        clear HS2
        go_wp2_with (fail)
        refine (rows_any k n cap _ _ C c l _ (rC.out.ext X3.out fun _ _ h => h.ext X3.out) lC mC.out).mono ?_
        rintro e w4 ⟨rfl, x4⟩
        go_wp2
        go_ret
        exact ⟨ret_i HC.out.symm, Ext.tr X3.out x4⟩
  · have hs' : (sizeP k n != 0) = true := by simpa using hs
    have qHC : checkP ⟨k, n, cap, xs, ys, l⟩ = sizeP k n := by
      unfold checkP
      simp only [if_neg hs]
    have HC := Lib.hid qHC
    clear qHC
    clear hs
    go_wp2
    go_ret
    exact ⟨ret_i HC.out.symm, X2.out⟩
end Go.Proofs.YtleckhbmciiooaaDoor
namespace Go.Proofs.YtleckhbmciiooaaDoor
open Go.RowKit Go.ChangeShapes Go.WideShapes Go.ChangeAt Go.Deep

set_option maxRecDepth 100000 in
set_option maxHeartbeats 4000000 in
theorem vcost3_any (i : InstP) (us : List Value) (P : Option Addr) (c : Nat) (q : List Nat) (w : World) (H : RInst w us i) (hc : checkP i = 0) (hk : i.kind = 3) (hP : RdI w P (intsN (0 :: q))) (hl : (0 :: q).Perm (List.range i.cost.length)) :
    Calls Tryd.prog 75 #[.agg (List.toArray us), .slice P i.cost.length c] w fun e w' => e = .returned (.tuple #[.int .i64 (pathT i.cost 0 q), .int .i64 0]) ∧ Ext w w' := by
  have sq := square_ok hc (by omega)
  have rok := rows_ok sq
  have CH := fun (W : World) (x : Ext w W) => check_any i us W (H.ext x) (by rw [sq.w]; simp) (by rw [sq.v]; simp)
  have OY := fun (W : World) (x : Ext w W) => order_yes P c i.cost.length (0 :: q) hl (by have := rok.n2; omega) W (hP.ext x)
  rw [hc] at CH
  have hnn : i.n = (i.cost.length : Int) := sq.len.symm
  have hlt : Hid (∀ x ∈ 0 :: q, x < i.cost.length) := fun x hx => List.mem_range.1 (hl.mem_iff.1 hx)
  have hlen : Hid ((0 :: q).length = i.cost.length) := by
    have h : (0 :: q).length = i.cost.length := by rw [hl.length_eq, List.length_range]
    exact h
  have n24 := rok.n2
  have n1 := rok.n1
  clear hl hc sq
  obtain ⟨kind, nn, cap, xw, xv, co⟩ := i
  obtain ⟨A, a, B, b, D, d, rfl, -, -, hC, -⟩ := H
  simp only at *
  subst hk hnn
  obtain ⟨cb, cof, _, _, _, rfl, _, _⟩ := cost_at rok hC (r := 0) (c := 0) (by omega) (by omega)
  have num := ends_num rok
  have CA := Lib.hid (fun (W : World) (x : Ext w W) (r c : Nat) (hr : r < co.length) (hc : c < co.length) => cost_in rok (hC.ext x fun _ _ h => h.ext x) hr hc)
  obtain ⟨tot, htot⟩ : ∃ tot, Hid (pathT co 0 q = tot) := ⟨_, rfl⟩
  rw [htot.out]
  have bt : 0 ≤ tot ∧ tot ≤ 2147483647 * 24 := by
    have h1 := pathT_bd num q 0 (by omega) fun x hx => hlt.out x (by simp [hx])
    have h2 := hlen.out
    rw [List.length_cons] at h2
    rw [htot.out] at h1
    omega
  have START : Hid ((0 : Int) + restW co ((0 :: q).drop 0) = tot) := by
    have h : (0 : Int) + restW co ((0 :: q).drop 0) = tot := by rw [← htot.out]; simp [restW]
    exact h
  obtain ⟨l, hll⟩ : ∃ l, Hid (0 :: q = l) := ⟨_, rfl⟩
  have h00 : Hid (l[0]? = some 0) := by
    have h : l[0]? = some 0 := by rw [← hll.out]; rfl
    exact h
  rw [hll.out] at hP hlt hlen START
  obtain ⟨pb, po, x0, rfl, zp0, cp0, ep0, _⟩ := hP.at (k := 0) (by rw [intsN_len, hlen.out]; omega)
  obtain rfl : x0 = 0 := by
    have h := ep0.out
    rw [intsN_at h00.out] at h
    exact (Option.some.inj h).symm
  replace cp0 : w.cell? ⟨pb, po, none⟩ = some (.int .i64 0) := cp0
  have DR : Hid (∀ k, k < co.length → ∃ u, l[k]? = some u ∧ u < co.length ∧ l.drop k = u :: l.drop (k + 1)) := fun k hk => by
    have h : k < l.length := by rw [hlen.out]; exact hk
    exact ⟨l[k], List.getElem?_eq_getElem h, hlt.out _ (List.getElem_mem h), List.drop_eq_getElem_cons h⟩
  replace CH := Lib.hid CH
  replace OY := Lib.hid OY
  replace hP := Lib.hid hP
  replace hC := Lib.hid hC
  replace rok := Lib.hid rok
  replace num := Lib.hid num
  have B1 : Hid (Blk (w.alloc (.cells #[.int .i64 3, .int .i64 co.length, .int .i64 cap, .slice A xw.length a, .slice B xv.length b, .slice (some ⟨cb, cof, none⟩) co.length d] 25)) w.heap.size 25 #[.int .i64 3, .int .i64 co.length, .int .i64 cap, .slice A xw.length a, .slice B xv.length b, .slice (some ⟨cb, cof, none⟩) co.length d]) := .new rfl
  have q00 : (0 : Int) < (co.length : Int) := by omega
  clear ep0
  go_enter Tryd.func75, Tryd.ntmps75
  go_wp2_with (fail)
  refine (CH.out _ (by (repeat (first | assumption | exact Ext.rf _ | apply Ext.drew | apply Ext.drewN | apply Ext.alloc)))).mono ?_
  rintro e w1 ⟨rfl, x1⟩
  have X1 := Lib.hid (Ext.tr (a := w) (by (repeat (first | assumption | exact Ext.rf _ | apply Ext.drew | apply Ext.drewN | apply Ext.alloc))) x1)
  have b1 := Lib.hid (B1.out.ext x1)
  have t0 : w1.cell? ⟨w.heap.size, 0, none⟩ = some (.int .i64 3) := b1.out.cell 0
  have t1 : w1.cell? ⟨w.heap.size, 1, none⟩ = some (.int .i64 co.length) := b1.out.cell 1
  clear x1 B1
  go_wp2_with (fail)
  refine (OY.out _ (X1.out.tr (by (repeat (first | assumption | exact Ext.rf _ | apply Ext.drew | apply Ext.drewN | apply Ext.alloc))))).mono ?_
  rintro e w2 ⟨rfl, x2⟩
  have X2 := Lib.hid (X1.out.tr (Ext.tr (by (repeat (first | assumption | exact Ext.rf _ | apply Ext.drew | apply Ext.drewN | apply Ext.alloc))) x2))
  have BC := Lib.hid (b1.out.ext (Ext.tr (by (repeat (first | assumption | exact Ext.rf _ | apply Ext.drew | apply Ext.drewN | apply Ext.alloc))) x2))
  have s0 : w2.cell? ⟨w.heap.size, 0, none⟩ = some (.int .i64 3) := BC.out.cell 0
  have e2 : w2.cell? ⟨pb, po, none⟩ = some (.int .i64 0) := keepEL X2.out zp0 cp0
  clear x2 b1 X1 t0 t1
  go_wp2_with (fail)
  go_loopw [7, 44] (fun s v wr => ∃ (k : Nat) (su : Int), v = .int .i64 k ∧ s = .int .i64 su ∧ k ≤ co.length ∧ Hid (0 ≤ su ∧ su + restW co (l.drop k) = tot) ∧ Hid (Ext w2 wr)) (fun _ v _ => co.length - (intOf v).toNat)
  case atStart => exact ⟨0, 0, rfl, rfl, by omega, by exact (show (0 : Int) ≤ 0 ∧ (0 : Int) + restW co (l.drop 0) = tot from ⟨by omega, START.out⟩), Ext.rf _⟩
  case round =>
    clear s0
    obtain ⟨wo, rfl⟩ : ∃ wo : World, wo = wr := ⟨_, rfl⟩
    obtain ⟨k, su, rfl, rfl, hk, HS, Y⟩ := hrel
    have s0 : wo.cell? ⟨w.heap.size, 0, none⟩ = some (.int .i64 3) := (BC.out.ext Y.out).cell 0
    have d1 : wo.cell? ⟨w.heap.size, 1, none⟩ = some (.int .i64 co.length) := (BC.out.ext Y.out).cell 1
    have d5 : wo.cell? ⟨w.heap.size, 5, none⟩ = some (.slice (some ⟨cb, cof, none⟩) co.length d) := (BC.out.ext Y.out).cell 5
    have XW := Lib.hid (X2.out.tr Y.out)
    clear e2 START
    by_cases hkl : k < co.length
    · obtain ⟨u, ek, hun, edr⟩ := DR.out k hkl
      obtain ⟨pb', po', xu, hPq, zpk, cpk, epk, _⟩ := (hP.out.ext XW.out).at (k := k) (by rw [intsN_len, hlen.out]; exact hkl)
      obtain ⟨rfl, rfl⟩ : pb = pb' ∧ po = po' := by simpa using hPq
      obtain rfl : xu = (u : Int) := by
        have h := epk.out
        rw [intsN_at ek] at h
        exact (Option.some.inj h).symm
      have HS1 := HS.out
      rw [edr] at HS1
      have q1 : (k : Int) < (co.length : Int) := by omega
      have q2 : (u : Int) < (co.length : Int) := by omega
      have hw0 : IntKind.i64.wrap ((k : Int) + 1) = (k : Int) + 1 := IntWalk.i64_in _ (by omega)
      clear ek edr hPq epk HS
      by_cases hlast : k + 1 = co.length
      · have e1 : l.drop (k + 1) = [] := List.drop_of_length_le (by rw [hlen.out]; omega)
        rw [e1] at HS1
        obtain ⟨rb, ro, d', c1, c2⟩ := CA.out _ XW.out u 0 hun (by omega)
        have nu := num.out u 0 hun (by omega)
        obtain ⟨y, hy⟩ : ∃ y, Hid (costAt co u 0 = y) := ⟨_, rfl⟩
        simp only [restW, pathT] at HS1
        rw [hy.out] at c2 nu HS1
        replace c2 : wo.cell? ⟨rb, ro, none⟩ = some (.int .i64 y) := c2
        have hrem : ((k : Int) + 1).tmod (co.length : Int) = 0 := by
          have h : (k : Int) + 1 = (co.length : Int) := by omega
          rw [h, Int.tmod_self]
        have hw1 : IntKind.i64.wrap 0 = 0 := IntWalk.i64_in _ (by omega)
        have hw : IntKind.i64.wrap (su + y) = su + y := IntWalk.i64_in _ (by omega)
        have p0 : wo.cell? ⟨pb, po, none⟩ = some (.int .i64 0) := keepEL XW.out zp0 cp0
        have NEW : Hid (0 ≤ su + y ∧ su + y + restW co (l.drop (k + 1)) = tot) := by
          have h : 0 ≤ su + y ∧ su + y + restW co (l.drop (k + 1)) = tot := by
            rw [e1]
            simp only [restW]
            omega
          exact h
        have hnz : ((co.length : Int) == 0) = false := by rw [beq_eq_false_iff_ne]; omega
        clear HS1 e1
        replace hlast := Lib.hid hlast
        go_wp2_with (fail)
        go_quiet (fail)
        go_wp2_with (fail)
        go_roundw
        case rel => exact ⟨k + 1, su + y, by go_num, rfl, by omega, NEW, Y.out.drewN _⟩
        case measure => simp [intOf]; omega
      · have hk1 : k + 1 < co.length := by omega
        obtain ⟨v, ek1, hvn, edr1⟩ := DR.out (k + 1) hk1
        obtain ⟨pb', po', xu, hPq, zpk1, cpk1, epk1, _⟩ := (hP.out.ext XW.out).at (k := k + 1) (by rw [intsN_len, hlen.out]; exact hk1)
        obtain ⟨rfl, rfl⟩ : pb = pb' ∧ po = po' := by simpa using hPq
        obtain rfl : xu = (v : Int) := by
          have h := epk1.out
          rw [intsN_at ek1] at h
          exact (Option.some.inj h).symm
        rw [edr1] at HS1
        obtain ⟨rb, ro, d', c1, c2⟩ := CA.out _ XW.out u v hun hvn
        have nu := num.out u v hun hvn
        obtain ⟨y, hy⟩ : ∃ y, Hid (costAt co u v = y) := ⟨_, rfl⟩
        simp only [restW, pathT] at HS1
        rw [hy.out] at c2 nu HS1
        have hpp := (pathT_bd num.out (l.drop (k + 1 + 1)) v hvn fun x hx => hlt.out x (List.mem_of_mem_drop hx)).1
        have hrem : ((k : Int) + 1).tmod (co.length : Int) = ((k + 1 : Nat) : Int) := by
          rw [Int.tmod_eq_emod_of_nonneg (by omega), Int.emod_eq_of_lt (by omega) (by omega)]
          omega
        have hw1 : IntKind.i64.wrap ((k + 1 : Nat) : Int) = ((k + 1 : Nat) : Int) := IntWalk.i64_in _ (by omega)
        have hw : IntKind.i64.wrap (su + y) = su + y := IntWalk.i64_in _ (by omega)
        have NEW : Hid (0 ≤ su + y ∧ su + y + restW co (l.drop (k + 1)) = tot) := by
          have h : 0 ≤ su + y ∧ su + y + restW co (l.drop (k + 1)) = tot := by
            rw [edr1]
            simp only [restW]
            omega
          exact h
        have q3 : (v : Int) < (co.length : Int) := by omega
        have q4 : ((k + 1 : Nat) : Int) < (co.length : Int) := by omega
        have hnz : ((co.length : Int) == 0) = false := by rw [beq_eq_false_iff_ne]; omega
        clear HS1 edr1 ek1 hPq epk1 hpp
        replace hlast := Lib.hid hlast
        go_wp2_with (fail)
        go_quiet (fail)
        go_wp2_with (fail)
        go_roundw
        case rel => exact ⟨k + 1, su + y, by go_num, rfl, by omega, NEW, Y.out.drewN _⟩
        case measure => simp [intOf]; omega
    · have q1 : ¬ (k : Int) < (co.length : Int) := by omega
      have HS2 : Hid (su = tot) := by
        have h := HS.out.2
        rw [List.drop_of_length_le (by rw [hlen.out]; omega)] at h
        simp only [restW] at h
        have h2 : su = tot := by omega
        exact h2
      go_wp2_with (fail)
      go_ret2
      rw [HS2.out]
      exact ⟨rfl, XW.out⟩
end Go.Proofs.YtleckhbmciiooaaDoor
namespace Go.Proofs.YtleckhbmciiooaaDoor
open Go.RowKit Go.ChangeShapes Go.WideShapes Go.ChangeAt Go.Deep

set_option maxRecDepth 100000 in
set_option maxHeartbeats 4000000 in
theorem vknap_gen (i : InstP) (us : List Value) (P : Option Addr) (c : Nat) (x : List Int) (w : World) (H : RInst w us i) (hc : checkP i = 0) (hk : i.kind = 1) (hP : RdI w P x) (lx : (x.length : Int) = i.n) :
    Calls Tryd.prog 100 #[.agg (List.toArray us), .slice P x.length c] w fun e w' => e = .returned (.tuple #[.int .i64 (if ∀ v ∈ x, v = 0 ∨ v = 1 then costP i.cap i.weight i.value x else (0, 1)).1, .int .i64 (if ∀ v ∈ x, v = 0 ∨ v = 1 then costP i.cap i.weight i.value x else (0, 1)).2]) ∧ Ext w w' := by
  have ok := knap_ok hc hk
  have k1 := ok.n1
  have k2 := ok.n2
  have k3 := ok.w
  have k4 := ok.v
  have k5 := ok.cap
  have k6 := Lib.hid ok.sw
  have k7 := Lib.hid ok.sv
  clear ok hc
  obtain ⟨kind, nn, cap, xw, xv, co⟩ := i
  obtain ⟨A, a, B, b, D, d, rfl, ⟨rA, iA, lA, mA⟩, ⟨rB, iB, lB, mB⟩, -⟩ := H
  simp only at *
  subst hk
  obtain ⟨n, rfl⟩ : ∃ n : Nat, nn = (n : Int) := ⟨nn.toNat, by omega⟩
  have lxn : x.length = n := by omega
  have lwn : xw.length = n := by omega
  have lvn : xv.length = n := by omega
  have hn2 : n ≤ 64 := by omega
  replace lwn := Lib.hid lwn
  replace lvn := Lib.hid lvn
  replace lxn := Lib.hid lxn
  clear lx k3 k4
  have W1 : ∀ k v u, x[k]? = some v → xw[k]? = some u → takenL (x.take (k + 1)) xw = takenL (x.take k) xw + if v = 1 then u else 0 := fun k v u h1 h2 => sumZip_take _ k x xw h1 h2
  have V1 : ∀ k v u, x[k]? = some v → xv[k]? = some u → leftL (x.take (k + 1)) xv = leftL (x.take k) xv + if v = 1 then 0 else u := fun k v u h1 h2 => sumZip_take _ k x xv h1 h2
  replace W1 := Lib.hid W1
  replace V1 := Lib.hid V1
  replace rA := Lib.hid rA
  replace rB := Lib.hid rB
  replace hP := Lib.hid hP
  replace mA := Lib.hid mA
  replace mB := Lib.hid mB
  replace iA := Lib.hid iA
  replace iB := Lib.hid iB
  have B1 : Hid (Blk (w.alloc (.cells #[.int .i64 1, .int .i64 n, .int .i64 cap, .slice A xw.length a, .slice B xv.length b, .slice D co.length d] 25)) w.heap.size 25 #[.int .i64 1, .int .i64 n, .int .i64 cap, .slice A xw.length a, .slice B xv.length b, .slice D co.length d]) := .new rfl
  have lz := List.take_length (l := x)
  have bW : ∀ k, k ≤ n → 0 ≤ takenL (x.take k) xw ∧ takenL (x.take k) xw ≤ 2147483647 * (k : Int) := by
    intro k
    induction k with
    | zero => intro _; simp [takenL, sumL]
    | succ k ih =>
      intro hk
      have h0 := ih (by omega)
      have h8 : k < x.length := by rw [lxn.out]; omega
      have e1 : x[k]? = some x[k] := List.getElem?_eq_getElem h8
      have h9 : k < xw.length := by rw [lwn.out]; omega
      have e2 : xw[k]? = some xw[k] := List.getElem?_eq_getElem h9
      have h1 := W1.out k _ _ e1 e2
      have h2 := k6.out.get e2
      rw [h1]
      split <;> omega
  have bV : ∀ k, k ≤ n → 0 ≤ leftL (x.take k) xv ∧ leftL (x.take k) xv ≤ 2147483647 * (k : Int) := by
    intro k
    induction k with
    | zero => intro _; simp [leftL, sumL]
    | succ k ih =>
      intro hk
      have h0 := ih (by omega)
      have h8 : k < x.length := by rw [lxn.out]; omega
      have e1 : x[k]? = some x[k] := List.getElem?_eq_getElem h8
      have h9 : k < xv.length := by rw [lvn.out]; omega
      have e2 : xv[k]? = some xv[k] := List.getElem?_eq_getElem h9
      have h1 := V1.out k _ _ e1 e2
      have h2 := k7.out.get e2
      rw [h1]
      split <;> omega
  replace bW := Lib.hid bW
  replace bV := Lib.hid bV
  clear lz
  have BAD : Hid (∀ y, y ∈ x → ¬ (y = 0 ∨ y = 1) → (if ∀ v ∈ x, v = 0 ∨ v = 1 then costP cap xw xv x else (0, 1)) = (0, 1)) := fun y hy h => if_neg fun h9 => h (h9 y hy)
  have YES : Hid ((∀ v ∈ x, v = 0 ∨ v = 1) → (if ∀ v ∈ x, v = 0 ∨ v = 1 then costP cap xw xv x else (0, 1)) = if cap < takenL x xw then (0, 9) else (leftL x xv, 0)) := fun h => if_pos h
  generalize (if ∀ v ∈ x, v = 0 ∨ v = 1 then costP cap xw xv x else (0, 1)) = res at *
  have exn : (x.length : Int) = (n : Int) := by rw [lxn.out]
  have ne0 : ((n : Int) != (n : Int)) = false := by simp
  rw [lxn.out]
  have X1 : Hid (Ext w (w.alloc (.cells #[.int .i64 1, .int .i64 n, .int .i64 cap, .slice A xw.length a, .slice B xv.length b, .slice D co.length d] 25))) := (Ext.rf _).alloc _
  go_enter Tryd.func100, Tryd.ntmps100
  go_wp2_with (fail)
  go_loopw [6, 7, 17] (fun v6 v7 i wr => ∃ k : Nat, i = .int .i64 k ∧ v6 = .int .i64 (takenL (x.take k) xw) ∧ v7 = .int .i64 (leftL (x.take k) xv) ∧ k ≤ n ∧ Hid (∀ j y, j < k → x[j]? = some y → y = 0 ∨ y = 1) ∧ Ext (w.alloc (.cells #[.int .i64 1, .int .i64 n, .int .i64 cap, .slice A xw.length a, .slice B xv.length b, .slice D co.length d] 25)) wr) (fun _ _ i _ => n - (intOf i).toNat)
  case atStart => exact ⟨0, rfl, rfl, rfl, by omega, (fun j y h => by omega), Ext.rf _⟩
  case round =>
    obtain ⟨wo, rfl⟩ : ∃ wo : World, wo = wr := ⟨_, rfl⟩
    obtain ⟨k, rfl, rfl, rfl, hk, HG, Y⟩ := hrel
    have BB := B1.out.ext Y
    have t2 : wo.cell? ⟨w.heap.size, 2, none⟩ = some (.int .i64 cap) := BB.cell 2
    have t3 : wo.cell? ⟨w.heap.size, 3, none⟩ = some (.slice A xw.length a) := BB.cell 3
    have t4 : wo.cell? ⟨w.heap.size, 4, none⟩ = some (.slice B xv.length b) := BB.cell 4
    clear BB
    obtain ⟨tw1, tw2⟩ := bW.out k hk
    obtain ⟨tv1, tv2⟩ := bV.out k hk
    by_cases hlt : k < n
    · obtain ⟨pb, po, y, rfl, zy, cy, ey, _⟩ := (hP.out.ext (X1.out.tr Y)).at (k := k) (by rw [lxn.out]; exact hlt)
      obtain ⟨ab, ao, u, rfl, zu, cu, eu, _⟩ := (rA.out.ext (X1.out.tr Y)).at (k := k) (by rw [lwn.out]; exact hlt)
      obtain ⟨vb, vo, v, rfl, zv, cv, ev, _⟩ := (rB.out.ext (X1.out.tr Y)).at (k := k) (by rw [lvn.out]; exact hlt)
      have sW := Lib.hid (W1.out k y u ey.out eu.out)
      have sV := Lib.hid (V1.out k y v ey.out ev.out)
      have bu := k6.out.get eu.out
      have bv := k7.out.get ev.out
      have q1 : (k : Int) < (n : Int) := by omega
      have q2 : (k : Int) < (xw.length : Int) := by rw [lwn.out]; omega
      have q3 : (k : Int) < (xv.length : Int) := by rw [lvn.out]; omega
      have HGN : Hid ((y = 0 ∨ y = 1) → ∀ j y', j < k + 1 → x[j]? = some y' → y' = 0 ∨ y' = 1) := fun hy j y' hj e => by
        by_cases ej : j = k
        · subst ej
          rw [ey.out] at e
          obtain rfl := Option.some.inj e
          exact hy
        · exact HG.out j y' (by omega) e
      obtain ⟨tw, htw⟩ : ∃ tw, tw = takenL (x.take k) xw := ⟨_, rfl⟩
      obtain ⟨tv, htv⟩ : ∃ tv, tv = leftL (x.take k) xv := ⟨_, rfl⟩
      rw [← htw] at tw1 tw2 sW ⊢
      rw [← htv] at tv1 tv2 sV ⊢
      have ymem : y ∈ x := List.mem_of_getElem? ey.out
      have BADY := Lib.hid (BAD.out y ymem)
      clear ey eu ev htw htv ymem
      by_cases y1 : y = 1
      · subst y1
        have sW2 : Hid (takenL (x.take (k + 1)) xw = tw + u) := by
          have h := sW.out
          rw [if_pos rfl] at h
          exact h
        have sV2 : Hid (leftL (x.take (k + 1)) xv = tv) := by
          have h := sV.out
          rw [if_pos rfl, Int.add_zero] at h
          exact h
        have HN := Lib.hid (HGN.out (.inr rfl))
        clear sW sV HGN
        have w1' : IntKind.i64.wrap (tw + u) = tw + u := IntWalk.i64_in _ (by omega)
        go_wp2_with (go_quiet (fail))
        go_roundw
        case rel => exact ⟨k + 1, by go_num, by rw [sW2.out], by rw [sV2.out], by omega, HN.out, by repeat (first | exact Y | apply Ext.drewN)⟩
        case measure => simp [intOf]; omega
      by_cases y0 : y = 0
      · subst y0
        have sW2 : Hid (takenL (x.take (k + 1)) xw = tw) := by
          have h := sW.out
          rw [if_neg (by decide), Int.add_zero] at h
          exact h
        have sV2 : Hid (leftL (x.take (k + 1)) xv = tv + v) := by
          have h := sV.out
          rw [if_neg (by decide)] at h
          exact h
        have HN := Lib.hid (HGN.out (.inl rfl))
        clear sW sV HGN y1
        have w1' : IntKind.i64.wrap (tv + v) = tv + v := IntWalk.i64_in _ (by omega)
        go_wp2_with (go_quiet (fail))
        go_roundw
        case rel => exact ⟨k + 1, by go_num, by rw [sW2.out], by rw [sV2.out], by omega, HN.out, by repeat (first | exact Y | apply Ext.drewN)⟩
        case measure => simp [intOf]; omega
      · have e0 : (y == 0) = false := by simpa using y0
        have e1 : (y == 1) = false := by simpa using y1
        have hr := Lib.hid (BADY.out (by omega))
        clear sW sV HGN
        go_wp2_with (fail)
        go_ret2
        exact ⟨by rw [hr.out]; rfl, X1.out.tr Y⟩
    · obtain rfl : k = n := by omega
      have HX := YES.out (fun y hy => by
        obtain ⟨j, hj, rfl⟩ := List.mem_iff_getElem.1 hy
        exact HG.out j _ (by rw [lxn.out] at hj; omega) (List.getElem?_eq_getElem hj))
      have lz : x.take k = x := List.take_of_length_le (by rw [lxn.out]; omega)
      rw [lz] at tw1 tw2 tv1 tv2 ⊢
      replace HX := Lib.hid HX
      clear lz
      generalize takenL x xw = tw at *
      generalize leftL x xv = tv at *
      by_cases hcap : cap < tw
      · have hr : Hid (res = (0, 9)) := by
          have h : res = (0, 9) := by rw [HX.out, if_pos hcap]
          exact h
        go_wp2_with (fail)
        go_ret2
        exact ⟨by rw [hr.out]; rfl, X1.out.tr Y⟩
      · have hr : Hid (res = (tv, 0)) := by
          have h : res = (tv, 0) := by rw [HX.out, if_neg hcap]
          exact h
        go_wp2_with (fail)
        go_ret2
        exact ⟨by rw [hr.out]; rfl, X1.out.tr Y⟩
set_option maxRecDepth 100000 in
set_option maxHeartbeats 1000000 in
theorem vknap_len (i : InstP) (us : List Value) (P : Option Addr) (c m : Nat) (w : World) (H : RInst w us i) (hm : (m : Int) ≠ i.n) :
    Calls Tryd.prog 100 #[.agg (List.toArray us), .slice P m c] w fun e w' => e = .returned (.tuple #[.int .i64 0, .int .i64 1]) ∧ Ext w w' := by
  obtain ⟨kind, nn, cap, xw, xv, co⟩ := i
  obtain ⟨A, a, B, b, D, d, rfl, -, -, -⟩ := H
  simp only at *
  have e1 : ((m : Int) != nn) = true := by simpa using hm
  clear hm
  go_enter Tryd.func100, Tryd.ntmps100
  go_wp2_with (fail)
  go_ret2
  exact ⟨rfl, by (repeat (first | assumption | exact Ext.rf _ | apply Ext.drew | apply Ext.drewN | apply Ext.alloc))⟩
set_option maxRecDepth 100000 in
set_option maxHeartbeats 1000000 in
theorem vcost1_gen (i : InstP) (us : List Value) (P : Option Addr) (c : Nat) (x : List Int) (w : World) (H : RInst w us i) (hc : checkP i = 0) (hk : i.kind = 1) (hP : RdI w P x) :
    Calls Tryd.prog 75 #[.agg (List.toArray us), .slice P x.length c] w fun e w' => e = .returned (.tuple #[.int .i64 (if (x.length : Int) = i.n ∧ ∀ v ∈ x, v = 0 ∨ v = 1 then costP i.cap i.weight i.value x else (0, 1)).1, .int .i64 (if (x.length : Int) = i.n ∧ ∀ v ∈ x, v = 0 ∨ v = 1 then costP i.cap i.weight i.value x else (0, 1)).2]) ∧ Ext w w' := by
  have ok := knap_ok hc hk
  have CH := fun (W : World) (x : Ext w W) => check_any i us W (H.ext x) (by have := ok.w; have := ok.n2; omega) (by have := ok.v; have := ok.n2; omega)
  have VK : ∀ (W : World), Ext w W → Calls Tryd.prog 100 #[.agg (List.toArray us), .slice P x.length c] W fun e w' => e = .returned (.tuple #[.int .i64 (if (x.length : Int) = i.n ∧ ∀ v ∈ x, v = 0 ∨ v = 1 then costP i.cap i.weight i.value x else (0, 1)).1, .int .i64 (if (x.length : Int) = i.n ∧ ∀ v ∈ x, v = 0 ∨ v = 1 then costP i.cap i.weight i.value x else (0, 1)).2]) ∧ Ext W w' := fun W y => by
    by_cases hl : (x.length : Int) = i.n
    · have e : (if (x.length : Int) = i.n ∧ ∀ v ∈ x, v = 0 ∨ v = 1 then costP i.cap i.weight i.value x else (0, 1)) = if ∀ v ∈ x, v = 0 ∨ v = 1 then costP i.cap i.weight i.value x else (0, 1) := by
        simp [hl]
      rw [e]
      exact vknap_gen i us P c x W (H.ext y) hc hk (hP.ext y) hl
    · rw [if_neg (fun h => hl h.1)]
      exact vknap_len i us P c x.length W (H.ext y) hl
  rw [hc] at CH
  clear ok hP hc
  obtain ⟨kind, nn, cap, xw, xv, co⟩ := i
  obtain ⟨A, a, B, b, D, d, rfl, -, -, -⟩ := H
  simp only at *
  subst hk
  generalize (if (x.length : Int) = nn ∧ ∀ v ∈ x, v = 0 ∨ v = 1 then costP cap xw xv x else (0, 1)) = res at *
  have B1 : Hid (Blk (w.alloc (.cells #[.int .i64 1, .int .i64 nn, .int .i64 cap, .slice A xw.length a, .slice B xv.length b, .slice D co.length d] 25)) w.heap.size 25 #[.int .i64 1, .int .i64 nn, .int .i64 cap, .slice A xw.length a, .slice B xv.length b, .slice D co.length d]) := .new rfl
  replace CH := Lib.hid CH
  replace VK := Lib.hid VK
  go_enter Tryd.func75, Tryd.ntmps75
  go_wp2_with (fail)
  refine (CH.out _ (by (repeat (first | assumption | exact Ext.rf _ | apply Ext.drew | apply Ext.drewN | apply Ext.alloc)))).mono ?_
  rintro e w1 ⟨rfl, x1⟩
  have X1 := Lib.hid (Ext.tr (a := w) (by (repeat (first | assumption | exact Ext.rf _ | apply Ext.drew | apply Ext.drewN | apply Ext.alloc))) x1)
  have b1 := B1.out.ext x1
  have t0 : w1.cell? ⟨w.heap.size, 0, none⟩ = some (.int .i64 1) := b1.cell 0
  have t1 : w1.cell? ⟨w.heap.size, 1, none⟩ = some (.int .i64 nn) := b1.cell 1
  have t2 : w1.cell? ⟨w.heap.size, 2, none⟩ = some (.int .i64 cap) := b1.cell 2
  have t3 : w1.cell? ⟨w.heap.size, 3, none⟩ = some (.slice A xw.length a) := b1.cell 3
  have t4 : w1.cell? ⟨w.heap.size, 4, none⟩ = some (.slice B xv.length b) := b1.cell 4
  have t5 : w1.cell? ⟨w.heap.size, 5, none⟩ = some (.slice D co.length d) := b1.cell 5
  clear x1 B1 b1
  go_wp2_with (fail)
  refine (VK.out _ X1.out).mono ?_
  rintro e w2 ⟨rfl, x2⟩
  have X2 := Lib.hid (X1.out.tr x2)
  clear x2 t0 t1 t2 t3 t4 t5
  go_wp2_with (fail)
  go_ret2
  exact ⟨rfl, X2.out.tr (by (repeat (first | assumption | exact Ext.rf _ | apply Ext.drew | apply Ext.drewN | apply Ext.alloc)))⟩
set_option maxRecDepth 100000 in
set_option maxHeartbeats 1000000 in
theorem vcost_bad (i : InstP) (us : List Value) (X : Value) (w : World) (H : RInst w us i) (hc : checkP i ≠ 0) (hlw : i.weight.length ≤ maxLen) (hlv : i.value.length ≤ maxLen) (hls : i.weight.length + i.value.length ≤ maxLen) :
    Calls Tryd.prog 75 #[.agg (List.toArray us), X] w fun e w' => e = .returned (.tuple #[.int .i64 0, .int .i64 (checkP i)]) ∧ Ext w w' := by
  have CH := fun (W : World) (x : Ext w W) => check_gen i us W (H.ext x) hlw hlv hls
  generalize checkP i = cc at *
  have e1 : (cc != 0) = true := by simpa using hc
  obtain ⟨kind, nn, cap, xw, xv, co⟩ := i
  obtain ⟨A, a, B, b, D, d, rfl, -, -, -⟩ := H
  simp only at *
  replace CH := Lib.hid CH
  clear hc hlw hlv hls
  go_enter Tryd.func75, Tryd.ntmps75
  go_wp2_with (fail)
  refine (CH.out _ (by (repeat (first | assumption | exact Ext.rf _ | apply Ext.drew | apply Ext.drewN | apply Ext.alloc)))).mono ?_
  rintro e w1 ⟨rfl, x1⟩
  have X1 := Lib.hid (Ext.tr (a := w) (by (repeat (first | assumption | exact Ext.rf _ | apply Ext.drew | apply Ext.drewN | apply Ext.alloc))) x1)
  clear x1
  go_wp2_with (fail)
  go_ret2
  exact ⟨rfl, X1.out⟩
set_option maxRecDepth 100000 in
set_option maxHeartbeats 1000000 in
theorem vcost_perm (i : InstP) (us : List Value) (P : Option Addr) (c : Nat) (x : List Int) (w : World) (H : RInst w us i) (hc : checkP i = 0) (hk : i.kind ≠ 1) (hP : RdI w P x) (hx : x.length ≤ 1000) (hno : permB x i.cost.length = false ∨ permB x i.cost.length = true ∧ i.kind = 3 ∧ x[0]? ≠ some 0) :
    Calls Tryd.prog 75 #[.agg (List.toArray us), .slice P x.length c] w fun e w' => e = .returned (.tuple #[.int .i64 0, .int .i64 1]) ∧ Ext w w' := by
  have sq := square_ok hc hk
  have CH := fun (W : World) (x : Ext w W) => check_any i us W (H.ext x) (by rw [sq.w]; simp) (by rw [sq.v]; simp)
  rw [hc] at CH
  have rok := rows_ok sq
  have n1 := rok.n1
  have hin : i.n = (i.cost.length : Int) := sq.len.symm
  have PG := fun (W : World) (y : Ext w W) => order_gen P c i.cost.length x hx (by have := rok.n2; omega) W (hP.ext y)
  have LX : permB x i.cost.length = true → x.length = i.cost.length := fun h => by
    obtain ⟨l, rfl, hl⟩ := permB_iff.1 h
    rw [intsN_len, hl.length_eq, List.length_range]
  clear sq rok
  obtain ⟨kind, nn, cap, xw, xv, co⟩ := i
  obtain ⟨A, a, B, b, D, d, rfl, -, -, -⟩ := H
  simp only at *
  subst hin
  have e1 : (kind == 1) = false := by simpa using hk
  have B1 : Hid (Blk (w.alloc (.cells #[.int .i64 kind, .int .i64 co.length, .int .i64 cap, .slice A xw.length a, .slice B xv.length b, .slice D co.length d] 25)) w.heap.size 25 #[.int .i64 kind, .int .i64 co.length, .int .i64 cap, .slice A xw.length a, .slice B xv.length b, .slice D co.length d]) := .new rfl
  replace CH := Lib.hid CH
  replace PG := Lib.hid PG
  replace hP := Lib.hid hP
  replace LX := Lib.hid LX
  clear hc
  go_enter Tryd.func75, Tryd.ntmps75
  go_wp2_with (fail)
  refine (CH.out _ (by (repeat (first | assumption | exact Ext.rf _ | apply Ext.drew | apply Ext.drewN | apply Ext.alloc)))).mono ?_
  rintro e w1 ⟨rfl, x1⟩
  have X1 := Lib.hid (Ext.tr (a := w) (by (repeat (first | assumption | exact Ext.rf _ | apply Ext.drew | apply Ext.drewN | apply Ext.alloc))) x1)
  have BB := Lib.hid (B1.out.ext x1)
  have d0 : w1.cell? ⟨w.heap.size, 0, none⟩ = some (.int .i64 kind) := BB.out.cell 0
  have d1 : w1.cell? ⟨w.heap.size, 1, none⟩ = some (.int .i64 co.length) := BB.out.cell 1
  clear x1
  rcases hno with hno | ⟨hyes, hk3, hx0⟩
  · rw [hno] at PG
    go_wp2_with (fail)
    refine (PG.out _ (X1.out.tr (by (repeat (first | assumption | exact Ext.rf _ | apply Ext.drew | apply Ext.drewN | apply Ext.alloc))))).mono ?_
    rintro e w2 ⟨rfl, x2⟩
    have X2 := Lib.hid (X1.out.tr (Ext.tr (by (repeat (first | assumption | exact Ext.rf _ | apply Ext.drew | apply Ext.drewN | apply Ext.alloc))) x2))
    clear x2
    go_wp2_with (fail)
    go_ret2
    exact ⟨rfl, X2.out⟩
  · have hl := LX.out hyes
    obtain ⟨pb, po, x0, rfl, zp0, cp0, ep0, _⟩ := hP.out.at (k := 0) (by omega)
    have e0 : (x0 != 0) = true := by
      rw [bne_iff_ne]
      rintro rfl
      exact hx0 ep0.out
    replace cp0 : w.cell? ⟨pb, po, none⟩ = some (.int .i64 x0) := cp0
    have e3 : (kind == 3) = true := by simpa using hk3
    have q0 : (0 : Int) < (x.length : Int) := by omega
    rw [hyes] at PG
    replace hk3 := Lib.hid hk3
    replace hl := Lib.hid hl
    clear hx0 ep0
    go_wp2_with (fail)
    refine (PG.out _ (X1.out.tr (by (repeat (first | assumption | exact Ext.rf _ | apply Ext.drew | apply Ext.drewN | apply Ext.alloc))))).mono ?_
    rintro e w2 ⟨rfl, x2⟩
    have X2 := Lib.hid (X1.out.tr (Ext.tr (by (repeat (first | assumption | exact Ext.rf _ | apply Ext.drew | apply Ext.drewN | apply Ext.alloc))) x2))
    have u0 : w2.cell? ⟨w.heap.size, 0, none⟩ = some (.int .i64 kind) := (BB.out.ext (Ext.tr (by (repeat (first | assumption | exact Ext.rf _ | apply Ext.drew | apply Ext.drewN | apply Ext.alloc))) x2)).cell 0
    have u1 : w2.cell? ⟨pb, po, none⟩ = some (.int .i64 x0) := keepEL X2.out zp0 cp0
    clear x2 d0 d1
    go_wp2_with (fail)
    go_ret2
    exact ⟨rfl, X2.out⟩
theorem vcost_gen (i : InstP) (us : List Value) (P : Option Addr) (c : Nat) (x : List Int) (w : World) (H : RInst w us i) (hP : RdI w P x) (hx : x.length ≤ 1000) (hlw : i.weight.length ≤ maxLen) (hlv : i.value.length ≤ maxLen) (hls : i.weight.length + i.value.length ≤ maxLen) :
    Calls Tryd.prog 75 #[.agg (List.toArray us), .slice P x.length c] w fun e w' => e = .returned (.tuple #[.int .i64 (costG i x).1, .int .i64 (costG i x).2]) ∧ Ext w w' := by
  unfold costG
  by_cases hc : checkP i = 0
  · rw [if_neg (by simpa using hc)]
    by_cases hk : i.kind = 1
    · rw [if_pos hk]
      exact vcost1_gen i us P c x w H hc hk hP
    · rw [if_neg hk]
      by_cases hp : permB x i.cost.length = true
      · obtain ⟨l, rfl, hl⟩ := permB_iff.1 hp
        have hll : l.length = i.cost.length := by rw [hl.length_eq, List.length_range]
        have hlen : (intsN l).length = i.cost.length := by rw [intsN_len, hll]
        have n1 := (rows_ok (square_ok hc hk)).n1
        rcases check_kind hc with h | h | h
        · exact absurd h hk
        · rw [if_pos ⟨hp, fun h3 => by omega⟩, if_pos h, hlen]
          exact vcost2_any i us P c l w H hc h hP hl
        · by_cases h0 : (intsN l)[0]? = some 0
          · rw [if_pos ⟨hp, fun _ => h0⟩, if_neg (by omega), hlen]
            cases l with
            | nil => simp at hll; omega
            | cons a q =>
              obtain rfl : a = 0 := by
                simp [intsN] at h0
                omega
              have e : (intsN (0 :: q)).tail.map Int.toNat = q := by
                simp [intsN, Function.comp_def]
              rw [e]
              exact vcost3_any i us P c q w H hc h hP hl
          · rw [if_neg (fun h9 => h0 (h9.2 h))]
            exact vcost_perm i us P c _ w H hc hk hP hx (.inr ⟨hp, h, h0⟩)
      · rw [if_neg (fun h => hp h.1)]
        exact vcost_perm i us P c x w H hc hk hP hx (.inl (by simpa using hp))
  · rw [if_pos hc]
    exact vcost_bad i us _ w H hc hlw hlv hls
end Go.Proofs.YtleckhbmciiooaaDoor
namespace Go.Proofs.YtleckhbmciiooaaDoor
open Go.RowKit Go.ChangeShapes Go.WideShapes Go.ChangeAt Go.Deep

theorem sum31 : ∀ {l : List Int}, Small31 l → 0 ≤ sumL l ∧ sumL l ≤ (l.length : Int) * 2147483647
  | [], _ => by simp [sumL]
  | x :: l, h => by
    have ih := sum31 (l := l) fun y hy => h y (by simp [hy])
    have h1 := h x (by simp)
    simp only [sumL, List.length_cons]
    omega
theorem sum31_take {l : List Int} (h : Small31 l) (k : Nat) : 0 ≤ sumL (l.take k) ∧ sumL (l.take k) ≤ (l.length : Int) * 2147483647 := by
  have h1 := sum31 (l := l.take k) fun y hy => h y (List.mem_of_mem_take hy)
  rw [List.length_take] at h1
  omega
theorem sumL_take_succ {l : List Int} {k : Nat} {x : Int} (h : l[k]? = some x) : sumL (l.take (k + 1)) = sumL (l.take k) + x := by
  rw [List.take_add_one, h, sumL_append]
  simp [sumL]
theorem leftL_in : ∀ (x vs : List Int), Small31 vs → 0 ≤ leftL x vs ∧ leftL x vs ≤ (vs.length : Int) * 2147483647
  | [], vs, _ => by
    simp only [leftL, List.zipWith_nil_left, sumL]
    omega
  | _ :: _, [], _ => by simp [leftL, sumL]
  | a :: x, v :: vs, h => by
    have ih := leftL_in x vs fun y hy => h y (by simp [hy])
    have h1 := h v (by simp)
    simp only [leftL, List.zipWith_cons_cons, sumL, List.length_cons] at *
    split <;> omega
/-- what a cost is worth -/
def ofG (i : InstP) (c : Int) : Int := if i.kind = 1 then sumL i.value - c else c
def valG (i : InstP) (x : List Int) : Int × Int := if (costG i x).2 = 0 then (ofG i (costG i x).1, 0) else (0, (costG i x).2)
set_option maxRecDepth 100000 in
theorem vtotal_any (A : Option Addr) (c : Nat) (xs : List Int) (w : World) (hA : RdI w A xs) (hs : Small31 xs) (hl : xs.length ≤ 1000) :
    Calls Tryd.prog 102 #[.slice A xs.length c] w fun e w' => e = .returned (.int .i64 (sumL xs)) ∧ Ext w w' := by
  have T1 : Hid (∀ k v, xs[k]? = some v → sumL (xs.take (k + 1)) = sumL (xs.take k) + v) := fun k v h => sumL_take_succ h
  have TB := Lib.hid (sum31_take hs)
  replace hA := Lib.hid hA
  replace hs := Lib.hid hs
  go_enter Tryd.func102, Tryd.ntmps102
  go_wp2_with (fail)
  go_loopw [3, 8] (fun a i wr => ∃ k : Nat, i = .int .i64 k ∧ a = .int .i64 (sumL (xs.take k)) ∧ k ≤ xs.length ∧ Hid (Ext w wr)) (fun _ i _ => xs.length - (intOf i).toNat)
  case atStart => exact ⟨0, rfl, rfl, by omega, Ext.rf _⟩
  case round =>
    obtain ⟨wo, rfl⟩ : ∃ wo : World, wo = wr := ⟨_, rfl⟩
    obtain ⟨k, rfl, rfl, hk, X⟩ := hrel
    by_cases hlt : k < xs.length
    · obtain ⟨pb, po, y, rfl, zy, cy, ey, _⟩ := (hA.out.ext X.out).at (k := k) hlt
      have S := Lib.hid (T1.out k y ey.out)
      have b1 := TB.out k
      have b2 := hs.out.get ey.out
      generalize sumL (xs.take k) = tk at *
      have w1 : IntKind.i64.wrap (tk + y) = tk + y := IntWalk.i64_in _ (by omega)
      have q1 : (k : Int) < (xs.length : Int) := by omega
      clear ey b1 b2
      go_wp2_with (fail)
      go_roundw
      case rel => exact ⟨k + 1, by go_num, by rw [S.out], by omega, X.out.tr (by (repeat (first | assumption | exact Ext.rf _ | apply Ext.drew | apply Ext.drewN | apply Ext.alloc)))⟩
      case measure => simp [intOf]; omega
    · obtain rfl : k = xs.length := by omega
      rw [List.take_length]
      go_wp2_with (fail)
      go_ret
      exact ⟨rfl, X.out.tr (by (repeat (first | assumption | exact Ext.rf _ | apply Ext.drew | apply Ext.drewN | apply Ext.alloc)))⟩
set_option maxRecDepth 100000 in
theorem vof_any (i : InstP) (us : List Value) (w : World) (c : Int) (H : RInst w us i) (hc : checkP i = 0) (hb : i.kind = 1 → 0 ≤ c ∧ c ≤ (i.value.length : Int) * 2147483647) :
    Calls Tryd.prog 76 #[.agg (List.toArray us), .int .i64 c] w fun e w' => e = .returned (.int .i64 (ofG i c)) ∧ Ext w w' := by
  by_cases hk : i.kind = 1
  · have ok := knap_ok hc hk
    have k1 := ok.v
    have k2 := ok.n2
    have TT : ∀ (A : Option Addr) (d : Nat) (W : World), RdI W A i.value → Calls Tryd.prog 102 #[.slice A i.value.length d] W fun e w' => e = .returned (.int .i64 (sumL i.value)) ∧ Ext W w' := fun A d W h => vtotal_any A d i.value W h ok.sv (by omega)
    have b1 := sum31 ok.sv
    have b2 := hb hk
    unfold ofG
    rw [if_pos hk]
    clear ok hc hb
    obtain ⟨kind, nn, cap, xw, xv, co⟩ := i
    obtain ⟨A, a, B, b, D, d, rfl, -, ⟨rB, -⟩, -⟩ := H
    simp only at *
    subst hk
    generalize sumL xv = sv at *
    have w1 : IntKind.i64.wrap (sv - c) = sv - c := IntWalk.i64_in _ (by omega)
    replace TT := Lib.hid TT
    replace rB := Lib.hid rB
    clear b1 b2 k1
    go_enter Tryd.func76, Tryd.ntmps76
    go_wp2_with (fail)
    refine (TT.out _ _ _ (rB.out.ext (by (repeat (first | assumption | exact Ext.rf _ | apply Ext.drew | apply Ext.drewN | apply Ext.alloc))))).mono ?_
    rintro e w1 ⟨rfl, x1⟩
    have X1 := Lib.hid (Ext.tr (a := w) (by (repeat (first | assumption | exact Ext.rf _ | apply Ext.drew | apply Ext.drewN | apply Ext.alloc))) x1)
    clear x1
    go_wp2_with (fail)
    go_ret
    exact ⟨rfl, X1.out⟩
  · unfold ofG
    rw [if_neg hk]
    obtain ⟨kind, nn, cap, xw, xv, co⟩ := i
    obtain ⟨A, a, B, b, D, d, rfl, -, -, -⟩ := H
    simp only at *
    have e1 : (kind == 1) = false := by simpa using hk
    clear hc hb hk
    go_enter Tryd.func76, Tryd.ntmps76
    go_wp2_with (fail)
    go_ret
    exact ⟨rfl, by (repeat (first | assumption | exact Ext.rf _ | apply Ext.drew | apply Ext.drewN | apply Ext.alloc))⟩
theorem costG_bd {i : InstP} {x : List Int} (hk : i.kind = 1) (h : (costG i x).2 = 0) : checkP i = 0 ∧ 0 ≤ (costG i x).1 ∧ (costG i x).1 ≤ (i.value.length : Int) * 2147483647 := by
  unfold costG at *
  by_cases hc : checkP i = 0
  · rw [if_neg (by simpa using hc), if_pos hk] at *
    have ok := knap_ok hc hk
    refine ⟨hc, ?_⟩
    split
    · unfold costP
      split
      · exact ⟨Int.le_refl _, by simp only; omega⟩
      · exact leftL_in _ _ ok.sv
    · exact ⟨Int.le_refl _, by simp only; omega⟩
  · rw [if_pos hc] at h
    exact absurd h hc
theorem costG_chk {i : InstP} {x : List Int} (h : (costG i x).2 = 0) : checkP i = 0 := by
  unfold costG at h
  refine Classical.byContradiction fun hc => ?_
  rw [if_pos hc] at h
  exact hc h
set_option maxRecDepth 100000 in
theorem vvalue_any (i : InstP) (us : List Value) (P : Option Addr) (c : Nat) (x : List Int) (w : World) (H : RInst w us i) (hP : RdI w P x) (hx : x.length ≤ 1000) (hlw : i.weight.length ≤ maxLen) (hlv : i.value.length ≤ maxLen) (hls : i.weight.length + i.value.length ≤ maxLen) :
    Calls Tryd.prog 44 #[.agg (List.toArray us), .slice P x.length c] w fun e w' => e = .returned (.tuple #[.int .i64 (valG i x).1, .int .i64 (valG i x).2]) ∧ Ext w w' := by
  have VC := fun (W : World) (y : Ext w W) => vcost_gen i us P c x W (H.ext y) (hP.ext y) hx hlw hlv hls
  unfold valG
  by_cases h0 : (costG i x).2 = 0
  · have VO := fun (W : World) (y : Ext w W) => vof_any i us W (costG i x).1 (H.ext y) (costG_chk h0) (fun hk => (costG_bd hk h0).2)
    rw [if_pos h0]
    rw [h0] at VC
    clear h0 hP hx hlw hlv hls
    generalize ofG i (costG i x).1 = r at *
    generalize (costG i x).1 = cc at *
    obtain ⟨kind, nn, cap, xw, xv, co⟩ := i
    obtain ⟨A, a, B, b, D, d, rfl, -, -, -⟩ := H
    simp only at *
    have B1 : Hid (Blk (w.alloc (.cells #[.int .i64 kind, .int .i64 nn, .int .i64 cap, .slice A xw.length a, .slice B xv.length b, .slice D co.length d] 25)) w.heap.size 25 #[.int .i64 kind, .int .i64 nn, .int .i64 cap, .slice A xw.length a, .slice B xv.length b, .slice D co.length d]) := .new rfl
    replace VC := Lib.hid VC
    replace VO := Lib.hid VO
    go_enter Tryd.func44, Tryd.ntmps44
    go_wp2_with (fail)
    refine (VC.out _ (by (repeat (first | assumption | exact Ext.rf _ | apply Ext.drew | apply Ext.drewN | apply Ext.alloc)))).mono ?_
    rintro e w1 ⟨rfl, x1⟩
    have X1 := Lib.hid (Ext.tr (a := w) (by (repeat (first | assumption | exact Ext.rf _ | apply Ext.drew | apply Ext.drewN | apply Ext.alloc))) x1)
    have b1 := B1.out.ext x1
    have t0 : w1.cell? ⟨w.heap.size, 0, none⟩ = some (.int .i64 kind) := b1.cell 0
    have t1 : w1.cell? ⟨w.heap.size, 1, none⟩ = some (.int .i64 nn) := b1.cell 1
    have t2 : w1.cell? ⟨w.heap.size, 2, none⟩ = some (.int .i64 cap) := b1.cell 2
    have t3 : w1.cell? ⟨w.heap.size, 3, none⟩ = some (.slice A xw.length a) := b1.cell 3
    have t4 : w1.cell? ⟨w.heap.size, 4, none⟩ = some (.slice B xv.length b) := b1.cell 4
    have t5 : w1.cell? ⟨w.heap.size, 5, none⟩ = some (.slice D co.length d) := b1.cell 5
    clear x1 B1 b1
    go_wp2_with (fail)
    refine (VO.out _ (X1.out.tr (by (repeat (first | assumption | exact Ext.rf _ | apply Ext.drew | apply Ext.drewN | apply Ext.alloc))))).mono ?_
    rintro e w2 ⟨rfl, x2⟩
    have X2 := Lib.hid (X1.out.tr (Ext.tr (by (repeat (first | assumption | exact Ext.rf _ | apply Ext.drew | apply Ext.drewN | apply Ext.alloc))) x2))
    clear x2 t0 t1 t2 t3 t4 t5
    go_wp2_with (fail)
    go_ret2
    exact ⟨rfl, X2.out⟩
  · rw [if_neg h0]
    generalize (costG i x).2 = ee at *
    generalize (costG i x).1 = cc at *
    have e1 : (ee != 0) = true := by simpa using h0
    clear h0 hP hx hlw hlv hls
    obtain ⟨kind, nn, cap, xw, xv, co⟩ := i
    obtain ⟨A, a, B, b, D, d, rfl, -, -, -⟩ := H
    simp only at *
    replace VC := Lib.hid VC
    go_enter Tryd.func44, Tryd.ntmps44
    go_wp2_with (fail)
    refine (VC.out _ (by (repeat (first | assumption | exact Ext.rf _ | apply Ext.drew | apply Ext.drewN | apply Ext.alloc)))).mono ?_
    rintro e w1 ⟨rfl, x1⟩
    have X1 := Lib.hid (Ext.tr (a := w) (by (repeat (first | assumption | exact Ext.rf _ | apply Ext.drew | apply Ext.drewN | apply Ext.alloc))) x1)
    clear x1
    go_wp2_with (fail)
    go_ret2
    exact ⟨rfl, X1.out⟩
/-! The document's. -/
end Go.Proofs.YtleckhbmciiooaaDoor
namespace Go.Proofs.YtleckhbmciiooaaDoor
open Go.RowKit Go.ChangeShapes Go.WideShapes Go.ChangeAt Go.Deep

abbrev Txt := List UInt8
def txS (l : Txt) : Value := .string ⟨l.toArray⟩
def tTake : Txt := [116, 97, 107, 101]
def tTo : Txt := [32, 116, 111, 32]
def tSemi : Txt := [59, 32]
def tWay : Txt := [32, 62, 32]
def tAt : Txt := [58, 32]
/-- the pieces of the words -/
def piecesK (x : List Int) (k : Nat) : List Txt := ((List.range k).filter fun j => x.getD j 0 == 1).map fun j : Nat => Lib.itoa (j : Int)
def piecesA (x : List Int) (k : Nat) : List Txt := (List.range k).map fun j : Nat => Lib.itoa (j : Int) ++ tTo ++ Lib.itoa (x.getD j 0)
def piecesT (x : List Int) (k : Nat) : List Txt := (List.range k).map fun j : Nat => Lib.itoa (x.getD j 0)
/-- the words as the program joins them -/
def wordsP (kind : Int) (x : List Int) : Txt :=
  if kind = 1 then Lib.join (tTake :: piecesK x x.length) [32]
  else if kind = 2 then Lib.join (piecesA x x.length) tSemi
  else Lib.join (piecesT x x.length ++ [[48]]) tWay
/-- the words as the document writes them, after k rounds -/
def wordsR (kind : Int) (x : List Int) : Nat → Txt
  | 0 => if kind = 1 then tTake else []
  | k + 1 => if kind = 1 then (if x.getD k 0 = 1 then wordsR kind x k ++ [32] ++ Lib.itoa (k : Int) else wordsR kind x k)
    else if kind = 2 then (if 0 < k then wordsR kind x k ++ tSemi else wordsR kind x k) ++ Lib.itoa (k : Int) ++ tTo ++ Lib.itoa (x.getD k 0)
    else wordsR kind x k ++ Lib.itoa (x.getD k 0) ++ tWay
def wordsE (kind : Int) (x : List Int) : Txt := if kind = 3 then wordsR kind x x.length ++ [48] else wordsR kind x x.length
theorem join_cons2 (a b : Txt) (l : List Txt) (s : Txt) : Lib.join (a :: b :: l) s = a ++ s ++ Lib.join (b :: l) s := by
  unfold Lib.join
  rw [List.intercalate_cons_cons]
theorem join_snoc : ∀ (l : List Txt) (a s : Txt), l ≠ [] → Lib.join (l ++ [a]) s = Lib.join l s ++ s ++ a
  | [], _, _, h => absurd rfl h
  | [b], a, s, _ => by
    rw [List.cons_append, List.nil_append, join_cons2]
    rw [Lib.join_one, Lib.join_one]
  | b :: c :: l, a, s, _ => by
    have ih := join_snoc (c :: l) a s (by simp)
    rw [List.cons_append, List.cons_append, join_cons2, join_cons2, ← List.cons_append, ih]
    simp only [List.append_assoc]
theorem piecesK_succ (x : List Int) (k : Nat) : piecesK x (k + 1) = if x.getD k 0 = 1 then piecesK x k ++ [Lib.itoa (k : Int)] else piecesK x k := by
  unfold piecesK
  rw [List.range_succ, List.filter_append, List.map_append]
  by_cases h : x.getD k 0 = 1
  · have h' : (x.getD k 0 == 1) = true := by rw [beq_iff_eq]; exact h
    rw [if_pos h, List.filter_cons_of_pos (by exact h')]
    rfl
  · have h' : ¬ (x.getD k 0 == 1) = true := by rw [beq_iff_eq]; exact h
    rw [if_neg h, List.filter_cons_of_neg (by exact h')]
    simp
theorem piecesA_succ (x : List Int) (k : Nat) : piecesA x (k + 1) = piecesA x k ++ [Lib.itoa (k : Int) ++ tTo ++ Lib.itoa (x.getD k 0)] := by
  unfold piecesA
  rw [List.range_succ, List.map_append]
  rfl
theorem piecesT_succ (x : List Int) (k : Nat) : piecesT x (k + 1) = piecesT x k ++ [Lib.itoa (x.getD k 0)] := by
  unfold piecesT
  rw [List.range_succ, List.map_append]
  rfl
theorem words1 (x : List Int) : ∀ k, wordsR 1 x k = Lib.join (tTake :: piecesK x k) [32]
  | 0 => by
    simp only [wordsR, piecesK, List.range_zero, List.filter_nil, List.map_nil, if_true, Lib.join_one]
  | k + 1 => by
    have ih := words1 x k
    rw [piecesK_succ]
    simp only [wordsR, if_true]
    split
    · rw [← List.cons_append, join_snoc _ _ _ (by simp), ← ih]
    · exact ih
theorem words2 (x : List Int) : ∀ k, wordsR 2 x k = Lib.join (piecesA x k) tSemi
  | 0 => by
    simp [wordsR, piecesA, Lib.join]
  | k + 1 => by
    have ih := words2 x k
    rw [piecesA_succ]
    simp only [wordsR, show ¬ (2 : Int) = 1 by decide, if_false, if_true]
    by_cases hk : 0 < k
    · rw [if_pos hk, join_snoc _ _ _ (by
        intro h
        have := congrArg List.length h
        simp [piecesA] at this
        omega), ← ih]
      simp only [List.append_assoc]
    · obtain rfl : k = 0 := by omega
      rw [if_neg (by omega)]
      simp [wordsR, piecesA, Lib.join_one]
theorem words3 (x : List Int) : ∀ k, wordsR 3 x k ++ [48] = Lib.join (piecesT x k ++ [[48]]) tWay
  | 0 => by
    simp only [wordsR, piecesT, List.range_zero, List.map_nil, List.nil_append, Lib.join_one, show ¬ (3 : Int) = 1 by decide, if_false]
  | k + 1 => by
    have ih := words3 x k
    rw [piecesT_succ, join_snoc _ _ _ (by simp)]
    simp only [wordsR, show ¬ (3 : Int) = 1 by decide, show ¬ (3 : Int) = 2 by decide, if_false]
    have e : ∀ (l : List Txt) (a : Txt), Lib.join (l ++ [a]) tWay = (if l = [] then [] else Lib.join l tWay ++ tWay) ++ a := fun l a => by
      by_cases h : l = []
      · subst h
        simp [Lib.join_one]
      · rw [if_neg h, join_snoc _ _ _ h]
    rw [e] at ih
    have ih2 := List.append_cancel_right ih
    rw [e, ih2]
/-- both ways of writing the words are the same -/
theorem words_eq {kind : Int} (hk : kind = 1 ∨ kind = 2 ∨ kind = 3) (x : List Int) : wordsE kind x = wordsP kind x := by
  unfold wordsE wordsP
  rcases hk with rfl | rfl | rfl
  · rw [if_neg (by decide), if_pos rfl, words1]
  · rw [if_neg (by decide), if_neg (by decide), if_pos rfl, words2]
  · rw [if_pos rfl, if_neg (by decide), if_neg (by decide), words3]
end Go.Proofs.YtleckhbmciiooaaDoor
namespace Go.Proofs.YtleckhbmciiooaaDoor
open Go.RowKit Go.ChangeShapes Go.WideShapes Go.ChangeAt Go.Deep

/-- the digits of a number; of nought none -/
def dgT (u : Nat) : List UInt8 := if u = 0 then [] else Lib.decDigits u
theorem dgT_step {u : Nat} (h : u ≠ 0) : dgT u = dgT (u / 10) ++ [UInt8.ofNat (48 + u % 10)] := by
  unfold dgT
  rw [if_neg h, Lib.decDigits]
  by_cases h1 : u < 10
  · rw [dif_pos h1, if_pos (by omega), Nat.mod_eq_of_lt h1]
    rfl
  · rw [dif_neg h1, if_neg (by omega)]
set_option maxRecDepth 100000 in
set_option maxHeartbeats 2000000 in
theorem rwrite_any (n : Int) (h0 : -9223372036854775808 ≤ n) (h1 : n ≤ 9223372036854775807) (w : World) :
    Calls Tryd.prog 47 #[.int .i64 n] w fun e w' => e = .returned (.string ⟨(Lib.itoa n).toArray⟩) ∧ Ext w w' := by
  by_cases hz : n = 0
  · subst hz
    have e9 : Lib.itoa 0 = [48] := by
      unfold Lib.itoa
      rw [if_neg (by omega)]
      rw [Lib.decDigits]
      simp
    rw [e9]
    go_enter Tryd.func47, Tryd.ntmps47
    go_wp2_with (fail)
    go_ret
    exact ⟨rfl, by (repeat (first | assumption | exact Ext.rf _ | apply Ext.drew | apply Ext.drewN | apply Ext.alloc))⟩
  · have e1 : (n == 0) = false := by simpa using hz
    have INV : ∀ (i : Nat) (m : Int) (l : List UInt8), dgT m.natAbs ++ l = dgT n.natAbs → m.natAbs * 10 ^ i ≤ n.natAbs → (m = 0 → l = Lib.decDigits n.natAbs) ∧ (m ≠ 0 → i < 20) := fun i m l e1 e2 => by
      refine ⟨fun hm => ?_, fun hm => ?_⟩
      · subst hm
        have h2 : dgT (0 : Int).natAbs = [] := rfl
        rw [h2, List.nil_append] at e1
        rw [e1]
        unfold dgT
        rw [if_neg (by omega)]
      · refine Classical.byContradiction fun hi => ?_
        have h3 : 10 ^ 20 ≤ 10 ^ i := Nat.pow_le_pow_right (by omega) (by omega)
        have h4 : 1 * 10 ^ i ≤ m.natAbs * 10 ^ i := Nat.mul_le_mul_right _ (by omega)
        omega
    have HA : Hid (dgT n.natAbs ++ [] = dgT n.natAbs) := by
      have h : dgT n.natAbs ++ [] = dgT n.natAbs := List.append_nil _
      exact h
    have HL0 : Hid (([] : List UInt8).length = 0) := by
      have h : ([] : List UInt8).length = 0 := rfl
      exact h
    have HB : Hid (n.natAbs * 10 ^ 0 ≤ n.natAbs) := by
      have h : n.natAbs * 10 ^ 0 ≤ n.natAbs := by omega
      exact h
    replace INV := Lib.hid INV
    go_enter Tryd.func47, Tryd.ntmps47
    go_wp2_with (fail)
    go_loopw [3, 4, 5] (fun v3 v4 v5 wr => ∃ (l : List UInt8) (m : Int) (i : Nat), v3 = .string ⟨l.toArray⟩ ∧ v4 = .int .i64 m ∧ v5 = .int .i64 i ∧ i ≤ 20 ∧ Hid (l.length = i) ∧ Hid (dgT m.natAbs ++ l = dgT n.natAbs) ∧ Hid (m.natAbs * 10 ^ i ≤ n.natAbs) ∧ Hid (Ext w wr)) (fun _ v4 _ _ => (intOf v4).natAbs)
    case atStart => exact ⟨[], n, 0, rfl, rfl, rfl, by omega, HL0, HA.out, HB.out, by (repeat (first | assumption | exact Ext.rf _ | apply Ext.drew | apply Ext.drewN | apply Ext.alloc))⟩
    case round =>
      obtain ⟨wo, rfl⟩ : ∃ wo : World, wo = wr := ⟨_, rfl⟩
      obtain ⟨l, m, i, rfl, rfl, rfl, hi, ll, hl, hb, X⟩ := hrel
      obtain ⟨I1, I2⟩ := INV.out i m l hl.out hb.out
      have lb : ¬ 9223372036854775807 < 1 + l.length := by have := ll.out; omega
      by_cases hm : m = 0
      · subst hm
        have hl9 := Lib.hid (I1 rfl)
        clear I1 I2
        have e3 : ((0 : Int) != 0) = false := by simp
        by_cases hi9 : (i : Int) < 20
        all_goals
          by_cases hn : n < 0
          · have e9 : Hid (Lib.itoa n = 45 :: l) := by
              have h : Lib.itoa n = 45 :: l := by
                unfold Lib.itoa
                rw [if_pos hn, hl9.out]
              exact h
            go_wp2_with (fail)
            go_ret
            rw [e9.out]
            exact ⟨by first | rfl | (congr 2), X.out.tr (by (repeat (first | assumption | exact Ext.rf _ | apply Ext.drew | apply Ext.drewN | apply Ext.alloc)))⟩
          · have e9 : Hid (Lib.itoa n = l) := by
              have h : Lib.itoa n = l := by
                unfold Lib.itoa
                rw [if_neg hn, hl9.out, show n.natAbs = n.toNat by omega]
              exact h
            go_wp2_with (fail)
            go_ret
            rw [e9.out]
            exact ⟨rfl, X.out.tr (by (repeat (first | assumption | exact Ext.rf _ | apply Ext.drew | apply Ext.drewN | apply Ext.alloc)))⟩
      · have hi20 := I2 hm
        have q1 : (i : Int) < 20 := by omega
        have e2 : (m != 0) = true := by simpa using hm
        have hmb : m.natAbs ≤ n.natAbs := by
          have h3 : m.natAbs * 1 ≤ m.natAbs * 10 ^ i := Nat.mul_le_mul_left _ (Nat.pow_pos (by omega))
          have := hb.out
          omega
        have hd1 : (m.tmod 10).natAbs = m.natAbs % 10 := by rw [Int.natAbs_tmod]; rfl
        have hd2 : (m.tdiv 10).natAbs = m.natAbs / 10 := by rw [Int.natAbs_tdiv]; rfl
        obtain ⟨t, ht⟩ : ∃ t, m.tmod 10 = t := ⟨_, rfl⟩
        obtain ⟨m2, hm2⟩ : ∃ m2, m.tdiv 10 = m2 := ⟨_, rfl⟩
        rw [ht] at hd1
        rw [hm2] at hd2
        have wm : IntKind.i64.wrap m2 = m2 := IntWalk.i64_in _ (by omega)
        obtain ⟨d, hd⟩ : ∃ d, Hid (m.natAbs % 10 = d) := ⟨_, rfl⟩
        rw [hd.out] at hd1
        have d9 : d ≤ 9 := by have := hd.out; omega
        have w1 : IntKind.i64.wrap (48 + (d : Int)) = 48 + (d : Int) := IntWalk.i64_in _ (by omega)
        have NL : Hid (dgT m2.natAbs ++ (UInt8.ofNat (48 + d) :: l) = dgT n.natAbs) := by
          have h : dgT m2.natAbs ++ (UInt8.ofNat (48 + d) :: l) = dgT n.natAbs := by
            rw [← hl.out, dgT_step (u := m.natAbs) (by omega), hd2, hd.out, List.append_assoc]
            rfl
          exact h
        have NB : Hid (m2.natAbs * 10 ^ (i + 1) ≤ n.natAbs) := by
          have h : m2.natAbs * 10 ^ (i + 1) ≤ n.natAbs := by
            refine Nat.le_trans ?_ hb.out
            rw [Nat.pow_succ, hd2, Nat.mul_comm (10 ^ i) 10, ← Nat.mul_assoc]
            exact Nat.mul_le_mul_right _ (Nat.div_mul_le_self _ _)
          exact h
        have MS : Hid (m2.natAbs < m.natAbs) := by
          have h : m2.natAbs < m.natAbs := by omega
          exact h
        clear hl hb I1 I2 hmb
        have CV := run_convert_bytes_arg (P := Tryd.prog) (wo.alloc (.cells #[.int .u8 (48 + (d : Int))] 5)) 65 5 Tryd.underlying65 Tryd.underlying5 wo.heap.size 0 1 1 [48 + (d : Int)] rfl (fun i hi => by
          obtain rfl : i = 0 := by omega
          exact (show Blk (wo.alloc (.cells #[.int .u8 (48 + (d : Int))] 5)) wo.heap.size 5 #[.int .u8 (48 + (d : Int))] from .new rfl).cell 0) 9 Tryd.underlying9
        obtain ⟨s0, hs0⟩ : ∃ s0, Hid (strOfNums [48 + (d : Int)] = s0) := ⟨_, rfl⟩
        rw [hs0.out] at CV
        have ls : ¬ 9223372036854775807 < s0.size + l.length := by
          have h : s0.size = 1 := by rw [← hs0.out]; rfl
          have := ll.out
          omega
        have LL : Hid ((UInt8.ofNat (48 + d) :: l).length = i + 1) := by
          have h : (UInt8.ofNat (48 + d) :: l).length = i + 1 := by rw [List.length_cons, ll.out]
          exact h
        have ES : Hid (s0 ++ (⟨l.toArray⟩ : ByteArray) = ⟨(UInt8.ofNat (48 + d) :: l).toArray⟩) := by
          have h : s0 ++ (⟨l.toArray⟩ : ByteArray) = ⟨(UInt8.ofNat (48 + d) :: l).toArray⟩ := by
            rw [← hs0.out]
            have e1 : (48 + (d : Int)).toNat = 48 + d := by omega
            simp only [strOfNums, List.map_cons, List.map_nil, e1]
            apply ByteArray.ext
            rw [ByteArray.data_append]
            simp
          exact h
        by_cases hneg : t < 0
        · have w0 : IntKind.i64.wrap (0 - t) = (d : Int) := by rw [show 0 - t = (d : Int) by omega]; exact IntWalk.i64_in _ (by omega)
          have w0' : IntKind.i64.wrap (-t) = (d : Int) := by rw [show -t = (d : Int) by omega]; exact IntWalk.i64_in _ (by omega)
          clear hd1 hd2
          go_wp2_with (fail)
          go_roundw
          case rel => exact ⟨UInt8.ofNat (48 + d) :: l, m2, i + 1, by rw [← ES.out], rfl, by go_num, by omega, LL, NL, NB, X.out.tr (by (repeat (first | assumption | exact Ext.rf _ | apply Ext.drew | apply Ext.drewN | apply Ext.alloc)))⟩
          case measure => (have h9 := MS.out; simp only [intOf]; exact h9)
        · obtain rfl : t = (d : Int) := by omega
          clear hd1 hd2
          go_wp2_with (fail)
          go_roundw
          case rel => exact ⟨UInt8.ofNat (48 + d) :: l, m2, i + 1, by rw [← ES.out], rfl, by go_num, by omega, LL, NL, NB, X.out.tr (by (repeat (first | assumption | exact Ext.rf _ | apply Ext.drew | apply Ext.drewN | apply Ext.alloc)))⟩
          case measure => (have h9 := MS.out; simp only [intOf]; exact h9)
end Go.Proofs.YtleckhbmciiooaaDoor
namespace Go.Proofs.YtleckhbmciiooaaDoor
open Go.RowKit Go.ChangeShapes Go.WideShapes Go.ChangeAt Go.Deep

theorem itoa_le (n : Int) (h : 0 ≤ n ∧ n ≤ 9223372036854775807) : (Lib.itoa n).length ≤ 21 := Lib.itoa_length_le n (by omega) h.2
theorem bytes_app (a b : Txt) : (⟨a.toArray⟩ : ByteArray) ++ ⟨b.toArray⟩ = ⟨(a ++ b).toArray⟩ := by
  apply ByteArray.ext
  rw [ByteArray.data_append]
  simp
end Go.Proofs.YtleckhbmciiooaaDoor
namespace Go.Proofs.YtleckhbmciiooaaDoor
open Go.RowKit Go.ChangeShapes Go.WideShapes Go.ChangeAt Go.Deep

/-- the rows of numbers -/
def rowsL (i : InstP) : List (List Int) := if i.kind = 1 then (List.range i.n.toNat).map fun k => [i.weight.getD k 0, i.value.getD k 0] else i.cost.take i.n.toNat
def wideR (w : Nat) (r : List Int) : Nat := r.foldl (fun w n => max w (Lib.itoa n).length) w
def wideL (l : List (List Int)) : Nat := l.foldl wideR 0
def padT (w : Nat) (t : Txt) : Txt := List.replicate (w - t.length) 32 ++ t
def padsR (w : Nat) (r : List Int) : List Txt := r.map fun n => padT w (Lib.itoa n)
def lineT (w : Nat) (r : List Int) : Txt := Lib.join (padsR w r) [32] ++ [10]
def linesT (w : Nat) (l : List (List Int)) : Txt := (l.map (lineT w)).flatten
def tableT (i : InstP) : Txt := linesT (wideL (rowsL i)) (rowsL i)
theorem foldl_take_succ {α β : Type} (f : β → α → β) (b : β) {l : List α} {k : Nat} {x : α} (h : l[k]? = some x) : (l.take (k + 1)).foldl f b = f ((l.take k).foldl f b) x := by
  rw [List.take_add_one, h, List.foldl_append]
  rfl
theorem wideR_succ (w : Nat) {r : List Int} {k : Nat} {x : Int} (h : r[k]? = some x) : wideR w (r.take (k + 1)) = max (wideR w (r.take k)) (Lib.itoa x).length := by
  unfold wideR
  rw [foldl_take_succ _ _ h]
theorem wideL_succ {l : List (List Int)} {k : Nat} {x : List Int} (h : l[k]? = some x) : wideL (l.take (k + 1)) = wideR (wideL (l.take k)) x := by
  unfold wideL
  rw [foldl_take_succ _ _ h]
theorem wideR_ge (r : List Int) : ∀ w, w ≤ wideR w r := by
  induction r with
  | nil => intro w; exact Nat.le_refl _
  | cons a r ih => intro w; exact Nat.le_trans (Nat.le_max_left _ _) (ih _)
theorem wideR_mem {r : List Int} {x : Int} (h : x ∈ r) : ∀ w, (Lib.itoa x).length ≤ wideR w r := by
  induction r with
  | nil => cases h
  | cons a r ih =>
    intro w
    rcases List.mem_cons.1 h with rfl | h
    · exact Nat.le_trans (Nat.le_max_right w _) (wideR_ge r _)
    · exact ih h _
theorem wideR_le {r : List Int} {m : Nat} (h : ∀ x ∈ r, (Lib.itoa x).length ≤ m) : ∀ w, w ≤ m → wideR w r ≤ m := by
  induction r with
  | nil => intro w hw; exact hw
  | cons a r ih =>
    intro w hw
    exact ih (fun x hx => h x (List.mem_cons_of_mem _ hx)) _ (Nat.max_le.2 ⟨hw, h a List.mem_cons_self⟩)
theorem foldW_ge (l : List (List Int)) : ∀ w, w ≤ l.foldl wideR w := by
  induction l with
  | nil => intro w; exact Nat.le_refl _
  | cons a r ih => intro w; exact Nat.le_trans (wideR_ge a w) (ih _)
theorem foldW_mem {l : List (List Int)} {r : List Int} (h : r ∈ l) {x : Int} (hx : x ∈ r) : ∀ w, (Lib.itoa x).length ≤ l.foldl wideR w := by
  induction l with
  | nil => cases h
  | cons a l ih =>
    intro w
    rcases List.mem_cons.1 h with rfl | h
    · exact Nat.le_trans (wideR_mem hx w) (foldW_ge l _)
    · exact ih h _
theorem foldW_le {l : List (List Int)} {m : Nat} (h : ∀ r ∈ l, ∀ x ∈ r, (Lib.itoa x).length ≤ m) : ∀ w, w ≤ m → l.foldl wideR w ≤ m := by
  induction l with
  | nil => intro w hw; exact hw
  | cons a l ih =>
    intro w hw
    exact ih (fun r hr => h r (List.mem_cons_of_mem _ hr)) _ (wideR_le (h a List.mem_cons_self) _ hw)
theorem wideL_mem {l : List (List Int)} {r : List Int} (h : r ∈ l) {x : Int} (hx : x ∈ r) : (Lib.itoa x).length ≤ wideL l := foldW_mem h hx 0
theorem wideL_le {l : List (List Int)} {m : Nat} (h : ∀ r ∈ l, ∀ x ∈ r, (Lib.itoa x).length ≤ m) : wideL l ≤ m := foldW_le h 0 (Nat.zero_le _)
theorem padT_len (w : Nat) (t : Txt) (h : t.length ≤ w) : (padT w t).length = w := by
  unfold padT
  rw [List.length_append, List.length_replicate]
  omega
/-- the document's line, after b entries -/
def lineE (w : Nat) (r : List Int) : Nat → Txt
  | 0 => []
  | b + 1 => lineE w r b ++ ((if 0 < b then [32] else []) ++ padT w (Lib.itoa (r.getD b 0)))
theorem lineE_join (w : Nat) (r : List Int) : ∀ b, b ≤ r.length → lineE w r b = Lib.join ((padsR w r).take b) [32]
  | 0, _ => by simp [lineE, Lib.join]
  | b + 1, h => by
    have ih := lineE_join w r b (by omega)
    have e : (padsR w r)[b]? = some (padT w (Lib.itoa (r.getD b 0))) := by
      unfold padsR
      rw [List.getElem?_map, List.getElem?_eq_getElem (by omega)]
      simp [List.getD, List.getElem?_eq_getElem (show b < r.length by omega)]
    rw [List.take_add_one, e]
    simp only [Option.toList_some]
    by_cases hb : 0 < b
    · rw [join_snoc _ _ _ (by
        intro h0
        have := congrArg List.length h0
        rw [List.length_take, List.length_nil] at this
        unfold padsR at this
        rw [List.length_map] at this
        omega), ← ih]
      simp only [lineE, if_pos hb, List.append_assoc]
    · obtain rfl : b = 0 := by omega
      simp [lineE, Lib.join_one]
theorem lineT_E (w : Nat) (r : List Int) : lineT w r = lineE w r r.length ++ [10] := by
  unfold lineT
  rw [lineE_join w r r.length (Nat.le_refl _), List.take_of_length_le (by unfold padsR; rw [List.length_map]; exact Nat.le_refl _)]
theorem linesT_succ (w : Nat) {l : List (List Int)} {k : Nat} {x : List Int} (h : l[k]? = some x) : linesT w (l.take (k + 1)) = linesT w (l.take k) ++ lineT w x := by
  unfold linesT
  rw [List.take_add_one, h, List.map_append, List.flatten_append]
  simp
/-- how long a line is -/
theorem lineE_len (w : Nat) (r : List Int) (hr : ∀ x ∈ r, (Lib.itoa x).length ≤ w) : ∀ b, b ≤ r.length → (lineE w r b).length = b * w + (b - 1)
  | 0, _ => by simp [lineE]
  | b + 1, h => by
    have ih := lineE_len w r hr b (by omega)
    have e : r.getD b 0 = r[b] := getD_some (List.getElem?_eq_getElem (by omega))
    have hp := padT_len w (Lib.itoa (r.getD b 0)) (by rw [e]; exact hr _ (List.getElem_mem _))
    simp only [lineE, List.length_append, ih, hp]
    rw [Nat.succ_mul]
    by_cases hb : 0 < b
    · rw [if_pos hb]; simp only [List.length_cons, List.length_nil]; omega
    · obtain rfl : b = 0 := by omega
      simp
/-- no line break in a line -/
theorem dig_ne (k : Nat) (hk : k < 10) : UInt8.ofNat (48 + k) ≠ 10 := by
  have : ∀ i : Fin 10, UInt8.ofNat (48 + i.val) ≠ 10 := by decide
  exact this ⟨k, hk⟩
theorem dec_ne (n : Nat) : ∀ c ∈ Lib.decDigits n, c ≠ 10 := by
  induction n using Nat.strongRecOn with
  | _ n ih =>
    intro c hc
    rw [Lib.decDigits] at hc
    split at hc
    · simp only [List.mem_singleton] at hc
      subst hc
      exact dig_ne n (by assumption)
    · rcases List.mem_append.1 hc with h | h
      · exact ih (n / 10) (by omega) c h
      · simp only [List.mem_singleton] at h
        subst h
        exact dig_ne (n % 10) (by omega)
theorem itoa_ne (n : Int) : ∀ c ∈ Lib.itoa n, c ≠ 10 := by
  intro c hc
  unfold Lib.itoa at hc
  split at hc
  · rcases List.mem_cons.1 hc with rfl | h
    · decide
    · exact dec_ne _ c h
  · exact dec_ne _ c hc
theorem padT_ne (w : Nat) (n : Int) : ∀ c ∈ padT w (Lib.itoa n), c ≠ 10 := by
  intro c hc
  rcases List.mem_append.1 hc with h | h
  · rw [(List.mem_replicate.1 h).2]; decide
  · exact itoa_ne n c h
theorem lineE_ne (w : Nat) (r : List Int) : ∀ b, ∀ c ∈ lineE w r b, c ≠ 10
  | 0, c, h => by simp [lineE] at h
  | b + 1, c, h => by
    simp only [lineE, List.mem_append] at h
    rcases h with h | h | h
    · exact lineE_ne w r b c h
    · split at h
      · simp only [List.mem_singleton] at h
        subst h
        decide
      · cases h
    · exact padT_ne w _ c h
/-- the place of a break -/
theorem flat_at (M : Nat) (hM : 0 < M) : ∀ (l : List Txt), (∀ t ∈ l, t.length = M ∧ ∀ j, (t[j]? = some 10 ↔ j + 1 = M)) → ∀ p c, l.flatten[p]? = some c → (c = 10 ↔ p % M + 1 = M)
  | [], _, p, c, h => by simp at h
  | t :: l, ht, p, c, h => by
    obtain ⟨h1, h2⟩ := ht t List.mem_cons_self
    rw [List.flatten_cons] at h
    by_cases hp : p < t.length
    · rw [List.getElem?_append_left hp] at h
      rw [Nat.mod_eq_of_lt (by omega), ← h2 p, h]
      simp
    · rw [List.getElem?_append_right (by omega)] at h
      have := flat_at M hM l (fun x hx => ht x (List.mem_cons_of_mem _ hx)) _ c h
      rw [this, h1]
      have e : (p - M) % M = p % M := by
        rw [Nat.mod_eq_sub_mod (show p ≥ M by omega)]
      rw [e]
/-- where the breaks of a table stand -/
theorem table_breaks {l : List (List Int)} {m : Nat} (hl : ∀ r ∈ l, r.length = m) {p : Nat} {c : UInt8} (h : (linesT (wideL l) l)[p]? = some c) : c = 10 ↔ p % (m * wideL l + (m - 1) + 1) = m * wideL l + (m - 1) := by
  have := flat_at (m * wideL l + (m - 1) + 1) (by omega) (l.map (lineT (wideL l))) (fun t ht => by
    obtain ⟨r, hr, rfl⟩ := List.mem_map.1 ht
    have e := lineE_len (wideL l) r (fun x hx => wideL_mem hr hx) r.length (Nat.le_refl _)
    rw [hl r hr] at e
    have ne := lineE_ne (wideL l) r r.length
    rw [lineT_E]
    rw [hl r hr] at *
    refine ⟨by rw [List.length_append, e]; rfl, fun j => ⟨fun h => ?_, fun h => ?_⟩⟩
    · by_cases hj : j < (lineE (wideL l) r m).length
      · rw [List.getElem?_append_left hj] at h
        exact absurd rfl (ne 10 (List.mem_of_getElem? h))
      · have := (List.getElem?_eq_some_iff.1 h).1
        rw [List.length_append, List.length_singleton] at this
        omega
    · rw [List.getElem?_append_right (by omega), show j - (lineE (wideL l) r m).length = 0 by omega]
      rfl) p c h
  rw [this]
  omega
end Go.Proofs.YtleckhbmciiooaaDoor
namespace Go.Proofs.YtleckhbmciiooaaDoor
open Go.RowKit Go.ChangeShapes Go.WideShapes Go.ChangeAt Go.Deep

/-- an answer in words, or why it is none -/
def ansG (i : InstP) (x : List Int) : Txt × Int := if (costG i x).2 = 0 then (wordsE i.kind x ++ tAt ++ Lib.itoa (ofG i (costG i x).1) ++ [10], 0) else ([], (costG i x).2)
/-- what is known of an answer -/
structure AnsIs (i : InstP) (x : List Int) : Prop where
  chk : checkP i = 0
  len : (x.length : Int) = i.n
  n64 : x.length ≤ 64
  rng : ∀ y ∈ x, 0 ≤ y ∧ y ≤ 1000
  c0 : 0 ≤ (costG i x).1
  c1 : (costG i x).1 ≤ 137438953408
theorem ans_is {i : InstP} {x : List Int} (h : (costG i x).2 = 0) : AnsIs i x := by
  have hc := costG_chk h
  by_cases hk : i.kind = 1
  · have b := (costG_bd hk h).2
    have ok := knap_ok hc hk
    have k2 := ok.n2
    have k3 := ok.v
    unfold costG at h
    rw [if_neg (by simpa using hc), if_pos hk] at h
    by_cases hl : (x.length : Int) = i.n ∧ ∀ v ∈ x, v = 0 ∨ v = 1
    · exact ⟨hc, hl.1, by omega, fun y hy => by rcases hl.2 y hy with e | e <;> omega, b.1, by omega⟩
    · rw [if_neg hl] at h
      exact absurd h (by decide)
  · have sq := square_ok hc hk
    have rok := rows_ok sq
    have n2 := rok.n2
    have n1 := rok.n1
    have hin : (i.cost.length : Int) = i.n := sq.len
    have num := ends_num rok
    have h' := h
    unfold costG at h'
    rw [if_neg (by simpa using hc), if_neg hk] at h'
    by_cases hp : permB x i.cost.length = true ∧ (i.kind = 3 → x[0]? = some 0)
    · obtain ⟨l, rfl, hl⟩ := permB_iff.1 hp.1
      have ll : l.length = i.cost.length := by rw [hl.length_eq, List.length_range]
      have lt : ∀ y ∈ l, y < i.cost.length := fun y hy => List.mem_range.1 (hl.mem_iff.1 hy)
      have hb : 0 ≤ (costG i (intsN l)).1 ∧ (costG i (intsN l)).1 ≤ 137438953408 := by
        unfold costG
        rw [if_neg (by simpa using hc), if_neg hk, if_pos hp]
        by_cases h2 : i.kind = 2
        · simp only [h2, if_true]
          rw [costF_range ll.symm]
          have h1 := sumL_map_bd (f := fun k => costAt i.cost k (l.getD k 0)) (B := 2147483647) (List.range l.length) (fun k hk => by
            have hk := List.mem_range.1 hk
            have e : l[k]? = some l[k] := List.getElem?_eq_getElem hk
            rw [getD_some e]
            exact num k _ (by omega) (lt _ (List.getElem_mem hk)))
          rw [List.length_range] at h1
          omega
        · simp only [h2, if_false]
          have e : (intsN l).tail.map Int.toNat = l.tail := by
            cases l with
            | nil => rfl
            | cons a q => simp [intsN, Function.comp_def]
          rw [e]
          have h1 := pathT_bd num l.tail 0 (by omega) fun y hy => lt y (List.mem_of_mem_tail hy)
          have h3 : l.tail.length ≤ 24 := by rw [List.length_tail]; omega
          omega
      refine ⟨hc, by rw [intsN_len, ll]; exact hin, by rw [intsN_len, ll]; omega, fun y hy => ?_, hb.1, hb.2⟩
      obtain ⟨k, hk, rfl⟩ := List.mem_map.1 hy
      have := lt k hk
      omega
    · rw [if_neg hp] at h'
      exact absurd h' (by decide)
theorem ofG_bd {i : InstP} {x : List Int} (h : (costG i x).2 = 0) : -9223372036854775808 ≤ ofG i (costG i x).1 ∧ ofG i (costG i x).1 ≤ 9223372036854775807 := by
  have A := ans_is h
  have a1 := A.c0
  have a2 := A.c1
  unfold ofG
  split
  · rename_i hk
    have ok := knap_ok A.chk hk
    have s := sum31 ok.sv
    have k2 := ok.n2
    have k3 := ok.v
    omega
  · omega
end Go.Proofs.YtleckhbmciiooaaDoor
namespace Go.Proofs.YtleckhbmciiooaaDoor
open Go.Shelf

def itoaLay_ren : Go.Shelf.Ren := ⟨fun | 171 => 77 | 243 => 103 | 246 => 124 | 283 => 148 | 284 => 149 | 285 => 150 | 286 => 151 | 129 => 147 | 317 => 163 | 318 => 164 | 319 => 165 | 320 => 166 | 337 => 169 | 338 => 120 | n => n, fun | 3 => 3 | 9 => 9 | 2 => 2 | 4 => 4 | 171 => 172 | 0 => 0 | 53 => 28 | 37 => 65 | 5 => 5 | 173 => 174 | 212 => 187 | 51 => 137 | 20 => 20 | 213 => 188 | 46 => 117 | 232 => 196 | 233 => 171 | n => n, fun | 17 => 2 | 18 => 5 | 19 => 1 | n => n⟩
set_option maxRecDepth 100000 in
theorem itoaLay : LaysM.n171 Tryd.prog itoaLay_ren where
  mixed := by kernel_rfl
  f129 := Tryd.func147.trans (congrArg some (by kernel_rfl))
  f171 := Tryd.func77.trans (congrArg some (by kernel_rfl))
  f243 := Tryd.func103.trans (congrArg some (by kernel_rfl))
  f246 := Tryd.func124.trans (congrArg some (by kernel_rfl))
  f283 := Tryd.func148.trans (congrArg some (by kernel_rfl))
  f284 := Tryd.func149.trans (congrArg some (by kernel_rfl))
  f285 := Tryd.func150.trans (congrArg some (by kernel_rfl))
  f286 := Tryd.func151.trans (congrArg some (by kernel_rfl))
  f317 := Tryd.func163.trans (congrArg some (by kernel_rfl))
  f318 := Tryd.func164.trans (congrArg some (by kernel_rfl))
  f319 := Tryd.func165.trans (congrArg some (by kernel_rfl))
  f320 := Tryd.func166.trans (congrArg some (by kernel_rfl))
  f337 := Tryd.func169.trans (congrArg some (by kernel_rfl))
  f338 := Tryd.func120.trans (congrArg some (by kernel_rfl))
  t0 := Tryd.underlying0
  a0 := Tryd.isAgg0
  z0 := Tryd.sizeOf0
  v0 := Tryd.zeroValue0
  t2 := Tryd.underlying2
  a2 := Tryd.isAgg2
  z2 := Tryd.sizeOf2
  v2 := Tryd.zeroValue2
  t3 := Tryd.underlying3
  a3 := Tryd.isAgg3
  z3 := Tryd.sizeOf3
  v3 := Tryd.zeroValue3
  t4 := Tryd.underlying4
  a4 := Tryd.isAgg4
  z4 := Tryd.sizeOf4
  v4 := Tryd.zeroValue4
  t5 := Tryd.underlying5
  a5 := Tryd.isAgg5
  z5 := Tryd.sizeOf5
  v5 := Tryd.zeroValue5
  t9 := Tryd.underlying9
  a9 := Tryd.isAgg9
  z9 := Tryd.sizeOf9
  v9 := Tryd.zeroValue9
  t20 := Tryd.underlying20
  a20 := Tryd.isAgg20
  z20 := Tryd.sizeOf20
  v20 := Tryd.zeroValue20
  t37 := Tryd.underlying65
  a37 := Tryd.isAgg65
  z37 := Tryd.sizeOf65
  v37 := Tryd.zeroValue65
  t46 := Tryd.underlying117
  a46 := Tryd.isAgg117
  z46 := Tryd.sizeOf117
  v46 := Tryd.zeroValue117
  t51 := Tryd.underlying137
  a51 := Tryd.isAgg137
  z51 := Tryd.sizeOf137
  v51 := Tryd.zeroValue137
  t53 := Tryd.underlying28
  a53 := Tryd.isAgg28
  z53 := Tryd.sizeOf28
  v53 := Tryd.zeroValue28
  t171 := Tryd.underlying172
  a171 := Tryd.isAgg172
  z171 := Tryd.sizeOf172
  v171 := Tryd.zeroValue172
  t173 := Tryd.underlying174
  a173 := Tryd.isAgg174
  z173 := Tryd.sizeOf174
  v173 := Tryd.zeroValue174
  t212 := Tryd.underlying187
  a212 := Tryd.isAgg187
  z212 := Tryd.sizeOf187
  v212 := Tryd.zeroValue187
  t213 := Tryd.underlying188
  a213 := Tryd.isAgg188
  z213 := Tryd.sizeOf188
  t232 := Tryd.underlying196
  a232 := Tryd.isAgg196
  z232 := Tryd.sizeOf196
  v232 := Tryd.zeroValue196
  t233 := Tryd.underlying171
  a233 := Tryd.isAgg171
  z233 := Tryd.sizeOf171
  v233 := Tryd.zeroValue171
  g17 := by kernel_rfl
  g18 := by kernel_rfl
  g19 := by kernel_rfl
  i0 := by kernel_rfl
  i2 := by kernel_rfl
  i3 := by kernel_rfl
  i4 := by kernel_rfl
  i5 := by kernel_rfl
  i9 := by kernel_rfl
  i20 := by kernel_rfl
  i37 := by kernel_rfl
  i46 := by kernel_rfl
  i51 := by kernel_rfl
  i53 := by kernel_rfl
  i171 := by kernel_rfl
  i173 := by kernel_rfl
  i212 := by kernel_rfl
  i232 := by kernel_rfl
  i233 := by kernel_rfl
  m17 := by kernel_rfl
  m18 := by kernel_rfl
  m19 := by kernel_rfl
end Go.Proofs.YtleckhbmciiooaaDoor
namespace Go.Proofs.YtleckhbmciiooaaDoor
open Go.RowKit Go.ChangeShapes Go.WideShapes Go.ChangeAt Go.Deep

/-- the table of the powers of ten is as it was laid -/
def Ten (w : World) : Prop := Lib.TabIs Tryd.prog w "internal/strconv.uint64pow10" .u64 Lib.pow10Tab
theorem Ten.ext {w w' : World} (h : Ten w) (x : Ext w w') : Ten w' := Lib.tabBelow_of_tabIs h w' x
theorem ext_grow {w0 w : World} (h : Ext w0 w) (os : Array Obj) : Ext w0 (Go.Sort.grow w os) :=
  Below.trans h ⟨rfl, rfl, rfl, by simp [Go.Sort.grow], fun k hk => by have := h.size; simp only [Go.Sort.grow]; exact Array.getElem?_append_left (by omega)⟩
theorem itoa_any (n : Int) (h0 : -9223372036854775808 ≤ n) (h1 : n ≤ 9223372036854775807) (w : World) (hT : Ten w) :
    Calls Tryd.prog 77 #[.int .i64 n] w fun e w' => e = .returned (.string ⟨(Lib.itoa n).toArray⟩) ∧ Ext w w' := by
  refine (Any.strconv_Itoa itoaLay n h0 h1 w hT).mono ?_
  rintro e w' ⟨rfl, k, os, rfl⟩
  exact ⟨rfl, ext_grow ((Ext.rf w).drewN k) os⟩
set_option maxRecDepth 100000 in
theorem write_any (n : Int) (h0 : -9223372036854775808 ≤ n) (h1 : n ≤ 9223372036854775807) (w : World) (hT : Ten w) :
    Calls Tryd.prog 46 #[.int .i64 n] w fun e w' => e = .returned (.string ⟨(Lib.itoa n).toArray⟩) ∧ Ext w w' := by
  have IT := Lib.hid (fun (W : World) (x : Ext w W) => itoa_any n h0 h1 W (hT.ext x))
  go_enter Tryd.func46, Tryd.ntmps46
  go_wp2_with (fail)
  refine (IT.out _ (by (repeat (first | assumption | exact Ext.rf _ | apply Ext.drew | apply Ext.drewN | apply Ext.alloc)))).mono ?_
  rintro e w1 ⟨rfl, x1⟩
  have X1 := Lib.hid (Ext.tr (a := w) (by (repeat (first | assumption | exact Ext.rf _ | apply Ext.drew | apply Ext.drewN | apply Ext.alloc))) x1)
  go_wp2_with (fail)
  go_ret
  exact ⟨rfl, X1.out⟩
end Go.Proofs.YtleckhbmciiooaaDoor
namespace Go.Proofs.YtleckhbmciiooaaDoor
open Go.RowKit Go.ChangeShapes Go.WideShapes Go.ChangeAt Go.Deep

set_option maxRecDepth 100000 in
set_option maxHeartbeats 2000000 in
theorem show_any (i : InstP) (us : List Value) (P : Option Addr) (c : Nat) (x : List Int) (w : World) (H : RInst w us i) (hP : RdI w P x) (hT : Ten w) (hx : x.length ≤ 1000) (hlw : i.weight.length ≤ maxLen) (hlv : i.value.length ≤ maxLen) (hls : i.weight.length + i.value.length ≤ maxLen)
    (WO : (costG i x).2 = 0 → ∀ W, Ext w W → Calls Tryd.prog 45 #[.agg (List.toArray us), .slice P x.length c] W fun e w' => e = .returned (txS (wordsP i.kind x)) ∧ Ext W w')
    (WL0 : (costG i x).2 = 0 → (wordsP i.kind x).length ≤ 10000) :
    Calls Tryd.prog 15 #[.agg (List.toArray us), .slice P x.length c] w fun e w' => e = .returned (.tuple #[txS (ansG i x).1, .int .i64 (ansG i x).2]) ∧ Ext w w' := by
  have VV := fun (W : World) (y : Ext w W) => vvalue_any i us P c x W (H.ext y) (hP.ext y) hx hlw hlv hls
  unfold ansG
  unfold valG at VV
  by_cases h : (costG i x).2 = 0
  · have A := ans_is h
    have vb := ofG_bd h
    have WO' := WO h
    have WL := WL0 h
    have WD := fun (W : World) (y : Ext w W) => write_any (ofG i (costG i x).1) vb.1 vb.2 W (hT.ext y)
    have li := Lib.itoa_length_le _ vb.1 vb.2
    rw [if_pos h] at VV ⊢
    rw [words_eq (check_kind A.chk)]
    clear WO WL0 A vb h hT hP hx hlw hlv hls
    generalize ofG i (costG i x).1 = vv at *
    generalize hiv : Lib.itoa vv = tv at *
    generalize wordsP i.kind x = l at *
    have lA : ¬ 9223372036854775807 < l.length + 2 := by omega
    have lB : ¬ 9223372036854775807 < l.length + 2 + tv.length := by omega
    have lC : ¬ 9223372036854775807 < l.length + 2 + tv.length + 1 := by omega
    have ES : Hid ((⟨l.toArray⟩ : ByteArray) ++ ⟨#[58, 32]⟩ ++ ⟨tv.toArray⟩ ++ ⟨#[10]⟩ = ⟨(l ++ tAt ++ tv ++ [10]).toArray⟩) := by
      have h : (⟨l.toArray⟩ : ByteArray) ++ ⟨#[58, 32]⟩ ++ ⟨tv.toArray⟩ ++ ⟨#[10]⟩ = ⟨(l ++ tAt ++ tv ++ [10]).toArray⟩ := by
        rw [show (⟨#[58, 32]⟩ : ByteArray) = ⟨(tAt : Txt).toArray⟩ from rfl, show (⟨#[10]⟩ : ByteArray) = ⟨([10] : Txt).toArray⟩ from rfl, bytes_app, bytes_app, bytes_app]
      exact h
    obtain ⟨kind, nn, cap, xw, xv, co⟩ := i
    obtain ⟨A, a, B, b, D, d, rfl, -, -, -⟩ := H
    simp only at *
    have B1 : Hid (Blk (w.alloc (.cells #[.int .i64 kind, .int .i64 nn, .int .i64 cap, .slice A xw.length a, .slice B xv.length b, .slice D co.length d] 25)) w.heap.size 25 #[.int .i64 kind, .int .i64 nn, .int .i64 cap, .slice A xw.length a, .slice B xv.length b, .slice D co.length d]) := .new rfl
    replace VV := Lib.hid VV
    replace WO' := Lib.hid WO'
    replace WD := Lib.hid WD
    replace hiv := Lib.hid hiv
    unfold txS at *
    go_enter Tryd.func15, Tryd.ntmps15
    go_wp2_with (fail)
    refine (VV.out _ (by (repeat (first | assumption | exact Ext.rf _ | apply Ext.drew | apply Ext.drewN | apply Ext.alloc)))).mono ?_
    rintro e w1 ⟨rfl, x1⟩
    have X1 := Lib.hid (Ext.tr (a := w) (by (repeat (first | assumption | exact Ext.rf _ | apply Ext.drew | apply Ext.drewN | apply Ext.alloc))) x1)
    have b1 := B1.out.ext x1
    have t0 : w1.cell? ⟨w.heap.size, 0, none⟩ = some (.int .i64 kind) := b1.cell 0
    have t1 : w1.cell? ⟨w.heap.size, 1, none⟩ = some (.int .i64 nn) := b1.cell 1
    have t2 : w1.cell? ⟨w.heap.size, 2, none⟩ = some (.int .i64 cap) := b1.cell 2
    have t3 : w1.cell? ⟨w.heap.size, 3, none⟩ = some (.slice A xw.length a) := b1.cell 3
    have t4 : w1.cell? ⟨w.heap.size, 4, none⟩ = some (.slice B xv.length b) := b1.cell 4
    have t5 : w1.cell? ⟨w.heap.size, 5, none⟩ = some (.slice D co.length d) := b1.cell 5
    clear x1 B1 b1
    go_wp2_with (fail)
    refine (WO'.out _ (X1.out.tr (by (repeat (first | assumption | exact Ext.rf _ | apply Ext.drew | apply Ext.drewN | apply Ext.alloc))))).mono ?_
    rintro e w2 ⟨rfl, x2⟩
    have X2 := Lib.hid (X1.out.tr (Ext.tr (by (repeat (first | assumption | exact Ext.rf _ | apply Ext.drew | apply Ext.drewN | apply Ext.alloc))) x2))
    clear x2 t0 t1 t2 t3 t4 t5
    go_wp2_with (fail)
    refine (WD.out _ (X2.out.tr (by (repeat (first | assumption | exact Ext.rf _ | apply Ext.drew | apply Ext.drewN | apply Ext.alloc))))).mono ?_
    rintro e w3 ⟨rfl, x3⟩
    have X3 := Lib.hid (X2.out.tr (Ext.tr (by (repeat (first | assumption | exact Ext.rf _ | apply Ext.drew | apply Ext.drewN | apply Ext.alloc))) x3))
    clear x3
    go_wp2_with (fail)
    go_ret2
    exact ⟨by rw [← ES.out]; rfl, X3.out⟩
  · rw [if_neg h] at VV ⊢
    generalize (costG i x).2 = ee at *
    have e1 : (ee != 0) = true := by simpa using h
    clear h hP WO WL0 hT hx hlw hlv hls
    obtain ⟨kind, nn, cap, xw, xv, co⟩ := i
    obtain ⟨A, a, B, b, D, d, rfl, -, -, -⟩ := H
    simp only at *
    replace VV := Lib.hid VV
    unfold txS
    go_enter Tryd.func15, Tryd.ntmps15
    go_wp2_with (fail)
    refine (VV.out _ (by (repeat (first | assumption | exact Ext.rf _ | apply Ext.drew | apply Ext.drewN | apply Ext.alloc)))).mono ?_
    rintro e w1 ⟨rfl, x1⟩
    have X1 := Lib.hid (Ext.tr (a := w) (by (repeat (first | assumption | exact Ext.rf _ | apply Ext.drew | apply Ext.drewN | apply Ext.alloc))) x1)
    clear x1
    go_wp2_with (fail)
    go_ret2
    exact ⟨rfl, X1.out⟩
end Go.Proofs.YtleckhbmciiooaaDoor
namespace Go.Proofs.YtleckhbmciiooaaDoor
open Go.Shelf

def joinLay_ren : Go.Shelf.Ren := ⟨fun | 156 => 52 | 165 => 81 | 166 => 51 | 169 => 54 | 240 => 83 | 241 => 107 | 276 => 108 | 277 => 125 | n => n, fun | 31 => 63 | 9 => 9 | 3 => 3 | 4 => 4 | 0 => 0 | 20 => 20 | 72 => 67 | 76 => 71 | 70 => 64 | 37 => 65 | 75 => 70 | 127 => 122 | 164 => 142 | 5 => 5 | 80 => 75 | n => n, fun n => n⟩
set_option maxRecDepth 100000 in
theorem joinLay : Lays.n156 Tryd.prog joinLay_ren where
  mixed := by kernel_rfl
  f156 := Tryd.func52.trans (congrArg some (by kernel_rfl))
  f165 := Tryd.func81.trans (congrArg some (by kernel_rfl))
  f166 := Tryd.func51.trans (congrArg some (by kernel_rfl))
  f169 := Tryd.func54.trans (congrArg some (by kernel_rfl))
  f240 := Tryd.func83.trans (congrArg some (by kernel_rfl))
  f241 := Tryd.func107.trans (congrArg some (by kernel_rfl))
  f276 := Tryd.func108.trans (congrArg some (by kernel_rfl))
  f277 := Tryd.func125.trans (congrArg some (by kernel_rfl))
  t0 := Tryd.underlying0
  a0 := Tryd.isAgg0
  z0 := Tryd.sizeOf0
  v0 := Tryd.zeroValue0
  t3 := Tryd.underlying3
  a3 := Tryd.isAgg3
  z3 := Tryd.sizeOf3
  v3 := Tryd.zeroValue3
  t4 := Tryd.underlying4
  a4 := Tryd.isAgg4
  z4 := Tryd.sizeOf4
  v4 := Tryd.zeroValue4
  t9 := Tryd.underlying9
  a9 := Tryd.isAgg9
  z9 := Tryd.sizeOf9
  v9 := Tryd.zeroValue9
  t20 := Tryd.underlying20
  a20 := Tryd.isAgg20
  z20 := Tryd.sizeOf20
  v20 := Tryd.zeroValue20
  t31 := Tryd.underlying63
  a31 := Tryd.isAgg63
  z31 := Tryd.sizeOf63
  v31 := Tryd.zeroValue63
  t37 := Tryd.underlying65
  a37 := Tryd.isAgg65
  z37 := Tryd.sizeOf65
  v37 := Tryd.zeroValue65
  t70 := Tryd.underlying64
  a70 := Tryd.isAgg64
  z70 := Tryd.sizeOf64
  v70 := Tryd.zeroValue64
  t72 := Tryd.underlying67
  a72 := Tryd.isAgg67
  z72 := Tryd.sizeOf67
  v72 := Tryd.zeroValue67
  t75 := Tryd.underlying70
  a75 := Tryd.isAgg70
  z75 := Tryd.sizeOf70
  v75 := Tryd.zeroValue70
  t76 := Tryd.underlying71
  a76 := Tryd.isAgg71
  z76 := Tryd.sizeOf71
  v76 := Tryd.zeroValue71
  t127 := Tryd.underlying122
  a127 := Tryd.isAgg122
  z127 := Tryd.sizeOf122
  v127 := Tryd.zeroValue122
  t164 := Tryd.underlying142
  a164 := Tryd.isAgg142
  z164 := Tryd.sizeOf142
  v164 := Tryd.zeroValue142
theorem joinExtra : Builder.Extra Tryd.prog joinLay_ren where
  sizeBuilder := by kernel_rfl
  liesBuilder := by kernel_rfl
  t5 := Tryd.underlying5
  a5 := Tryd.isAgg5
  z5 := Tryd.sizeOf5
  v5 := Tryd.zeroValue5
  infoByte := by kernel_rfl
  cellsByte := by kernel_rfl
  sizeByte := by kernel_rfl
  neB5 := by decide
/-- strings.Join -/
theorem join_any (bk o c : Nat) (xs : List ByteArray) (sep : ByteArray) (w : World)
    (hcells : ∀ (j : Nat) x, xs[j]? = some x → w.cell? ⟨bk, o + j, none⟩ = some (.string x))
    (hbk : bk < w.heap.size) (hN : xs.length ≤ 140737488355328) (hcap : xs.length ≤ c)
    (hlen : (Lib.join (xs.map (·.data.toList)) sep.data.toList).length ≤ 140737488355328) :
    Calls Tryd.prog 52 #[.slice (some ⟨bk, o, none⟩) xs.length c, .string sep] w fun e w' => e = .returned (.string ⟨(Lib.join (xs.map (·.data.toList)) sep.data.toList).toArray⟩) ∧ Ext w w' :=
  Any.strings_Join joinLay joinExtra bk o c xs sep w hcells hbk hN hcap hlen
end Go.Proofs.YtleckhbmciiooaaDoor
namespace Go.Proofs.YtleckhbmciiooaaDoor
open Go.RowKit Go.ChangeShapes Go.WideShapes Go.ChangeAt Go.Deep

theorem str_info : (Tryd.prog.info? 9).map (fun i => (i.zero, i.size, i.bytes)) = some (some (.string ⟨#[]⟩), 1, 16) := by kernel_rfl
def txV (l : List Txt) : List Value := l.map txS
theorem txV_snoc (l : List Txt) (a : Txt) : txV (l ++ [a]) = txV l ++ [txS a] := by unfold txV; rw [List.map_append]; rfl
theorem txV_len (l : List Txt) : (txV l).length = l.length := by unfold txV; rw [List.length_map]
/-- strings.Join of a slice of the call's own -/
theorem join_own (base : Nat) (A : Option Addr) (c : Nat) (l : List Txt) (s : Txt) (w : World) (h : OwV w base 9 1 A l.length c (txV l)) (h0 : l ≠ []) (hn : l.length ≤ 1000) (hlen : (Lib.join l s).length ≤ 140737488355328) :
    Calls Tryd.prog 52 #[.slice A l.length c, .string ⟨s.toArray⟩] w fun e w' => e = .returned (txS (Lib.join l s)) ∧ Ext w w' := by
  have hr := h.read.rdC
  have hle := h.le
  rcases hr with e | ⟨b, off, rfl, hlt, hc⟩
  · exact absurd (List.map_eq_nil_iff.1 e) h0
  · have e1 : (l.map fun t : Txt => (⟨t.toArray⟩ : ByteArray)).map (·.data.toList) = l := by
      rw [List.map_map]
      exact (List.map_congr_left fun t _ => by simp).trans (List.map_id l)
    have J := join_any b off c (l.map fun t : Txt => (⟨t.toArray⟩ : ByteArray)) ⟨s.toArray⟩ w (fun j x hj => by
      rw [List.getElem?_map] at hj
      obtain ⟨t, ht, rfl⟩ := Option.map_eq_some_iff.1 hj
      refine hc j _ ?_
      unfold txV
      rw [List.getElem?_map, ht]
      rfl) hlt (by rw [List.length_map]; omega) (by rw [List.length_map]; exact hle.1) (by rw [e1]; simpa using hlen)
    rw [e1, List.length_map] at J
    refine J.mono ?_
    rintro e w' ⟨rfl, x⟩
    exact ⟨by simp [txS], x⟩
set_option maxRecDepth 100000 in
set_option maxHeartbeats 2000000 in
theorem words3_any (i : InstP) (us : List Value) (P : Option Addr) (c : Nat) (x : List Int) (w : World) (H : RInst w us i) (hP : RdI w P x) (hT : Ten w) (hk : i.kind = 3) (hl : x.length ≤ 64) (hx : ∀ y ∈ x, 0 ≤ y ∧ y ≤ 1000) (hJ : (wordsP 3 x).length ≤ 10000) :
    Calls Tryd.prog 45 #[.agg (List.toArray us), .slice P x.length c] w fun e w' => e = .returned (txS (wordsP 3 x)) ∧ Ext w w' := by
  obtain ⟨i0, hi, hz0, hz1, hz2⟩ := info_parts str_info
  have WE : Hid (wordsP 3 x = Lib.join (piecesT x x.length ++ [[48]]) tWay) := by
    have h : wordsP 3 x = Lib.join (piecesT x x.length ++ [[48]]) tWay := by unfold wordsP; rw [if_neg (by decide), if_neg (by decide)]
    exact h
  have WD := fun (W : World) (y : Ext w W) (n : Int) (h : 0 ≤ n ∧ n ≤ 1000) => write_any n (by omega) (by omega) W (hT.ext y)
  have PS : Hid (∀ k, piecesT x (k + 1) = piecesT x k ++ [Lib.itoa (x.getD k 0)]) := fun k => piecesT_succ x k
  have PL : Hid (∀ k, (piecesT x k).length = k) := fun k => by unfold piecesT; rw [List.length_map, List.length_range]
  obtain ⟨kind, nn, cap, xw, xv, co⟩ := i
  obtain ⟨A, a, B, b, D, d, rfl, -, -, -⟩ := H
  simp only at *
  subst hk
  replace hi := Lib.hid hi
  replace hz0 := Lib.hid hz0
  replace hz1 := Lib.hid hz1
  replace hz2 := Lib.hid hz2
  replace WD := Lib.hid WD
  replace hP := Lib.hid hP
  replace hx := Lib.hid hx
  replace hJ := Lib.hid hJ
  clear hT
  have START : Hid (OwV (w.alloc (.cells #[.int .i64 3, .int .i64 nn, .int .i64 cap, .slice A xw.length a, .slice B xv.length b, .slice D co.length d] 25)) w.heap.size 9 1 none 0 0 (txV (piecesT x 0))) := OwV.nil _ _ _ _
  unfold txS at *
  go_enter Tryd.func45, Tryd.ntmps45
  go_wp2_with (fail)
  go_loopw [5, 59] (fun v5 v59 wr => ∃ (k : Nat) (C' : Option Addr) (cc : Nat), v59 = .int .i64 k ∧ v5 = .slice C' k cc ∧ k ≤ x.length ∧ Hid (OwV wr w.heap.size 9 1 C' k cc (txV (piecesT x k))) ∧ Hid (Ext w wr)) (fun _ v _ => x.length - (intOf v).toNat)
  case atStart => exact ⟨0, none, 0, rfl, rfl, by omega, START, by (repeat (first | assumption | exact Ext.rf _ | apply Ext.drew | apply Ext.drewN | apply Ext.alloc))⟩
  case round =>
    obtain ⟨wo, rfl⟩ : ∃ wo : World, wo = wr := ⟨_, rfl⟩
    clear START
    obtain ⟨k, C', cc, rfl, rfl, hk, oV, Y⟩ := hrel
    have hk64 : k ≤ 64 := by omega
    have zw := Y.out.size
    by_cases hlt : k < x.length
    · obtain ⟨pb, po, y, rfl, zy, cy, ey, _⟩ := (hP.out.ext Y.out).at (k := k) hlt
      have q1 : (k : Int) < (x.length : Int) := by omega
      have yb := hx.out y (List.mem_of_getElem? ey.out)
      have PE : Hid (txV (piecesT x (k + 1)) = txV (piecesT x k) ++ [txS (Lib.itoa y)]) := by
        have h : txV (piecesT x (k + 1)) = txV (piecesT x k) ++ [txS (Lib.itoa y)] := by rw [PS.out, getD_some ey.out, txV_snoc]
        exact h
      clear ey
      go_wp2_with (fail)
      refine (WD.out _ (Y.out.tr (by (repeat (first | assumption | exact Ext.rf _ | apply Ext.drew | apply Ext.drewN | apply Ext.alloc)))) y yb).mono ?_
      rintro e w5 ⟨rfl, x5⟩
      have oV5 := oV.out.ext (Ext.tr (a := wo) (by (repeat (first | assumption | exact Ext.rf _ | apply Ext.drew | apply Ext.drewN | apply Ext.alloc))) x5)
      have x5' := Ext.tr (a := wo) (by (repeat (first | assumption | exact Ext.rf _ | apply Ext.drew | apply Ext.drewN | apply Ext.alloc))) x5
      have zw5 := x5'.size
      go_wp2_with (at_builtin; refine wpl_app_v _ (e := 9) Tryd.underlying63 hi.out hz0.out hz1.out hz2.out (by simp [Value.cells]) (by omega) rfl _ _ rfl w.heap.size C' k cc (txV (piecesT x k)) (some ⟨w5.heap.size, 0, none⟩) 1 1 [txS (Lib.itoa y)] rfl rfl (oV5.ext ((Ext.rf _).alloc _)) (RdV.blk (.new (by simp))).rdC (by simp) (by simp [Value.oneCell', txS]) (by simp only [maxLen]; omega) (by omega) (by simp; omega) ?_; rintro C6 c6 w6 o6 g6 _)
      have M6 := (oV5.ext ((Ext.rf w5).alloc (.cells #[txS (Lib.itoa y)] 9))).grownT g6
      have X6 : Ext wo (w5.alloc (.cells #[txS (Lib.itoa y)] 9)) := x5'.tr ((Ext.rf _).alloc _)
      have NEW : Hid (OwV w6 w.heap.size 9 1 C6 (k + 1) c6 (txV (piecesT x (k + 1)))) := by
        have h : OwV w6 w.heap.size 9 1 C6 (k + 1) c6 (txV (piecesT x (k + 1))) := by rw [PE.out]; exact o6
        exact h
      have XN : Hid (Ext w w6) := (Y.out.tr X6).modT M6 (Nat.le_refl _)
      clear oV5 x5 x5' o6 g6 M6 X6
      go_wp2_with (fail)
      go_roundw
      case rel => exact ⟨k + 1, C6, c6, by go_num, rfl, by omega, NEW, XN⟩
      case measure => simp [intOf]; omega
    · obtain rfl : k = x.length := by omega
      have PN : Hid (txV (piecesT x x.length ++ [[48]]) = txV (piecesT x x.length) ++ [txS [48]]) := by
        have h : txV (piecesT x x.length ++ [[48]]) = txV (piecesT x x.length) ++ [txS [48]] := txV_snoc _ _
        exact h
      have LN : Hid ((piecesT x x.length ++ [[48]]).length = x.length + 1) := by
        have h : (piecesT x x.length ++ [[48]]).length = x.length + 1 := by rw [List.length_append, PL.out]; rfl
        exact h
      go_wp2_with (at_builtin; refine wpl_app_v _ (e := 9) Tryd.underlying63 hi.out hz0.out hz1.out hz2.out (by simp [Value.cells]) (by omega) rfl _ _ rfl w.heap.size C' x.length cc (txV (piecesT x x.length)) (some ⟨wo.heap.size, 0, none⟩) 1 1 [txS [48]] rfl rfl (oV.out.ext ((Ext.rf _).alloc _)) (RdV.blk (.new (by simp))).rdC (by simp) (by simp [Value.oneCell', txS]) (by simp only [maxLen]; omega) (by omega) (by simp; omega) ?_; rintro C6 c6 w6 o6 g6 _)
      have M6 := (oV.out.ext ((Ext.rf wo).alloc (.cells #[txS [48]] 9))).grownT g6
      have X6 : Ext wo (wo.alloc (.cells #[txS [48]] 9)) := (Ext.rf _).alloc _
      have XN : Hid (Ext w w6) := (Y.out.tr X6).modT M6 (Nat.le_refl _)
      have NEW : OwV w6 w.heap.size 9 1 C6 (piecesT x x.length ++ [[48]]).length c6 (txV (piecesT x x.length ++ [[48]])) := by
        rw [PN.out, LN.out]
        exact o6
      have J := join_own w.heap.size C6 c6 (piecesT x x.length ++ [[48]]) tWay w6 NEW (by simp) (by rw [LN.out]; omega) (by rw [← WE.out]; have := hJ.out; omega)
      rw [LN.out, ← WE.out] at J
      replace J := Lib.hid J
      clear M6 X6 o6 g6 NEW
      go_wp2_with (fail)
      refine J.out.mono ?_
      rintro e w7 ⟨rfl, x7⟩
      have X7 := Lib.hid (XN.out.tr x7)
      clear x7 J
      go_wp2_with (fail)
      go_ret
      exact ⟨rfl, X7.out⟩
end Go.Proofs.YtleckhbmciiooaaDoor
