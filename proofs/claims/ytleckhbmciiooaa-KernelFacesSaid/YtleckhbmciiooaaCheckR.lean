/-
  The document's Check of a problem.
  The document's Check of the other problems, and whole.
-/
import Derived.Test.YtleckhbmciiooaaCheckE
namespace Go.Proofs.Ytleckhbmciiooaa
open Go.RowKit Go.ChangeShapes Go.WideShapes Go.ChangeAt Go.Deep

set_option maxRecDepth 100000 in
set_option maxHeartbeats 4000000 in
theorem rcheck_size (k n cap : Int) (a b c : Value) (w : World) (h : sizeP k n ≠ 0) :
    Calls Try.prog 11 #[.agg #[.int .i64 k, .int .i64 n, .int .i64 cap, a, b, c]] w fun e w' => e = .returned (.int .i64 (sizeP k n)) ∧ Ext w w' := by
  by_cases k0 : k < 1
  · have hs : Hid (sizeP k n = 14) := by
      have h : sizeP k n = 14 := by unfold sizeP; rw [if_neg (by omega), if_neg (by omega), if_neg (by omega)]
      exact h
    clear h
    go_enter Try.func11, Try.ntmps11
    go_wp2
    go_ret
    exact ⟨ret_i hs.out.symm, by (repeat (first | assumption | exact Ext.rf _ | apply Ext.drew | apply Ext.drewN | apply Ext.alloc))⟩
  · by_cases k3 : 3 < k
    · have hs : Hid (sizeP k n = 14) := by
        have h : sizeP k n = 14 := by unfold sizeP; rw [if_neg (by omega), if_neg (by omega), if_neg (by omega)]
        exact h
      clear h
      go_enter Try.func11, Try.ntmps11
      go_wp2
      go_ret
      exact ⟨ret_i hs.out.symm, by (repeat (first | assumption | exact Ext.rf _ | apply Ext.drew | apply Ext.drewN | apply Ext.alloc))⟩
    · by_cases n1 : n < 1
      · have hs : Hid (sizeP k n = 1) := by
          have h : sizeP k n = 1 := by
            unfold sizeP
            by_cases a1 : k = 1
            · rw [if_pos a1, if_pos n1]
            · rw [if_neg a1]
              by_cases a2 : k = 2
              · rw [if_pos a2, if_pos n1]
              · rw [if_neg a2, if_pos (by omega), if_pos n1]
          exact h
        clear h
        go_enter Try.func11, Try.ntmps11
        go_wp2
        go_ret
        exact ⟨ret_i hs.out.symm, by (repeat (first | assumption | exact Ext.rf _ | apply Ext.drew | apply Ext.drewN | apply Ext.alloc))⟩
      · by_cases a1 : k = 1
        · subst a1
          have n64 : 64 < n := by
            unfold sizeP at h
            rw [if_pos rfl, if_neg n1] at h
            by_cases h2 : 64 < n
            · exact h2
            · rw [if_neg h2] at h; exact absurd rfl h
          have hs : Hid (sizeP 1 n = 5) := by
            have h : sizeP 1 n = 5 := by unfold sizeP; rw [if_pos rfl, if_neg n1, if_pos n64]
            exact h
          clear h
          go_enter Try.func11, Try.ntmps11
          go_wp2
          go_ret
          exact ⟨ret_i hs.out.symm, by (repeat (first | assumption | exact Ext.rf _ | apply Ext.drew | apply Ext.drewN | apply Ext.alloc))⟩
        · have n24 : 24 < n := by
            unfold sizeP at h
            rw [if_neg a1] at h
            by_cases a2 : k = 2
            · rw [if_pos a2, if_neg n1] at h
              by_cases h2 : 24 < n
              · exact h2
              · rw [if_neg h2] at h; exact absurd rfl h
            · rw [if_neg a2, if_pos (by omega), if_neg n1] at h
              by_cases h2 : 24 < n
              · exact h2
              · rw [if_neg h2] at h; exact absurd rfl h
          have hs : Hid (sizeP k n = 5) := by
            have h : sizeP k n = 5 := by
              unfold sizeP
              rw [if_neg a1]
              by_cases a2 : k = 2
              · rw [if_pos a2, if_neg n1, if_pos n24]
              · rw [if_neg a2, if_pos (by omega), if_neg n1, if_pos n24]
            exact h
          have a1' : (k == 1) = false := by simpa using a1
          clear h a1
          have k1 : 1 < k := by
            have : k ≠ 1 := by simpa using a1'
            omega
          go_enter Try.func11, Try.ntmps11
          go_wp2
          go_ret
          exact ⟨ret_i hs.out.symm, by (repeat (first | assumption | exact Ext.rf _ | apply Ext.drew | apply Ext.drewN | apply Ext.alloc))⟩
set_option maxRecDepth 100000 in
set_option maxHeartbeats 4000000 in
theorem rcheck_1 (n : Nat) (cap : Int) (A B C : Option Addr) (a b c : Nat) (xs ys : List Int) (l : List (List Int)) (w : World) (hA : RdI w A xs) (hB : RdI w B ys) (n1 : 1 ≤ n) (n2 : n ≤ 64) :
    Calls Try.prog 11 #[.agg #[.int .i64 1, .int .i64 n, .int .i64 cap, .slice A xs.length a, .slice B ys.length b, .slice C l.length c]] w fun e w' => e = .returned (.int .i64 (if (((xs.length : Int) == (n : Int)) && ((ys.length : Int) == (n : Int)) && ((l.length : Int) == 0)) = true then itemsP cap xs ys xs.length else 8)) ∧ Ext w w' := by
  have B1 : Hid (Blk (w.alloc (.cells #[.int .i64 1, .int .i64 n, .int .i64 cap, .slice A xs.length a, .slice B ys.length b, .slice C l.length c] 25)) w.heap.size 25 #[.int .i64 1, .int .i64 n, .int .i64 cap, .slice A xs.length a, .slice B ys.length b, .slice C l.length c]) := .new rfl
  have nn1 : ¬ ((n : Int) < 1) := by omega
  have nn2 : ¬ ((64 : Int) < n) := by omega
  cases h1 : ((xs.length : Int) == (n : Int))
  · have h1' : ((xs.length : Int) != (n : Int)) = true := by simp only [bne, h1]; rfl
    go_enter Try.func11, Try.ntmps11
    go_wp2
    go_ret
    exact ⟨rfl, by (repeat (first | assumption | exact Ext.rf _ | apply Ext.drew | apply Ext.drewN | apply Ext.alloc))⟩
  · have h1' : ((xs.length : Int) != (n : Int)) = false := by simp only [bne, h1]; rfl
    cases h2 : ((ys.length : Int) == (n : Int))
    · have h2' : ((ys.length : Int) != (n : Int)) = true := by simp only [bne, h2]; rfl
      go_enter Try.func11, Try.ntmps11
      go_wp2
      go_ret
      exact ⟨rfl, by (repeat (first | assumption | exact Ext.rf _ | apply Ext.drew | apply Ext.drewN | apply Ext.alloc))⟩
    · have h2' : ((ys.length : Int) != (n : Int)) = false := by simp only [bne, h2]; rfl
      cases h3 : ((l.length : Int) == 0)
      · have h3' : ((l.length : Int) != 0) = true := by simp only [bne, h3]; rfl
        go_enter Try.func11, Try.ntmps11
        go_wp2
        go_ret
        exact ⟨rfl, by (repeat (first | assumption | exact Ext.rf _ | apply Ext.drew | apply Ext.drewN | apply Ext.alloc))⟩
      · have h3' : ((l.length : Int) != 0) = false := by simp only [bne, h3]; rfl
        have e1 : xs.length = n := by simp only [beq_iff_eq] at h1; omega
        have e2 : ys.length = n := by simp only [beq_iff_eq] at h2; omega
        have e3 : l.length = 0 := by simp only [beq_iff_eq] at h3; omega
        simp only [Bool.and_true, if_true]
        have HI := Lib.hid (itemsP_zero cap xs ys)
        have HST : Hid (∀ k, itemsP cap xs ys k ≠ 0 → itemsP cap xs ys xs.length = itemsP cap xs ys k) := fun k hk => itemsP_stop (by omega) hk
        rw [e1, e2, e3] at B1
        rw [e1] at HST
        rw [e1, e2, e3]
        clear h1 h1' h2 h2' h3 h3' e3
        replace e1 := Lib.hid e1
        replace e2 := Lib.hid e2
        go_enter Try.func11, Try.ntmps11
        go_wp2_with (fail)
        refine (number_any cap _).mono ?_
        rintro e w2 ⟨rfl, x2⟩
        have X2 := Lib.hid (Ext.tr (a := w) (by (repeat (first | assumption | exact Ext.rf _ | apply Ext.drew | apply Ext.drewN | apply Ext.alloc))) x2)
        have B2 := Lib.hid (B1.out.ext x2)
        clear x2
        by_cases hc : numP cap = 0
        · have hc' : (numP cap != 0) = false := by simpa using hc
          have H0 : Hid (itemsP cap xs ys 0 = 0) := by
            have h := HI.out
            rw [hc] at h
            exact h
          clear hc
          have d1 : w2.cell? ⟨w.heap.size, 1, none⟩ = some (.int .i64 n) := B2.out.cell 1
          go_wp2_with (fail)
          go_loopw [4] (fun i wr => ∃ k : Nat, i = .int .i64 k ∧ k ≤ n ∧ Hid (itemsP cap xs ys k = 0) ∧ Ext w wr ∧ Hid (Blk wr w.heap.size 25 #[.int .i64 1, .int .i64 n, .int .i64 cap, .slice A n a, .slice B n b, .slice C 0 c])) (fun i _ => n - (intOf i).toNat)
          case atStart => exact ⟨0, rfl, by omega, H0, X2.out, B2⟩
          case round =>
            obtain ⟨wo, rfl⟩ : ∃ wo : World, wo = wr := ⟨_, rfl⟩
            obtain ⟨k, rfl, hk, HK, Y, BB⟩ := hrel
            have c1 : wo.cell? ⟨w.heap.size, 1, none⟩ = some (.int .i64 n) := BB.out.cell 1
            have c3 : wo.cell? ⟨w.heap.size, 3, none⟩ = some (.slice A n a) := BB.out.cell 3
            by_cases hlt : k < n
            · obtain ⟨bb, off, x, rfl, _, hc1, hx1, _⟩ := (hA.ext Y).at (k := k) (by rw [e1.out]; exact hlt)
              obtain ⟨bb', off', y, rfl, zy, hc2, hy1, _⟩ := (hB.ext Y).at (k := k) (by rw [e2.out]; exact hlt)
              have S := Lib.hid (itemsP_succ hx1.out hy1.out HK.out)
              go_wp2_with (fail)
              refine (number_any x _).mono ?_
              rintro e w3 ⟨rfl, x3⟩
              have Y3 := Ext.tr Y x3
              have B3 := Lib.hid (BB.out.ext x3)
              have c4' : w3.cell? ⟨w.heap.size, 4, none⟩ = some (.slice (some ⟨bb', off', none⟩) n b) := B3.out.cell 4
              have hc2' := keepEL x3 zy hc2
              by_cases hn : numP x = 0
              · have hn' : (numP x != 0) = false := by simpa using hn
                have HN := Lib.hid hn
                clear hn c1 c3 hc1 hc2
                go_wp2_with (fail)
                refine (number_any y _).mono ?_
                rintro e w4 ⟨rfl, x4⟩
                have Y4 := Ext.tr Y3 x4
                have B4 := Lib.hid (B3.out.ext x4)
                have HR : Hid (itemsP cap xs ys (k + 1) = numP y) := by
                  have h1 := S.out
                  rw [if_pos HN.out] at h1
                  exact h1
                clear c4' hc2' hn'
                by_cases hm : numP y = 0
                · have hm' : (numP y != 0) = false := by simpa using hm
                  have HR2 : Hid (itemsP cap xs ys (k + 1) = 0) := by
                    have h := HR.out
                    rw [hm] at h
                    exact h
                  clear hm
                  go_wp2
                  go_roundw
                  case rel => exact ⟨k + 1, by go_num, by omega, HR2, Y4, B4⟩
                  case measure => simp [intOf]; omega
                · have hm' : (numP y != 0) = true := by simpa using hm
                  have HR2 : Hid (itemsP cap xs ys n = numP y) := by
                    have h := HST.out (k + 1) (by rw [HR.out]; exact hm)
                    rw [HR.out] at h
                    exact h
                  clear hm
                  go_wp2
                  go_ret
                  exact ⟨ret_i HR2.out.symm, Y4⟩
              · have hn' : (numP x != 0) = true := by simpa using hn
                have HR2 : Hid (itemsP cap xs ys n = numP x) := by
                  have h1 := S.out
                  rw [if_neg hn] at h1
                  have h := HST.out (k + 1) (by rw [h1]; exact hn)
                  rw [h1] at h
                  exact h
                clear hn c1 c3 c4' hc1 hc2 hc2'
                go_wp2
                go_ret
                exact ⟨ret_i HR2.out.symm, Y3⟩
            · obtain rfl : k = n := by omega
              clear c3
              go_wp2
              go_ret
              exact ⟨ret_i HK.out.symm, Y⟩
        · have hc' : (numP cap != 0) = true := by simpa using hc
          have HR2 : Hid (itemsP cap xs ys n = numP cap) := by
            have h := HST.out 0 (by rw [HI.out]; exact hc)
            rw [HI.out] at h
            exact h
          clear hc
          go_wp2
          go_ret
          exact ⟨ret_i HR2.out.symm, X2.out⟩
end Go.Proofs.Ytleckhbmciiooaa
namespace Go.Proofs.Ytleckhbmciiooaa
open Go.RowKit Go.ChangeShapes Go.WideShapes Go.ChangeAt Go.Deep

set_option maxRecDepth 100000 in
set_option maxHeartbeats 4000000 in
theorem rcheck_flat (k : Int) (n : Nat) (cap : Int) (A B C : Option Addr) (a b c : Nat) (xs ys : List Int) (l : List (List Int)) (w : World) (hk : k = 2 ∨ k = 3) (n1 : 1 ≤ n) (n2 : n ≤ 24)
    (h : (((l.length : Int) == (n : Int)) && (cap == 0) && decide (xs.length + ys.length = 0)) = false) :
    Calls Try.prog 11 #[.agg #[.int .i64 k, .int .i64 n, .int .i64 cap, .slice A xs.length a, .slice B ys.length b, .slice C l.length c]] w fun e w' => e = .returned (.int .i64 8) ∧ Ext w w' := by
  have nn1 : ¬ ((n : Int) < 1) := by omega
  have nn2 : ¬ ((24 : Int) < n) := by omega
  have k0 : ¬ k < 1 := by omega
  have k3 : ¬ 3 < k := by omega
  have k1 : 1 < k := by omega
  have kb : (k == 1) = false := by rw [beq_eq_false_iff_ne]; omega
  clear hk
  cases h1 : ((l.length : Int) == (n : Int))
  · have h1' : ((l.length : Int) != (n : Int)) = true := by simp only [bne, h1]; rfl
    clear h
    go_enter Try.func11, Try.ntmps11
    go_wp2
    go_ret
    exact ⟨rfl, by (repeat (first | assumption | exact Ext.rf _ | apply Ext.drew | apply Ext.drewN | apply Ext.alloc))⟩
  · have h1' : ((l.length : Int) != (n : Int)) = false := by simp only [bne, h1]; rfl
    cases h2 : (cap == 0)
    · have h2' : (cap != 0) = true := by simp only [bne, h2]; rfl
      clear h
      go_enter Try.func11, Try.ntmps11
      go_wp2
      go_ret
      exact ⟨rfl, by (repeat (first | assumption | exact Ext.rf _ | apply Ext.drew | apply Ext.drewN | apply Ext.alloc))⟩
    · have h2' : (cap != 0) = false := by simp only [bne, h2]; rfl
      have h3 : ¬ (xs.length + ys.length = 0) := by rw [h1, h2] at h; simpa using h
      clear h
      by_cases hx : xs.length = 0
      · have hxb : ((xs.length : Int) != 0) = false := by rw [bne_eq_false_iff_eq]; omega
        have hyb : ((ys.length : Int) != 0) = true := by rw [bne_iff_ne]; omega
        clear hx h3
        go_enter Try.func11, Try.ntmps11
        go_wp2
        go_ret
        exact ⟨rfl, by (repeat (first | assumption | exact Ext.rf _ | apply Ext.drew | apply Ext.drewN | apply Ext.alloc))⟩
      · have hxb : ((xs.length : Int) != 0) = true := by rw [bne_iff_ne]; omega
        clear hx h3
        go_enter Try.func11, Try.ntmps11
        go_wp2
        go_ret
        exact ⟨rfl, by (repeat (first | assumption | exact Ext.rf _ | apply Ext.drew | apply Ext.drewN | apply Ext.alloc))⟩
theorem any_take_succ {l : List (List Int)} {r : Nat} {row : List Int} (p : List Int → Bool) (h : l[r]? = some row) : (l.take (r + 1)).any p = ((l.take r).any p || p row) := by
  obtain ⟨hr, h⟩ := List.getElem?_eq_some_iff.1 h
  rw [List.take_succ_eq_append_getElem hr, List.any_append, h]
  simp
theorem any_of_take {l : List (List Int)} {r : Nat} (p : List Int → Bool) (h : (l.take r).any p = true) : l.any p = true := by
  obtain ⟨x, hx, hp⟩ := List.any_eq_true.1 h
  exact List.any_eq_true.2 ⟨x, List.mem_of_mem_take hx, hp⟩
set_option maxRecDepth 100000 in
set_option maxHeartbeats 8000000 in
theorem rcheck_sq (k : Int) (n : Nat) (A B C : Option Addr) (a b c : Nat) (l : List (List Int)) (w : World) (hC : RdE 1 RInts w C l) (hk : k = 2 ∨ k = 3) (n1 : 1 ≤ n) (n2 : n ≤ 24) (hl : l.length = n) :
    Calls Try.prog 11 #[.agg #[.int .i64 k, .int .i64 n, .int .i64 0, .slice A 0 a, .slice B 0 b, .slice C n c]] w fun e w' => e = .returned (.int .i64 (if (l.any fun r => (r.length : Int) != (n : Int)) = true then 8 else rowsE k 0 l)) ∧ Ext w w' := by
  have nn1 : ¬ ((n : Int) < 1) := by omega
  have nn2 : ¬ ((24 : Int) < n) := by omega
  have k0 : ¬ k < 1 := by omega
  have k3 : ¬ 3 < k := by omega
  have k1 : 1 < k := by omega
  have kb : (k == 1) = false := by rw [beq_eq_false_iff_ne]; omega
  have B1 : Hid (Blk (w.alloc (.cells #[.int .i64 k, .int .i64 n, .int .i64 0, .slice A 0 a, .slice B 0 b, .slice C n c] 25)) w.heap.size 25 #[.int .i64 k, .int .i64 n, .int .i64 0, .slice A 0 a, .slice B 0 b, .slice C n c]) := .new rfl
  clear hk
  replace hl := Lib.hid hl
  obtain ⟨res, hres⟩ : ∃ res, Hid (res = if (l.any fun r => (r.length : Int) != (n : Int)) = true then 8 else rowsE k 0 l) := ⟨_, rfl⟩
  rw [← hres.out]
  go_enter Try.func11, Try.ntmps11
  go_wp2_with (fail)
  go_loopw [7] (fun i wr => ∃ r : Nat, i = .int .i64 r ∧ r ≤ n ∧ Hid (((l.take r).any fun r => (r.length : Int) != (n : Int)) = false) ∧ Ext w wr ∧ Hid (Blk wr w.heap.size 25 #[.int .i64 k, .int .i64 n, .int .i64 0, .slice A 0 a, .slice B 0 b, .slice C n c])) (fun i _ => n - (intOf i).toNat)
  case atStart => exact ⟨0, rfl, by omega, by exact rfl, by (repeat (first | assumption | exact Ext.rf _ | apply Ext.drew | apply Ext.drewN | apply Ext.alloc)), B1⟩
  case round =>
    obtain ⟨wo, rfl⟩ : ∃ wo : World, wo = wr := ⟨_, rfl⟩
    obtain ⟨r, rfl, hr, HA, Y, BB⟩ := hrel
    have c1 : wo.cell? ⟨w.heap.size, 1, none⟩ = some (.int .i64 n) := BB.out.cell 1
    have c5 : wo.cell? ⟨w.heap.size, 5, none⟩ = some (.slice C n c) := BB.out.cell 5
    by_cases hlt : r < n
    · obtain ⟨cb, co, D, row, d, rfl, _, hc1, hrow, HD, rr, ir, ld, md⟩ := (hC.ext Y fun _ _ h => h.ext Y).ints (r := r) (by rw [hl.out]; exact hlt)
      by_cases hlen : row.length = n
      · have hlb : ((row.length : Int) != (n : Int)) = false := by rw [bne_eq_false_iff_eq]; omega
        have HN : Hid (((l.take (r + 1)).any fun r => (r.length : Int) != (n : Int)) = false) := by
          have h : ((l.take (r + 1)).any fun r => (r.length : Int) != (n : Int)) = false := by rw [any_take_succ _ hrow.out, HA.out, hlb]; rfl
          exact h
        replace hlen := Lib.hid hlen
        go_wp2_with (go_quiet (fail))
        go_roundw
        case rel => exact ⟨r + 1, by go_num, by omega, HN, by repeat (first | exact Y | apply Ext.drewN), by repeat (first | exact BB | exact (Lib.hid BB.out))⟩
        case measure => simp [intOf]; omega
      · have hlb : ((row.length : Int) != (n : Int)) = true := by rw [bne_iff_ne]; omega
        have HN : Hid (res = 8) := by
          have h : res = 8 := by
            rw [hres.out, if_pos]
            exact List.any_eq_true.2 ⟨row, List.mem_of_getElem? hrow.out, hlb⟩
          exact h
        clear hlen
        go_wp2_with (go_quiet (fail))
        go_ret
        exact ⟨ret_i HN.out.symm, by repeat (first | exact Y | apply Ext.drewN)⟩
    · obtain rfl : r = n := by omega
      have HN : Hid (res = rowsE k 0 l) := by
        have h := HA.out
        rw [List.take_of_length_le (by rw [hl.out]; exact Nat.le_refl _)] at h
        have h2 : res = rowsE k 0 l := by rw [hres.out, if_neg (by rw [h]; decide)]
        exact h2
      have HL : Hid (∀ row ∈ l, row.length = r) := fun row hrow => by
        have h := HA.out
        rw [List.take_of_length_le (by rw [hl.out]; exact Nat.le_refl _)] at h
        have h2 := List.any_eq_false.1 h row hrow
        simp at h2
        omega
      clear HA hlt
      clear c5
      go_wp2_with (fail)
      clear c1
      go_loopw [8] (fun i wr => ∃ q : Nat, i = .int .i64 q ∧ q ≤ r ∧ Hid (rowsE k 0 l = rowsE k q (l.drop q)) ∧ Ext w wr ∧ Hid (Blk wr w.heap.size 25 #[.int .i64 k, .int .i64 r, .int .i64 0, .slice A 0 a, .slice B 0 b, .slice C r c])) (fun i _ => r - (intOf i).toNat)
      case atStart => exact ⟨0, rfl, by omega, by exact rfl, Y, BB⟩
      case round =>
        obtain ⟨w1, rfl⟩ : ∃ w1 : World, w1 = wr := ⟨_, rfl⟩
        obtain ⟨q, rfl, hq, HT, Y1, B2⟩ := hrel
        have c1 : w1.cell? ⟨w.heap.size, 1, none⟩ = some (.int .i64 r) := B2.out.cell 1
        by_cases hlt : q < r
        · obtain ⟨cb, co, D, row, d, rfl, _, hc1, hrow, HD, rr, ir, ld, md⟩ := (hC.ext Y1 fun _ _ h => h.ext Y1).ints (r := q) (by rw [hl.out]; exact hlt)
          have hlen : Hid (row.length = r) := HL.out row (List.mem_of_getElem? hrow.out)
          have hlen2 : row.length = r := hlen.out
          rw [hlen2] at hc1 ld
          clear hlen2 hc1
          go_wp2_with (fail)
          go_loopw [9] (fun i wr => ∃ j : Nat, i = .int .i64 j ∧ j ≤ r ∧ Hid (rowE k q 0 row = rowE k q j (row.drop j)) ∧ Ext w wr ∧ Hid (Blk wr w.heap.size 25 #[.int .i64 k, .int .i64 r, .int .i64 0, .slice A 0 a, .slice B 0 b, .slice (some ⟨cb, co, none⟩) r c])) (fun i _ => r - (intOf i).toNat)
          case atStart => exact ⟨0, rfl, by omega, by exact rfl, Y1, B2⟩
          case round =>
            obtain ⟨w3, rfl⟩ : ∃ w3 : World, w3 = wr := ⟨_, rfl⟩
            obtain ⟨j, rfl, hj, HJ, Y2, B3⟩ := hrel
            have c1' : w3.cell? ⟨w.heap.size, 1, none⟩ = some (.int .i64 r) := B3.out.cell 1
            by_cases hlj : j < r
            · obtain ⟨cb', co', D', row', d', e9, zc, hc1, hrow', _, rr', ir', ld', md'⟩ := (hC.ext Y2 fun _ _ h => h.ext Y2).ints (r := q) (by rw [hl.out]; exact hlt)
              obtain ⟨rfl, rfl⟩ : cb = cb' ∧ co = co' := by injection e9 with h; injection h with h1 h2; exact ⟨h1, h2⟩
              obtain rfl : row = row' := by
                have h := hrow.out
                rw [hrow'.out] at h
                exact (Option.some.inj h).symm
              obtain ⟨bb, off', x, rfl, zx, hc2, _, hd2⟩ := rr'.at (k := j) (by rw [hlen.out]; exact hlj)
              have hl9 : row.length = r := hlen.out
              rw [hl9] at hc1 ld'
              have c5' : w3.cell? ⟨w.heap.size, 5, none⟩ = some (.slice (some ⟨cb, co, none⟩) r c) := B3.out.cell 5
              clear hl9 e9
              go_wp2_with (fail)
              refine (number_any x _).mono ?_
              rintro e w4 ⟨rfl, x4⟩
              have Y3 := Ext.tr Y2 x4
              have B4 := Lib.hid (B3.out.ext x4)
              have k0' : w4.cell? ⟨w.heap.size, 0, none⟩ = some (.int .i64 k) := B4.out.cell 0
              have k5' : w4.cell? ⟨w.heap.size, 5, none⟩ = some (.slice (some ⟨cb, co, none⟩) r c) := B4.out.cell 5
              have hc1' := keepEL x4 zc hc1
              have hc2' := keepEL x4 zx hc2
              clear hc1 hc2 c5' c1'
              by_cases hn : numP x = 0
              · have hn' : (numP x != 0) = false := by simpa using hn
                have HN0 := Lib.hid hn
                clear hn
                by_cases k3e : k = 3
                · subst k3e
                  by_cases hrj : q = j
                  · subst hrj
                    by_cases hx : x = 0
                    · have hx' : (x != 0) = false := by simpa using hx
                      have HR : Hid (rowE 3 q 0 row = rowE 3 q (q + 1) (row.drop (q + 1))) := by
                        have h1 := HJ.out
                        rw [hd2.out, rowE, if_pos HN0.out, if_neg (by simp [hx])] at h1
                        exact h1
                      clear hx
                      go_wp2
                      go_roundw
                      case rel => exact ⟨q + 1, by go_num, by omega, HR, Y3, B4⟩
                      case measure => simp [intOf]; omega
                    · have hx' : (x != 0) = true := by simpa using hx
                      have HR : Hid (res = 8) := by
                        have h1 := HJ.out
                        rw [hd2.out, rowE, if_pos HN0.out, if_pos ⟨rfl, rfl, hx⟩] at h1
                        have h2 := HT.out
                        rw [HD.out, rowsE, h1] at h2
                        have h3 : res = 8 := by rw [HN.out]; exact h2
                        exact h3
                      clear hx
                      go_wp2
                      go_ret
                      exact ⟨ret_i HR.out.symm, Y3⟩
                  · have hrj' : ((q : Int) == (j : Int)) = false := by rw [beq_eq_false_iff_ne]; omega
                    have HR : Hid (rowE 3 q 0 row = rowE 3 q (j + 1) (row.drop (j + 1))) := by
                      have h1 := HJ.out
                      rw [hd2.out, rowE, if_pos HN0.out, if_neg (by simp [hrj])] at h1
                      exact h1
                    go_wp2
                    go_roundw
                    case rel => exact ⟨j + 1, by go_num, by omega, HR, Y3, B4⟩
                    case measure => simp [intOf]; omega
                · have k3' : (k == 3) = false := by rw [beq_eq_false_iff_ne]; exact k3e
                  have HR : Hid (rowE k q 0 row = rowE k q (j + 1) (row.drop (j + 1))) := by
                    have h1 := HJ.out
                    rw [hd2.out, rowE, if_pos HN0.out, if_neg (by simp [k3e])] at h1
                    exact h1
                  clear k3e
                  go_wp2
                  go_roundw
                  case rel => exact ⟨j + 1, by go_num, by omega, HR, Y3, B4⟩
                  case measure => simp [intOf]; omega
              · have hn' : (numP x != 0) = true := by simpa using hn
                have HR : Hid (res = numP x) := by
                  have h1 := HJ.out
                  rw [hd2.out, rowE, if_neg hn] at h1
                  have h2 := HT.out
                  rw [HD.out, rowsE, h1, if_neg hn] at h2
                  have h3 : res = numP x := by rw [HN.out]; exact h2
                  exact h3
                clear hn
                go_wp2
                go_ret
                exact ⟨ret_i HR.out.symm, Y3⟩
            · have hd2 := drop_nil (xs := row) (k := j) (by rw [hlen.out]; omega)
              have HR : Hid (rowsE k 0 l = rowsE k (q + 1) (l.drop (q + 1))) := by
                have h1 := HJ.out
                rw [hd2.out, rowE] at h1
                have h2 := HT.out
                rw [HD.out, rowsE, if_pos h1] at h2
                exact h2
              clear hd2
              go_wp2
              go_roundw
              case rel => exact ⟨q + 1, by go_num, by omega, HR, Y2, B3⟩
              case measure => simp [intOf]; omega
        · have hd := drop_nil (xs := l) (k := q) (by rw [hl.out]; omega)
          have HR : Hid (res = 0) := by
            have h1 := HT.out
            rw [hd.out, rowsE] at h1
            have h3 : res = 0 := by rw [HN.out]; exact h1
            exact h3
          clear hd
          go_wp2
          go_ret
          exact ⟨ret_i HR.out.symm, Y1⟩
set_option maxRecDepth 100000 in
theorem rcheck_any (i : InstP) (vs : List Value) (w : World) (H : RInst w vs i) : Calls Try.prog 11 #[.agg (List.toArray vs)] w fun e w' => e = .returned (.int .i64 (checkP i)) ∧ Ext w w' := by
  obtain ⟨k, nn, cap, xs, ys, l⟩ := i
  obtain ⟨A, a, B, b, C, c, rfl, ⟨rA, iA, lA, mA⟩, ⟨rB, iB, lB, mB⟩, ⟨rC, lC, mC⟩⟩ := H
  simp only at *
  by_cases hs : sizeP k nn = 0
  · have kk := sizeP_kind hs
    have hn : 1 ≤ nn ∧ nn ≤ 64 ∧ (k ≠ 1 → nn ≤ 24) := by
      unfold sizeP at hs
      split at hs
      · split at hs
        · cases hs
        · split at hs
          · cases hs
          · exact ⟨by omega, by omega, fun h => absurd ‹_› h⟩
      · split at hs
        · split at hs
          · cases hs
          · split at hs
            · cases hs
            · exact ⟨by omega, by omega, fun _ => by omega⟩
        · split at hs
          · split at hs
            · cases hs
            · split at hs
              · cases hs
              · exact ⟨by omega, by omega, fun _ => by omega⟩
          · cases hs
    obtain ⟨n1, n2, n3⟩ := hn
    obtain ⟨n, rfl⟩ : ∃ n : Nat, nn = (n : Int) := ⟨nn.toNat, by omega⟩
    unfold checkP
    simp only [if_pos hs]
    unfold shapeP
    simp only
    by_cases k1 : k = 1
    · subst k1
      simp only [if_true]
      exact rcheck_1 n cap A B C a b c xs ys l w rA rB (by omega) (by omega)
    · rw [if_neg k1, if_neg k1]
      have hk : k = 2 ∨ k = 3 := by omega
      cases hf : (((l.length : Int) == (n : Int)) && (cap == 0) && decide (xs.length + ys.length = 0)) with
      | false =>
        simp only [Bool.false_and, Bool.false_eq_true, if_false]
        exact rcheck_flat k n cap A B C a b c xs ys l w hk (by omega) (by have := n3 k1; omega) hf
      | true =>
        simp only [Bool.and_eq_true, beq_iff_eq, decide_eq_true_eq] at hf
        obtain ⟨⟨h1, rfl⟩, h3⟩ := hf
        have e1 : xs = [] := List.eq_nil_of_length_eq_zero (by omega)
        have e2 : ys = [] := List.eq_nil_of_length_eq_zero (by omega)
        have e3 : l.length = n := by omega
        subst e1 e2
        have R := rcheck_sq k n A B C a b c l w rC hk (by omega) (by have := n3 k1; omega) e3
        rw [e3]
        simp only [List.length_nil]
        cases hany : (l.any fun r => (r.length : Int) != (n : Int)) with
        | true => rw [hany] at R; simpa using R
        | false => rw [hany] at R; simpa using R
  · have e : checkP ⟨k, nn, cap, xs, ys, l⟩ = sizeP k nn := by unfold checkP; simp only [if_neg hs]
    rw [e]
    exact rcheck_size k nn cap _ _ _ w hs
end Go.Proofs.Ytleckhbmciiooaa
