/-
  The document's Check of a problem.
-/
import Derived.Test.YtpfdkocelmmllaaDoorCheckE
namespace Go.Proofs.YtpfdkocelmmllaaDoor
open Go.RowKit Go.ChangeShapes Go.WideShapes Go.ChangeAt Go.Deep

set_option maxRecDepth 100000 in
set_option maxHeartbeats 4000000 in
theorem rcheck_size (k n cap : Int) (a b c : Value) (w : World) (h : sizeP k n ≠ 0) :
    Calls Tryd.prog 17 #[.agg #[.int .i64 k, .int .i64 n, .int .i64 cap, a, b, c]] w fun e w' => e = .returned (.int .i64 (sizeP k n)) ∧ Ext w w' := by
  by_cases k0 : k < 1
  · have hs : Hid (sizeP k n = 14) := by
      have h : sizeP k n = 14 := by unfold sizeP; rw [if_neg (by omega), if_neg (by omega), if_neg (by omega)]
      exact h
    clear h
    go_enter Tryd.func17, Tryd.ntmps17
    go_wp2
    go_ret
    exact ⟨ret_i hs.out.symm, by (repeat (first | assumption | exact Ext.rf _ | apply Ext.drew | apply Ext.drewN | apply Ext.alloc))⟩
  · by_cases k3 : 3 < k
    · have hs : Hid (sizeP k n = 14) := by
        have h : sizeP k n = 14 := by unfold sizeP; rw [if_neg (by omega), if_neg (by omega), if_neg (by omega)]
        exact h
      clear h
      go_enter Tryd.func17, Tryd.ntmps17
      go_wp2
      go_ret
      exact ⟨ret_i hs.out.symm, by (repeat (first | assumption | exact Ext.rf _ | apply Ext.drew | apply Ext.drewN | apply Ext.alloc))⟩
    · by_cases n1 : n < 1
      · have hs : Hid (sizeP k n = 1) := by
          have h : sizeP k n = 1 := by
            unfold sizeP
            by_cases a1 : k = 1
            · rw [if_pos a1, if_pos n1]
            · rw [if_neg a1]
              by_cases a2 : k = 2
              · rw [if_pos a2, if_pos n1]
              · rw [if_neg a2, if_pos (by omega), if_pos n1]
          exact h
        clear h
        go_enter Tryd.func17, Tryd.ntmps17
        go_wp2
        go_ret
        exact ⟨ret_i hs.out.symm, by (repeat (first | assumption | exact Ext.rf _ | apply Ext.drew | apply Ext.drewN | apply Ext.alloc))⟩
      · by_cases a1 : k = 1
        · subst a1
          have n64 : 64 < n := by
            unfold sizeP at h
            rw [if_pos rfl, if_neg n1] at h
            by_cases h2 : 64 < n
            · exact h2
            · rw [if_neg h2] at h; exact absurd rfl h
          have hs : Hid (sizeP 1 n = 5) := by
            have h : sizeP 1 n = 5 := by unfold sizeP; rw [if_pos rfl, if_neg n1, if_pos n64]
            exact h
          clear h
          go_enter Tryd.func17, Tryd.ntmps17
          go_wp2
          go_ret
          exact ⟨ret_i hs.out.symm, by (repeat (first | assumption | exact Ext.rf _ | apply Ext.drew | apply Ext.drewN | apply Ext.alloc))⟩
        · have n24 : 24 < n := by
            unfold sizeP at h
            rw [if_neg a1] at h
            by_cases a2 : k = 2
            · rw [if_pos a2, if_neg n1] at h
              by_cases h2 : 24 < n
              · exact h2
              · rw [if_neg h2] at h; exact absurd rfl h
            · rw [if_neg a2, if_pos (by omega), if_neg n1] at h
              by_cases h2 : 24 < n
              · exact h2
              · rw [if_neg h2] at h; exact absurd rfl h
          have hs : Hid (sizeP k n = 5) := by
            have h : sizeP k n = 5 := by
              unfold sizeP
              rw [if_neg a1]
              by_cases a2 : k = 2
              · rw [if_pos a2, if_neg n1, if_pos n24]
              · rw [if_neg a2, if_pos (by omega), if_neg n1, if_pos n24]
            exact h
          have a1' : (k == 1) = false := by simpa using a1
          clear h a1
          have k1 : 1 < k := by
            have : k ≠ 1 := by simpa using a1'
            omega
          go_enter Tryd.func17, Tryd.ntmps17
          go_wp2
          go_ret
          exact ⟨ret_i hs.out.symm, by (repeat (first | assumption | exact Ext.rf _ | apply Ext.drew | apply Ext.drewN | apply Ext.alloc))⟩
set_option maxRecDepth 100000 in
set_option maxHeartbeats 4000000 in
theorem rcheck_1 (n : Nat) (cap : Int) (A B C : Option Addr) (a b c : Nat) (xs ys : List Int) (l : List (List Int)) (w : World) (hA : RdI w A xs) (hB : RdI w B ys) (n1 : 1 ≤ n) (n2 : n ≤ 64) :
    Calls Tryd.prog 17 #[.agg #[.int .i64 1, .int .i64 n, .int .i64 cap, .slice A xs.length a, .slice B ys.length b, .slice C l.length c]] w fun e w' => e = .returned (.int .i64 (if (((xs.length : Int) == (n : Int)) && ((ys.length : Int) == (n : Int)) && ((l.length : Int) == 0)) = true then itemsP cap xs ys xs.length else 8)) ∧ Ext w w' := by
  have B1 : Hid (Blk (w.alloc (.cells #[.int .i64 1, .int .i64 n, .int .i64 cap, .slice A xs.length a, .slice B ys.length b, .slice C l.length c] 25)) w.heap.size 25 #[.int .i64 1, .int .i64 n, .int .i64 cap, .slice A xs.length a, .slice B ys.length b, .slice C l.length c]) := .new rfl
  have nn1 : ¬ ((n : Int) < 1) := by omega
  have nn2 : ¬ ((64 : Int) < n) := by omega
  cases h1 : ((xs.length : Int) == (n : Int))
  · have h1' : ((xs.length : Int) != (n : Int)) = true := by simp only [bne, h1]; rfl
    go_enter Tryd.func17, Tryd.ntmps17
    go_wp2
    go_ret
    exact ⟨rfl, by (repeat (first | assumption | exact Ext.rf _ | apply Ext.drew | apply Ext.drewN | apply Ext.alloc))⟩
  · have h1' : ((xs.length : Int) != (n : Int)) = false := by simp only [bne, h1]; rfl
    cases h2 : ((ys.length : Int) == (n : Int))
    · have h2' : ((ys.length : Int) != (n : Int)) = true := by simp only [bne, h2]; rfl
      go_enter Tryd.func17, Tryd.ntmps17
      go_wp2
      go_ret
      exact ⟨rfl, by (repeat (first | assumption | exact Ext.rf _ | apply Ext.drew | apply Ext.drewN | apply Ext.alloc))⟩
    · have h2' : ((ys.length : Int) != (n : Int)) = false := by simp only [bne, h2]; rfl
      cases h3 : ((l.length : Int) == 0)
      · have h3' : ((l.length : Int) != 0) = true := by simp only [bne, h3]; rfl
        go_enter Tryd.func17, Tryd.ntmps17
        go_wp2
        go_ret
        exact ⟨rfl, by (repeat (first | assumption | exact Ext.rf _ | apply Ext.drew | apply Ext.drewN | apply Ext.alloc))⟩
      · have h3' : ((l.length : Int) != 0) = false := by simp only [bne, h3]; rfl
        have e1 : xs.length = n := by simp only [beq_iff_eq] at h1; omega
        have e2 : ys.length = n := by simp only [beq_iff_eq] at h2; omega
        have e3 : l.length = 0 := by simp only [beq_iff_eq] at h3; omega
        simp only [Bool.and_true, if_true]
        have HI := Lib.hid (itemsP_zero cap xs ys)
        have HST : Hid (∀ k, itemsP cap xs ys k ≠ 0 → itemsP cap xs ys xs.length = itemsP cap xs ys k) := fun k hk => itemsP_stop (by omega) hk
        rw [e1, e2, e3] at B1
        rw [e1] at HST
        rw [e1, e2, e3]
        clear h1 h1' h2 h2' h3 h3' e3
        replace e1 := Lib.hid e1
        replace e2 := Lib.hid e2
        go_enter Tryd.func17, Tryd.ntmps17
        go_wp2_with (fail)
        refine (number_any cap _).mono ?_
        rintro e w2 ⟨rfl, x2⟩
        have X2 := Lib.hid (Ext.tr (a := w) (by (repeat (first | assumption | exact Ext.rf _ | apply Ext.drew | apply Ext.drewN | apply Ext.alloc))) x2)
        have B2 := Lib.hid (B1.out.ext x2)
        clear x2
        by_cases hc : numP cap = 0
        · have hc' : (numP cap != 0) = false := by simpa using hc
          have H0 : Hid (itemsP cap xs ys 0 = 0) := by
            have h := HI.out
            rw [hc] at h
            exact h
          clear hc
          have d1 : w2.cell? ⟨w.heap.size, 1, none⟩ = some (.int .i64 n) := B2.out.cell 1
          go_wp2_with (fail)
          go_loopw [4] (fun i wr => ∃ k : Nat, i = .int .i64 k ∧ k ≤ n ∧ Hid (itemsP cap xs ys k = 0) ∧ Ext w wr ∧ Hid (Blk wr w.heap.size 25 #[.int .i64 1, .int .i64 n, .int .i64 cap, .slice A n a, .slice B n b, .slice C 0 c])) (fun i _ => n - (intOf i).toNat)
          case atStart => exact ⟨0, rfl, by omega, H0, X2.out, B2⟩
          case round =>
            obtain ⟨wo, rfl⟩ : ∃ wo : World, wo = wr := ⟨_, rfl⟩
            obtain ⟨k, rfl, hk, HK, Y, BB⟩ := hrel
            have c1 : wo.cell? ⟨w.heap.size, 1, none⟩ = some (.int .i64 n) := BB.out.cell 1
            have c3 : wo.cell? ⟨w.heap.size, 3, none⟩ = some (.slice A n a) := BB.out.cell 3
            by_cases hlt : k < n
            · obtain ⟨bb, off, x, rfl, _, hc1, hx1, _⟩ := (hA.ext Y).at (k := k) (by rw [e1.out]; exact hlt)
              obtain ⟨bb', off', y, rfl, zy, hc2, hy1, _⟩ := (hB.ext Y).at (k := k) (by rw [e2.out]; exact hlt)
              have S := Lib.hid (itemsP_succ hx1.out hy1.out HK.out)
              go_wp2_with (fail)
              refine (number_any x _).mono ?_
              rintro e w3 ⟨rfl, x3⟩
              have Y3 := Ext.tr Y x3
              have B3 := Lib.hid (BB.out.ext x3)
              have c4' : w3.cell? ⟨w.heap.size, 4, none⟩ = some (.slice (some ⟨bb', off', none⟩) n b) := B3.out.cell 4
              have hc2' := keepEL x3 zy hc2
              by_cases hn : numP x = 0
              · have hn' : (numP x != 0) = false := by simpa using hn
                have HN := Lib.hid hn
                clear hn c1 c3 hc1 hc2
                go_wp2_with (fail)
                refine (number_any y _).mono ?_
                rintro e w4 ⟨rfl, x4⟩
                have Y4 := Ext.tr Y3 x4
                have B4 := Lib.hid (B3.out.ext x4)
                have HR : Hid (itemsP cap xs ys (k + 1) = numP y) := by
                  have h1 := S.out
                  rw [if_pos HN.out] at h1
                  exact h1
                clear c4' hc2' hn'
                by_cases hm : numP y = 0
                · have hm' : (numP y != 0) = false := by simpa using hm
                  have HR2 : Hid (itemsP cap xs ys (k + 1) = 0) := by
                    have h := HR.out
                    rw [hm] at h
                    exact h
                  clear hm
                  go_wp2
                  go_roundw
                  case rel => exact ⟨k + 1, by go_num, by omega, HR2, Y4, B4⟩
                  case measure => simp [intOf]; omega
                · have hm' : (numP y != 0) = true := by simpa using hm
                  have HR2 : Hid (itemsP cap xs ys n = numP y) := by
                    have h := HST.out (k + 1) (by rw [HR.out]; exact hm)
                    rw [HR.out] at h
                    exact h
                  clear hm
                  go_wp2
                  go_ret
                  exact ⟨ret_i HR2.out.symm, Y4⟩
              · have hn' : (numP x != 0) = true := by simpa using hn
                have HR2 : Hid (itemsP cap xs ys n = numP x) := by
                  have h1 := S.out
                  rw [if_neg hn] at h1
                  have h := HST.out (k + 1) (by rw [h1]; exact hn)
                  rw [h1] at h
                  exact h
                clear hn c1 c3 c4' hc1 hc2 hc2'
                go_wp2
                go_ret
                exact ⟨ret_i HR2.out.symm, Y3⟩
            · obtain rfl : k = n := by omega
              clear c3
              go_wp2
              go_ret
              exact ⟨ret_i HK.out.symm, Y⟩
        · have hc' : (numP cap != 0) = true := by simpa using hc
          have HR2 : Hid (itemsP cap xs ys n = numP cap) := by
            have h := HST.out 0 (by rw [HI.out]; exact hc)
            rw [HI.out] at h
            exact h
          clear hc
          go_wp2
          go_ret
          exact ⟨ret_i HR2.out.symm, X2.out⟩
end Go.Proofs.YtpfdkocelmmllaaDoor
