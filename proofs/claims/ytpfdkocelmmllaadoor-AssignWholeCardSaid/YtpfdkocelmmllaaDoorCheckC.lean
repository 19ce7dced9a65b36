/-
  The program's items.
-/
import Derived.Test.YtpfdkocelmmllaaDoorCheck1
namespace Go.Proofs.YtpfdkocelmmllaaDoor
open Go.RowKit Go.ChangeShapes Go.WideShapes Go.ChangeAt Go.Deep

set_option maxRecDepth 100000 in
set_option maxHeartbeats 2000000 in
theorem items_any (A B : Option Addr) (a b : Nat) (k cap : Int) (xs ys : List Int) (C : Value) (w : World) (hA : RdI w A xs) (hB : RdI w B ys) (la : xs.length ≤ a) (ma : a ≤ maxLen) (lb : ys.length ≤ b) (mb : b ≤ maxLen) (hxy : xs.length = ys.length) :
    Calls Tryd.prog 43 #[.agg #[.int .i64 k, .int .i64 xs.length, .int .i64 cap, .slice A xs.length a, .slice B ys.length b, C]] w fun e w' => e = .returned (.int .i64 (itemsP cap xs ys xs.length)) ∧ Ext w w' := by
  unfold maxLen at ma mb
  replace hxy := Lib.hid hxy
  have B1 : Hid (Blk (w.alloc (.cells #[.int .i64 k, .int .i64 xs.length, .int .i64 cap, .slice A xs.length a, .slice B ys.length b, C] 25)) w.heap.size 25 #[.int .i64 k, .int .i64 xs.length, .int .i64 cap, .slice A xs.length a, .slice B ys.length b, C]) := .new rfl
  have X : Hid (Ext w (w.alloc (.cells #[.int .i64 k, .int .i64 xs.length, .int .i64 cap, .slice A xs.length a, .slice B ys.length b, C] 25))) := (Ext.rf _).alloc _
  have hC := Lib.hid (pnumber_any cap)
  go_enter Tryd.func43, Tryd.ntmps43
  go_wp2_with (fail)
  refine (pnumber_any cap _).mono ?_
  rintro e w2 ⟨rfl, x2⟩
  go_wp2_with (fail)
  go_loopw [3, 4] (fun e i wr => ∃ j : Nat, i = .int .i64 j ∧ e = .int .i64 (itemsP cap xs ys j) ∧ j ≤ xs.length ∧ Ext w wr ∧ Hid (Blk wr w.heap.size 25 #[.int .i64 k, .int .i64 xs.length, .int .i64 cap, .slice A xs.length a, .slice B ys.length b, C])) (fun _ i _ => xs.length - (intOf i).toNat)
  case atStart => exact ⟨0, rfl, by rw [itemsP_zero], by omega, Ext.tr (a := w) (by (repeat (first | assumption | exact Ext.rf _ | apply Ext.drew | apply Ext.drewN | apply Ext.alloc))) x2, B1.out.ext x2⟩
  case round =>
    obtain ⟨wo, rfl⟩ : ∃ wo : World, wo = wr := ⟨_, rfl⟩
    obtain ⟨j, rfl, rfl, hj, Y, B2⟩ := hrel
    have c1 : wo.cell? ⟨w.heap.size, 1, none⟩ = some (.int .i64 xs.length) := B2.out.cell 1
    have c3 : wo.cell? ⟨w.heap.size, 3, none⟩ = some (.slice A xs.length a) := B2.out.cell 3
    have c4 : wo.cell? ⟨w.heap.size, 4, none⟩ = some (.slice B ys.length b) := B2.out.cell 4
    have cA := hA.ext Y
    have cB := hB.ext Y
    by_cases he : itemsP cap xs ys j = 0
    · have he' : (itemsP cap xs ys j == 0) = true := by rw [beq_iff_eq]; exact he
      have HE := Lib.hid he
      clear he
      by_cases hlt : j < xs.length
      · obtain ⟨bb, off, x, rfl, _, hc1, hx1, _⟩ := cA.at hlt
        obtain ⟨bb', off', y, rfl, _, hc2, hy1, _⟩ := cB.at (k := j) (by have := hxy.out; omega)
        have hlt2 : j < ys.length := by have := hxy.out; omega
        have S := Lib.hid (itemsP_succ hx1.out hy1.out HE.out)
        go_wp2_with (fail)
        refine (pnumber_any x _).mono ?_
        rintro e w3 ⟨rfl, x3⟩
        have Y3 := Ext.tr Y x3
        have B3 := B2.out.ext x3
        have c4' : w3.cell? ⟨w.heap.size, 4, none⟩ = some (.slice (some ⟨bb', off', none⟩) ys.length b) := B3.cell 4
        have hc2' := (x3.cells.1 _ (off' + j) (by assumption)).trans hc2
        by_cases hn : numP x = 0
        · have hn' : (numP x == 0) = true := by rw [beq_iff_eq]; exact hn
          have HN := Lib.hid hn
          clear hn
          go_wp2_with (fail)
          refine (pnumber_any y _).mono ?_
          rintro e w4 ⟨rfl, x4⟩
          have Y4 := Ext.tr Y3 x4
          have B4 := Lib.hid (B3.ext x4)
          have HR : Hid (itemsP cap xs ys (j + 1) = numP y) := by
            have h1 := S.out
            rw [if_pos HN.out] at h1
            exact h1
          clear c1 c3 c4 c4' hc1 hc2 hc2' he' hn'
          go_wp2
          go_roundw
          case rel => exact ⟨j + 1, by go_num, by rw [HR.out], by omega, Y4, B4⟩
          case measure => simp [intOf]; omega
        · have hn' : (numP x == 0) = false := by rw [beq_eq_false_iff_ne]; exact hn
          have HR : Hid (itemsP cap xs ys (j + 1) = numP x) := by
            have h1 := S.out
            rw [if_neg hn] at h1
            exact h1
          clear hn
          have B4 := Lib.hid B3
          clear c1 c3 c4 c4' hc1 hc2 hc2' he' B3
          go_wp2
          go_roundw
          case rel => exact ⟨j + 1, by go_num, by rw [HR.out], by omega, Y3, B4⟩
          case measure => simp [intOf]; omega
      · obtain rfl : j = xs.length := by omega
        clear cA cB c3 c4
        go_wp2
        go_ret
        exact ⟨rfl, Y⟩
    · have he' : (itemsP cap xs ys j == 0) = false := by rw [beq_eq_false_iff_ne]; exact he
      have HE : Hid (itemsP cap xs ys xs.length = itemsP cap xs ys j) := itemsP_stop hxy.out he
      clear he cA cB c3 c4
      by_cases hlt : j < xs.length
      · go_wp2
        go_ret
        exact ⟨ret_i HE.out.symm, Y⟩
      · go_wp2
        go_ret
        exact ⟨ret_i HE.out.symm, Y⟩
end Go.Proofs.YtpfdkocelmmllaaDoor
