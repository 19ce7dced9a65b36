/-
  The document's Same of two lists of ints (kurganref09).
-/
import Derived.Test.YtpfdkocelmmllaaDoorOwn
namespace Go.Proofs.YtpfdkocelmmllaaDoor
open Go.RowKit

theorem eqL_cons (x y : Int) (xs ys : List Int) : decide (x :: xs = y :: ys) = (decide (x = y) && decide (xs = ys)) := by
  rw [Bool.eq_iff_iff]; simp
theorem same_any (A B : Option Addr) (c d : Nat) (xs ys : List Int) (w : World) (hx : RdI w A xs) (hy : RdI w B ys) (lx : xs.length ≤ maxLen) (ly : ys.length ≤ maxLen) :
    Calls Tryd.prog 22 #[.slice A xs.length c, .slice B ys.length d] w fun e w' => e = .returned (.bool (decide (xs = ys))) ∧ Ext w w' := by
  by_cases hl : xs.length = ys.length
  · have hb : ((xs.length : Int) != (ys.length : Int)) = false := by simp [hl]
    have hl := Lib.hid hl
    unfold maxLen at lx ly
    go_enter Tryd.func22, Tryd.ntmps22
    go_wp2_with fail
    go_loopw [5] (fun i wr => ∃ k : Nat, k ≤ xs.length ∧ i = .int .i64 k ∧ Hid (decide (xs = ys) = decide (xs.drop k = ys.drop k)) ∧ Ext w wr) (fun i _ => xs.length - (intOf i).toNat)
    case atStart => exact ⟨0, by omega, rfl, by exact rfl, Ext.rf _⟩
    case round =>
      obtain ⟨k, hk1, rfl, hH, he⟩ := hrel
      have hx' := hx.ext he
      have hy' := hy.ext he
      by_cases h1 : k < xs.length
      · obtain ⟨b, off, x, rfl, _, hc1, _, hd1⟩ := hx'.at h1
        obtain ⟨b', off', y, rfl, _, hc2, _, hd2⟩ := hy'.at (k := k) (by have := hl.out; omega)
        have h2 : k < ys.length := by have := hl.out; omega
        by_cases h3 : x = y
        · subst h3
          go_wp2_with (go_quiet (fail))
          go_roundw
          case rel => exact ⟨k + 1, by omega, by go_num, by rw [hH.out, hd1.out, hd2.out, eqL_cons, decide_eq_true rfl, Bool.true_and]; exact rfl, by repeat (first | exact he | apply Ext.drewN)⟩
          case measure => simp [intOf]; omega
        · have h3' : (x != y) = true := by simpa using h3
          go_wp2_with (go_quiet (fail))
          go_ret
          exact ⟨ret_b (by rw [hH.out, hd1.out, hd2.out, eqL_cons]; simp [h3]), by repeat (first | exact he | apply Ext.drewN)⟩
      · have hd1 := drop_nil (xs := xs) (k := k) (by omega)
        have hd2 := drop_nil (xs := ys) (k := k) (by have := hl.out; omega)
        go_wp2
        go_ret
        exact ⟨ret_b (by rw [hH.out, hd1.out, hd2.out]; rfl), he⟩
  · have hne : xs ≠ ys := fun e => hl (by rw [e])
    have hb : ((xs.length : Int) != (ys.length : Int)) = true := by rw [bne_iff_ne]; omega
    clear hl
    go_enter Tryd.func22, Tryd.ntmps22
    go_wp2
    go_ret
    exact ⟨ret_b (by simp [hne]), Ext.rf _⟩
end Go.Proofs.YtpfdkocelmmllaaDoor
