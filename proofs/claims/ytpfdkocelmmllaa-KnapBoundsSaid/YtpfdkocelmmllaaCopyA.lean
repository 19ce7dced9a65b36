/-
  The document's cut: a list of its own, no longer than some.
-/
import Derived.Test.YtpfdkocelmmllaaInst
namespace Go.Proofs.Ytpfdkocelmmllaa
open Go.RowKit Go.ChangeShapes Go.WideShapes Go.ChangeAt Go.Deep

/-- a list of the call's own, made behind the world w -/
def CutPost (xs : List Int) (n : Nat) (w : World) (e : Ending) (w' : World) : Prop := ∃ A c, e = .returned (.slice A (xs.take n).length c) ∧ OwI w' w.heap.size A c (xs.take n) ∧ Ext w w'
set_option maxRecDepth 100000 in
theorem cut_any (A : Option Addr) (c : Nat) (xs : List Int) (w : World) (hx : RdI w A xs) (ix : Ints xs) (lx : xs.length ≤ c) (lc : c ≤ maxLen) :
    Calls Try.prog 53 #[.slice A xs.length c] w (CutPost xs 70 w) := by
  unfold maxLen at lc
  obtain ⟨ps, hp, ip, lp, lp', kp, ep⟩ := cut_min 70 hx ix
  simp only [Int.cast_ofNat_Int] at ep
  have lpd : ps.length ≤ c := by omega
  replace hp := Lib.hid hp
  clear hx ix
  go_enter Try.func53, Try.ntmps53
  go_wp2_with (at_builtin; refine wpl_copy_i _ rfl _ _ rfl w.heap.size _ ps A c rfl rfl ?_ ?_ ?_ ?_ ?_; (first | exact .new (by simp) | exact .drew (.new (by simp)) | exact .alloc (.new (by simp)) _ | exact .drew (.alloc (.new (by simp)) _) | exact .alloc (.alloc (.new (by simp)) _) _ | exact .drew (.alloc (.alloc (.new (by simp)) _) _) | (repeat (first | assumption | (refine Blk.new ?_; (focus (simp; done))) | apply Blk.drew | apply Blk.drewN | apply Blk.alloc))); (first | exact Nat.le_refl _ | omega | (focus (simp; try omega))); (refine hp.out.ext ?_; (repeat (first | assumption | exact Ext.rf _ | apply Ext.drew | apply Ext.drewN | apply Ext.alloc))); omega; rintro A7 c7 w7 o7 x7; have y7 := Ext.tr (a := w) (by (repeat (first | assumption | exact Ext.rf _ | apply Ext.drew | apply Ext.drewN | apply Ext.alloc))) x7)
  have kq := kp.out
  exact bodyPost_ret (v := .slice A7 ps.length c7) (by simp [results, Try.results53, go_sem]) rfl ⟨A7, c7, by rw [← kq], by rw [← kq]; exact o7, y7⟩
end Go.Proofs.Ytpfdkocelmmllaa
