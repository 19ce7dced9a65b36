/-
  What the assignment's laws share.
-/
import Derived.Test.YtpfdkocelmmllaaDoorAssignW3
import Derived.Test.YtpfdkocelmmllaaDoorRefFcd
import Derived.Test.YtpfdkocelmmllaaDoorInstLaw
import Derived.Test.YtpfdkocelmmllaaDoorAssignW2
import Derived.Test.YtpfdkocelmmllaaDoorTab
import Derived.Test.YtpfdkocelmmllaaDoorSame
namespace Go.Proofs.YtpfdkocelmmllaaDoor
open Go.RowKit Go.ChangeShapes Go.WideShapes Go.ChangeAt Go.Deep

set_option maxRecDepth 100000 in
theorem cut12_any (A : Option Addr) (c : Nat) (xs : List Int) (w : World) (hx : RdI w A xs) (ix : Ints xs) (lx : xs.length ≤ c) (lc : c ≤ maxLen) :
    Calls Tryd.prog 9 #[.slice A xs.length c] w (CutPost xs 70 w) := by
  unfold maxLen at lc
  obtain ⟨ps, hp, ip, lp, lp', kp, ep⟩ := cut_min 70 hx ix
  simp only [Int.cast_ofNat_Int] at ep
  have lpd : ps.length ≤ c := by omega
  replace hp := Lib.hid hp
  clear hx ix
  go_enter Tryd.func9, Tryd.ntmps9
  go_wp2_with (at_builtin; refine wpl_copy_i _ rfl _ _ rfl w.heap.size _ ps A c rfl rfl ?_ ?_ ?_ ?_ ?_; (first | exact .new (by simp) | exact .drew (.new (by simp)) | exact .alloc (.new (by simp)) _ | exact .drew (.alloc (.new (by simp)) _) | exact .alloc (.alloc (.new (by simp)) _) _ | exact .drew (.alloc (.alloc (.new (by simp)) _) _) | (repeat (first | assumption | (refine Blk.new ?_; (focus (simp; done))) | apply Blk.drew | apply Blk.drewN | apply Blk.alloc))); (first | exact Nat.le_refl _ | omega | (focus (simp; try omega))); (refine hp.out.ext ?_; (repeat (first | assumption | exact Ext.rf _ | apply Ext.drew | apply Ext.drewN | apply Ext.alloc))); omega; rintro A7 c7 w7 o7 x7; have y7 := Ext.tr (a := w) (by (repeat (first | assumption | exact Ext.rf _ | apply Ext.drew | apply Ext.drewN | apply Ext.alloc))) x7)
  have kq := kp.out
  exact bodyPost_ret (v := .slice A7 ps.length c7) (by simp [results, Tryd.results9, go_sem]) rfl ⟨A7, c7, by rw [← kq], by rw [← kq]; exact o7, y7⟩
/-- the same, told by another list's name -/
def CutTo (ys : List Int) (w : World) (e : Ending) (w' : World) : Prop := ∃ A c, e = .returned (.slice A ys.length c) ∧ OwI w' w.heap.size A c ys ∧ Ext w w'
theorem cut_to {xs ys : List Int} (h : ys = xs.take 70) (A : Option Addr) (c : Nat) (w : World) (hx : RdI w A xs) (ix : Ints xs) (lx : xs.length ≤ c) (lc : c ≤ maxLen) :
    Calls Tryd.prog 9 #[.slice A xs.length c] w (CutTo ys w) := by subst h; exact cut12_any A c xs w hx ix lx lc
theorem same_yes (A B : Option Addr) (c d : Nat) (xs : List Int) (w : World) (hx : RdI w A xs) (hy : RdI w B xs) (lx : xs.length ≤ 9223372036854775807) :
    Calls Tryd.prog 22 #[.slice A xs.length c, .slice B xs.length d] w fun e w' => e = .returned (.bool true) ∧ Ext w w' :=
  (same_any A B c d xs xs w hx hy (by simp only [maxLen]; exact lx) (by simp only [maxLen]; exact lx)).mono fun _ _ h => ⟨by rw [h.1, decide_eq_true rfl], h.2⟩
/-- a list that reads so, and a word -/
def KidsPost (ks : List Int) (err : Int) (w : World) (e : Ending) (w' : World) : Prop := ∃ A c, e = .returned (.tuple #[.slice A ks.length c, .int .i64 err]) ∧ RdI w' A ks ∧ ks.length ≤ c ∧ c ≤ 9223372036854775807 ∧ Ext w w'
theorem own_kids {ks : List Int} {err : Int} {w : World} {e : Ending} {w' : World} (h : OwnPost ks err w e w') : KidsPost ks err w e w' := by
  obtain ⟨A, c, h1, h2, h3⟩ := h
  have := OwI.le h2
  exact ⟨A, c, h1, h2.read, this.1, by have := this.2; unfold maxLen at this; omega, h3⟩
end Go.Proofs.YtpfdkocelmmllaaDoor
