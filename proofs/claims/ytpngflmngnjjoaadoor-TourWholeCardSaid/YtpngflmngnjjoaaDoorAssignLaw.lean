/-
  From the condition that the table of the lowest bits is as it was laid to the table's cells.
  The document's Same of two lists of ints (kurganref09).
  What the assignment's laws share.
-/
import Derived.Test.YtpngflmngnjjoaaDoorSetList
import Derived.LaidMore
import Derived.Lay
import Derived.SevenTiedAt
import Derived.Stop.Joined
import Derived.Test.YtpngflmngnjjoaaDoorOwn
import Derived.Test.YtpngflmngnjjoaaDoorAssignW3
import Derived.Test.YtpngflmngnjjoaaDoorRefFcd
import Derived.Test.YtpngflmngnjjoaaDoorInstLaw
import Derived.Test.YtpngflmngnjjoaaDoorAssignW2
namespace Go.Proofs.YtpngflmngnjjoaaDoor
open Go.RowKit Go.ChangeShapes Go.WideShapes Go.ChangeAt

/-- the variables that the row lists -/
def tabL : List (String × DataW Unit) := [("math/bits.deBruijn64tab", Rows.laid_math_bits_deBruijn64tab)]
theorem tabData : (Rows.laid_math_bits_deBruijn64tab : DataW Unit) = .agg (Lib.deBruijn64tab.map fun n : Nat => .lit (.int .u8 (n : Int))) := by kernel_rfl
theorem tab_of_laid {W : World} (h : laidMetH Tryd.prog tabL W) : Tab W := by
  rw [MakeChecks.laidMetH_plain _ _ _ (by kernel_rfl)] at h
  obtain ⟨ps, ⟨g, t, cs, fuel, p, q, hg, ht, hv, hd, _, _⟩, _, _⟩ := h
  obtain rfl := Option.some.inj ((show Tryd.prog.globalNamed "math/bits.deBruijn64tab" = some 0 by kernel_rfl).symm.trans hg)
  obtain rfl := Option.some.inj ((show (Tryd.prog.globals[0]?).map (·.type) = some 97 by kernel_rfl).symm.trans ht)
  rw [show (Rows.laid_math_bits_deBruijn64tab : DataW Unit) = .agg (Lib.deBruijn64tab.map fun n : Nat => .lit (.int .u8 (n : Int))) from tabData] at hd
  obtain ⟨xs, m, _, ex, _, hl, hel⟩ := DataW.trod_array Tryd.underlying97 hd
  intro r hr
  have hlen : Lib.deBruijn64tab.length = 64 := by kernel_rfl
  rw [hlen] at hr
  have c5 : Tryd.prog.cellsOf 5 = 1 := by kernel_rfl
  have hE := hel r hr
  rw [c5, Nat.mul_one, List.getElem?_eq_getElem (by omega)] at hE
  obtain ⟨z, e1, e2, _⟩ := DataW.trod_int Tryd.underlying5 hE
  have e3 : (xs.map (·.1)) = Lib.deBruijn64tab.map fun n : Nat => .lit (.int .u8 (n : Int)) := (DataW.agg.inj (Prod.mk.inj ex).1).symm
  have e4 : (xs.map (·.1))[r]? = (Lib.deBruijn64tab.map fun n : Nat => (DataW.lit (.int .u8 (n : Int)) : DataW Unit))[r]? := by rw [e3]
  rw [List.getElem?_map, List.getElem?_map, List.getElem?_eq_getElem (by omega : r < xs.length), List.getElem?_eq_getElem (by omega : r < Lib.deBruijn64tab.length), e2] at e4
  have hz : z = ((Lib.deBruijn64tab.getD r 0 : Nat) : Int) := by
    simp only [Option.map_some, Option.some.injEq, DataW.lit.injEq, Lit.int.injEq, true_and] at e4
    rw [e4, List.getD, List.getElem?_eq_getElem (by omega : r < Lib.deBruijn64tab.length)]; rfl
  rw [World.var?_cell hg hv r, ← hz]
  have : cs.toList[r]? = some (.int .u8 z) := by
    have h0 : ((cs.toList.drop r).take 1)[0]? = some (.int .u8 z) := by rw [e1]; rfl
    simpa using h0
  simpa using this
end Go.Proofs.YtpngflmngnjjoaaDoor
namespace Go.Proofs.YtpngflmngnjjoaaDoor
open Go.RowKit

theorem eqL_cons (x y : Int) (xs ys : List Int) : decide (x :: xs = y :: ys) = (decide (x = y) && decide (xs = ys)) := by
  rw [Bool.eq_iff_iff]; simp
theorem same_any (A B : Option Addr) (c d : Nat) (xs ys : List Int) (w : World) (hx : RdI w A xs) (hy : RdI w B ys) (lx : xs.length ≤ maxLen) (ly : ys.length ≤ maxLen) :
    Calls Tryd.prog 27 #[.slice A xs.length c, .slice B ys.length d] w fun e w' => e = .returned (.bool (decide (xs = ys))) ∧ Ext w w' := by
  by_cases hl : xs.length = ys.length
  · have hb : ((xs.length : Int) != (ys.length : Int)) = false := by simp [hl]
    have hl := Lib.hid hl
    unfold maxLen at lx ly
    go_enter Tryd.func27, Tryd.ntmps27
    go_wp2_with fail
    go_loopw [5] (fun i wr => ∃ k : Nat, k ≤ xs.length ∧ i = .int .i64 k ∧ Hid (decide (xs = ys) = decide (xs.drop k = ys.drop k)) ∧ Ext w wr) (fun i _ => xs.length - (intOf i).toNat)
    case atStart => exact ⟨0, by omega, rfl, by exact rfl, Ext.rf _⟩
    case round =>
      obtain ⟨k, hk1, rfl, hH, he⟩ := hrel
      have hx' := hx.ext he
      have hy' := hy.ext he
      by_cases h1 : k < xs.length
      · obtain ⟨b, off, x, rfl, _, hc1, _, hd1⟩ := hx'.at h1
        obtain ⟨b', off', y, rfl, _, hc2, _, hd2⟩ := hy'.at (k := k) (by have := hl.out; omega)
        have h2 : k < ys.length := by have := hl.out; omega
        by_cases h3 : x = y
        · subst h3
          go_wp2_with (go_quiet (fail))
          go_roundw
          case rel => exact ⟨k + 1, by omega, by go_num, by rw [hH.out, hd1.out, hd2.out, eqL_cons, decide_eq_true rfl, Bool.true_and]; exact rfl, by repeat (first | exact he | apply Ext.drewN)⟩
          case measure => simp [intOf]; omega
        · have h3' : (x != y) = true := by simpa using h3
          go_wp2_with (go_quiet (fail))
          go_ret
          exact ⟨ret_b (by rw [hH.out, hd1.out, hd2.out, eqL_cons]; simp [h3]), by repeat (first | exact he | apply Ext.drewN)⟩
      · have hd1 := drop_nil (xs := xs) (k := k) (by omega)
        have hd2 := drop_nil (xs := ys) (k := k) (by have := hl.out; omega)
        go_wp2
        go_ret
        exact ⟨ret_b (by rw [hH.out, hd1.out, hd2.out]; rfl), he⟩
  · have hne : xs ≠ ys := fun e => hl (by rw [e])
    have hb : ((xs.length : Int) != (ys.length : Int)) = true := by rw [bne_iff_ne]; omega
    clear hl
    go_enter Tryd.func27, Tryd.ntmps27
    go_wp2
    go_ret
    exact ⟨ret_b (by simp [hne]), Ext.rf _⟩
end Go.Proofs.YtpngflmngnjjoaaDoor
namespace Go.Proofs.YtpngflmngnjjoaaDoor
open Go.RowKit Go.ChangeShapes Go.WideShapes Go.ChangeAt Go.Deep

set_option maxRecDepth 100000 in
theorem cut12_any (A : Option Addr) (c : Nat) (xs : List Int) (w : World) (hx : RdI w A xs) (ix : Ints xs) (lx : xs.length ≤ c) (lc : c ≤ maxLen) :
    Calls Tryd.prog 14 #[.slice A xs.length c] w (CutPost xs 70 w) := by
  unfold maxLen at lc
  obtain ⟨ps, hp, ip, lp, lp', kp, ep⟩ := cut_min 70 hx ix
  simp only [Int.cast_ofNat_Int] at ep
  have lpd : ps.length ≤ c := by omega
  replace hp := Lib.hid hp
  clear hx ix
  go_enter Tryd.func14, Tryd.ntmps14
  go_wp2_with (at_builtin; refine wpl_copy_i _ rfl _ _ rfl w.heap.size _ ps A c rfl rfl ?_ ?_ ?_ ?_ ?_; (first | exact .new (by simp) | exact .drew (.new (by simp)) | exact .alloc (.new (by simp)) _ | exact .drew (.alloc (.new (by simp)) _) | exact .alloc (.alloc (.new (by simp)) _) _ | exact .drew (.alloc (.alloc (.new (by simp)) _) _) | (repeat (first | assumption | (refine Blk.new ?_; (focus (simp; done))) | apply Blk.drew | apply Blk.drewN | apply Blk.alloc))); (first | exact Nat.le_refl _ | omega | (focus (simp; try omega))); (refine hp.out.ext ?_; (repeat (first | assumption | exact Ext.rf _ | apply Ext.drew | apply Ext.drewN | apply Ext.alloc))); omega; rintro A7 c7 w7 o7 x7; have y7 := Ext.tr (a := w) (by (repeat (first | assumption | exact Ext.rf _ | apply Ext.drew | apply Ext.drewN | apply Ext.alloc))) x7)
  have kq := kp.out
  exact bodyPost_ret (v := .slice A7 ps.length c7) (by simp [results, Tryd.results14, go_sem]) rfl ⟨A7, c7, by rw [← kq], by rw [← kq]; exact o7, y7⟩
/-- the same, told by another list's name -/
def CutTo (ys : List Int) (w : World) (e : Ending) (w' : World) : Prop := ∃ A c, e = .returned (.slice A ys.length c) ∧ OwI w' w.heap.size A c ys ∧ Ext w w'
theorem cut_to {xs ys : List Int} (h : ys = xs.take 70) (A : Option Addr) (c : Nat) (w : World) (hx : RdI w A xs) (ix : Ints xs) (lx : xs.length ≤ c) (lc : c ≤ maxLen) :
    Calls Tryd.prog 14 #[.slice A xs.length c] w (CutTo ys w) := by subst h; exact cut12_any A c xs w hx ix lx lc
theorem same_yes (A B : Option Addr) (c d : Nat) (xs : List Int) (w : World) (hx : RdI w A xs) (hy : RdI w B xs) (lx : xs.length ≤ 9223372036854775807) :
    Calls Tryd.prog 27 #[.slice A xs.length c, .slice B xs.length d] w fun e w' => e = .returned (.bool true) ∧ Ext w w' :=
  (same_any A B c d xs xs w hx hy (by simp only [maxLen]; exact lx) (by simp only [maxLen]; exact lx)).mono fun _ _ h => ⟨by rw [h.1, decide_eq_true rfl], h.2⟩
/-- a list that reads so, and a word -/
def KidsPost (ks : List Int) (err : Int) (w : World) (e : Ending) (w' : World) : Prop := ∃ A c, e = .returned (.tuple #[.slice A ks.length c, .int .i64 err]) ∧ RdI w' A ks ∧ ks.length ≤ c ∧ c ≤ 9223372036854775807 ∧ Ext w w'
theorem own_kids {ks : List Int} {err : Int} {w : World} {e : Ending} {w' : World} (h : OwnPost ks err w e w') : KidsPost ks err w e w' := by
  obtain ⟨A, c, h1, h2, h3⟩ := h
  have := OwI.le h2
  exact ⟨A, c, h1, h2.read, this.1, by have := this.2; unfold maxLen at this; omega, h3⟩
end Go.Proofs.YtpngflmngnjjoaaDoor
