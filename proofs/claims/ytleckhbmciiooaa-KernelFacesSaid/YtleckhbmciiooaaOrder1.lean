/-
  The closure that tells which of two items stands ahead; the numbers from 0 on.
  The numbers from 0 on; the sort by merging, with whatever order.
-/
import Derived.Test.YtleckhbmciiooaaArith
import Derived.Test.YtleckhbmciiooaaCheckE
import Derived.Test.YtleckhbmciiooaaPlainK
namespace Go.Proofs.Ytleckhbmciiooaa
open Go.RowKit Go.ChangeShapes Go.WideShapes Go.ChangeAt Go.Deep

/-- a problem's numbers, each by itself in form -/
def Small31 (xs : List Int) : Prop := ∀ x ∈ xs, 0 ≤ x ∧ x ≤ 2147483647
theorem Small31.get {xs : List Int} (h : Small31 xs) {k : Nat} {x : Int} (hk : xs[k]? = some x) : 0 ≤ x ∧ x ≤ 2147483647 := h x (List.mem_of_getElem? hk)
/-- a slice of ints in a variable of its own -/
def BoxI (w : World) (g : Nat) (xs : List Int) : Prop := ∃ A c, Blk w g 22 #[.slice A xs.length c] ∧ RdI w A xs ∧ xs.length ≤ 9223372036854775807
theorem BoxI.ext {w w' : World} {g : Nat} {xs : List Int} (h : BoxI w g xs) (x : Ext w w') : BoxI w' g xs := by
  obtain ⟨A, c, h1, h2, h3⟩ := h
  exact ⟨A, c, h1.ext x, h2.ext x, h3⟩
set_option maxRecDepth 100000 in
set_option maxHeartbeats 2000000 in
theorem ahead_any (vs ws : List Int) (gv gw a b : Nat) (w : World) (hv : BoxI w gv vs) (hw : BoxI w gw ws) (sv : Small31 vs) (sw : Small31 ws) (ha : a < vs.length) (hb : b < vs.length) (ha' : a < ws.length) (hb' : b < ws.length) :
    Calls Try.prog 107 (#[.int .i64 a, .int .i64 b] ++ #[.pointer (some ⟨gw, 0, none⟩), .pointer (some ⟨gv, 0, none⟩)]) w fun e w' => e = .returned (.bool (aheadB vs ws a b)) ∧ Ext w w' := by
  obtain ⟨A, c, B1, rv, lv⟩ := hv
  obtain ⟨B, d, B2, rw', lw⟩ := hw
  obtain ⟨g1, o1, va, rfl, z1, c1, e1, _⟩ := rv.at ha
  obtain ⟨g1', o1', vb, h1', z1', c2, e2, _⟩ := rv.at hb
  obtain ⟨rfl, rfl⟩ : g1 = g1' ∧ o1 = o1' := by injection h1' with h; injection h with h3 h4; exact ⟨h3, h4⟩
  obtain ⟨g2, o2, wa, rfl, z2, c3, e3, _⟩ := rw'.at ha'
  obtain ⟨g2', o2', wb, h2', z2', c4, e4, _⟩ := rw'.at hb'
  obtain ⟨rfl, rfl⟩ : g2 = g2' ∧ o2 = o2' := by injection h2' with h; injection h with h3 h4; exact ⟨h3, h4⟩
  have bva := sv.get e1.out
  have bvb := sv.get e2.out
  have bwa := sw.get e3.out
  have bwb := sw.get e4.out
  have HA : Hid (aheadB vs ws a b = if wb = 0 then false else if wa = 0 then true else decide (vb * wa < va * wb)) := by
    have h : aheadB vs ws a b = if wb = 0 then false else if wa = 0 then true else decide (vb * wa < va * wb) := by
      unfold aheadB
      rw [getD_some e1.out, getD_some e2.out, getD_some e3.out, getD_some e4.out]
    exact h
  have d1 : w.cell? ⟨gv, 0, none⟩ = some (.slice (some ⟨g1, o1, none⟩) vs.length c) := B1.cell 0
  have d2 : w.cell? ⟨gw, 0, none⟩ = some (.slice (some ⟨g2, o2, none⟩) ws.length d) := B2.cell 0
  have y1 := B1.lt
  have y2 := B2.lt
  clear h1' h2' rv rw' B1 B2 sv sw
  by_cases hwb : wb = 0
  · subst hwb
    have HR : Hid (aheadB vs ws a b = false) := by
      have h := HA.out
      rw [if_pos rfl] at h
      exact h
    go_enter Try.func107, Try.ntmps107
    go_wp2
    go_ret
    exact ⟨ret_b HR.out.symm, Ext.rf _⟩
  · have hwb' : (wb == 0) = false := by simpa using hwb
    by_cases hwa : wa = 0
    · subst hwa
      have HR : Hid (aheadB vs ws a b = true) := by
        have h := HA.out
        rw [if_neg hwb, if_pos rfl] at h
        exact h
      clear hwb
      go_enter Try.func107, Try.ntmps107
      go_wp2
      go_ret
      exact ⟨ret_b HR.out.symm, Ext.rf _⟩
    · have hwa' : (wa == 0) = false := by simpa using hwa
      have HR : Hid (aheadB vs ws a b = decide (0 < crossP va wb vb wa)) := by
        have h := HA.out
        rw [if_neg hwb, if_neg hwa] at h
        have h2 : decide (vb * wa < va * wb) = decide (0 < crossP va wb vb wa) := by
          rw [decide_eq_decide]
          exact (crossP_pos bva.1 bwb.1 bvb.1 bwa.1).symm
        rw [h2] at h
        exact h
      clear hwb hwa
      go_enter Try.func107, Try.ntmps107
      go_wp2_with (fail)
      go_region_held3 (fun w' => w'.cell? ⟨gv, 0, none⟩ = some (.slice (some ⟨g1, o1, none⟩) vs.length c) ∧ w'.cell? ⟨gw, 0, none⟩ = some (.slice (some ⟨g2, o2, none⟩) ws.length d) ∧ w'.cell? ⟨g1, o1 + a, none⟩ = some (.int .i64 va) ∧ w'.cell? ⟨g1, o1 + b, none⟩ = some (.int .i64 vb) ∧ w'.cell? ⟨g2, o2 + a, none⟩ = some (.int .i64 wa) ∧ w'.cell? ⟨g2, o2 + b, none⟩ = some (.int .i64 wb)) (go_keep)
        (first
          | (go_at_call 108; refine (cross_any va wb vb wa _ bva bwb bvb bwa).mono ?_; rintro e w2 ⟨rfl, x2⟩; have X2 := Ext.tr (a := w) (by (repeat (first | assumption | exact Ext.rf _ | apply Ext.drew | apply Ext.drewN | apply Ext.alloc))) x2; have k1 := keepEL X2 y1 d1; have k2 := keepEL X2 y2 d2; have k3 := keepEL X2 z1 c1; have k4 := keepEL X2 z1 c2; have k5 := keepEL X2 z2 c3; have k6 := keepEL X2 z2 c4))
      all_goals go_wp2
      all_goals go_ret
      all_goals exact ⟨ret_b HR.out.symm, by (repeat (first | assumption | exact Ext.rf _ | apply Ext.drew | apply Ext.drewN | apply Ext.alloc))⟩
theorem ahead_enters : ∀ args w, (callFunc 107 args).run Try.prog w = .ok (.enter 107 args) w := enters_of Try.func107 (by kernel_rfl) rfl
end Go.Proofs.Ytleckhbmciiooaa
namespace Go.Proofs.Ytleckhbmciiooaa
open Go.RowKit Go.ChangeShapes Go.WideShapes Go.ChangeAt Go.Deep

def nl (l : List Nat) : List Int := l.map fun n : Nat => (n : Int)
theorem nl_len (l : List Nat) : (nl l).length = l.length := by simp [nl]
theorem nl_get {l : List Nat} {k n : Nat} (h : l[k]? = some n) : (nl l)[k]? = some (n : Int) := by simp [nl, h]
theorem nl_app (a b : List Nat) : nl (a ++ b) = nl a ++ nl b := by simp [nl]
/-- the first k are told, the rest is nought -/
def plainL (n k : Nat) : List Int := (List.range n).map fun i => if i < k then (i : Int) else 0
theorem plainL_len (n k : Nat) : (plainL n k).length = n := by simp [plainL]
theorem plainL_zero (n : Nat) : plainL n 0 = List.replicate n 0 := by
  simp [plainL, List.map_const']
theorem plainL_succ (n k : Nat) : plainL n (k + 1) = (plainL n k).set k k := by
  refine List.ext_getElem (by simp [plainL]) fun i h1 h2 => ?_
  rw [List.getElem_set]
  simp only [plainL, List.getElem_map, List.getElem_range]
  by_cases h : k = i
  · subst h; simp
  · rw [if_neg h]
    by_cases h3 : i < k
    · rw [if_pos h3, if_pos (by omega)]
    · rw [if_neg h3, if_neg (by omega)]
theorem plainL_full (n : Nat) : plainL n n = nl (List.range n) := by
  refine List.ext_getElem (by simp [plainL, nl]) fun i h1 h2 => ?_
  simp only [plainL, nl, List.getElem_map, List.getElem_range]
  rw [if_pos (by simpa [plainL] using h1)]
def ListPost (l : List Int) (base : Nat) (w : World) (e : Ending) (w' : World) : Prop := ∃ A c, e = .returned (.slice A l.length c) ∧ OwI w' base A c l ∧ Ext w w'
set_option maxRecDepth 100000 in
set_option maxHeartbeats 1000000 in
theorem plain_any (n : Nat) (w : World) (hn : n ≤ 1000000000) : Calls Try.prog 106 #[.int .i64 n] w (ListPost (nl (List.range n)) w.heap.size w) := by
  go_enter Try.func106, Try.ntmps106
  go_wp2_with (at_make; refine wpl_make_i _ rfl _ _ rfl w.heap.size _ _ n rfl rfl rfl rfl (by omega) (Nat.le_refl _) ?_; rintro w1 hown hg)
  have X1 := Lib.hid ((Ext.rf w).grownNone hg)
  replace hown := Lib.hid hown
  clear hg
  go_loopw [9] (fun i wr => ∃ k : Nat, i = .int .i64 k ∧ k ≤ n ∧ Hid (OwI wr w.heap.size (some ⟨w.heap.size, 0, none⟩) n (plainL n k)) ∧ Ext w wr) (fun i _ => n - (intOf i).toNat)
  case atStart => exact ⟨0, rfl, by omega, by rw [plainL_zero]; exact hown, X1.out⟩
  case round =>
    obtain ⟨k, rfl, hk, HO, Y⟩ := hrel
    by_cases hlt : k < n
    · obtain ⟨x, hc, hf, hb, hx, hs⟩ := HO.out.cell (k := k) (by rw [plainL_len]; exact hlt)
      have HS : Hid (OwI (wr.setCell ⟨w.heap.size, k, none⟩ (.int .i64 k)) w.heap.size (some ⟨w.heap.size, 0, none⟩) n (plainL n (k + 1))) := by
        have h := hs.out k
        rw [← plainL_succ] at h
        exact h
      have Y2 := Lib.hid (Y.setNew (p := ⟨w.heap.size, k, none⟩) (Nat.le_refl _) (.int .i64 k))
      clear hx hs
      go_wp2
      go_roundw
      case rel => exact ⟨k + 1, by go_num, by omega, HS, Y2.out⟩
      case measure => simp [intOf]; omega
    · obtain rfl : k = n := by omega
      go_wp2
      go_ret
      refine ⟨some ⟨w.heap.size, 0, none⟩, k, ?_, ?_, Y⟩
      · rw [nl_len, List.length_range]
        rfl
      · rw [← plainL_full]
        exact HO.out
end Go.Proofs.Ytleckhbmciiooaa
