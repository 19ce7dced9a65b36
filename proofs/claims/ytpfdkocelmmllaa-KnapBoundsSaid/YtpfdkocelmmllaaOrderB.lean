/-
  The numbers from 0 on; the sort by merging, with whatever order.
-/
import Derived.Test.YtpfdkocelmmllaaOrderA
namespace Go.Proofs.Ytpfdkocelmmllaa
open Go.RowKit Go.ChangeShapes Go.WideShapes Go.ChangeAt Go.Deep

def nl (l : List Nat) : List Int := l.map fun n : Nat => (n : Int)
theorem nl_len (l : List Nat) : (nl l).length = l.length := by simp [nl]
theorem nl_get {l : List Nat} {k n : Nat} (h : l[k]? = some n) : (nl l)[k]? = some (n : Int) := by simp [nl, h]
theorem nl_app (a b : List Nat) : nl (a ++ b) = nl a ++ nl b := by simp [nl]
/-- the first k are told, the rest is nought -/
def plainL (n k : Nat) : List Int := (List.range n).map fun i => if i < k then (i : Int) else 0
theorem plainL_len (n k : Nat) : (plainL n k).length = n := by simp [plainL]
theorem plainL_zero (n : Nat) : plainL n 0 = List.replicate n 0 := by
  simp [plainL, List.map_const']
theorem plainL_succ (n k : Nat) : plainL n (k + 1) = (plainL n k).set k k := by
  refine List.ext_getElem (by simp [plainL]) fun i h1 h2 => ?_
  rw [List.getElem_set]
  simp only [plainL, List.getElem_map, List.getElem_range]
  by_cases h : k = i
  · subst h; simp
  · rw [if_neg h]
    by_cases h3 : i < k
    · rw [if_pos h3, if_pos (by omega)]
    · rw [if_neg h3, if_neg (by omega)]
theorem plainL_full (n : Nat) : plainL n n = nl (List.range n) := by
  refine List.ext_getElem (by simp [plainL, nl]) fun i h1 h2 => ?_
  simp only [plainL, nl, List.getElem_map, List.getElem_range]
  rw [if_pos (by simpa [plainL] using h1)]
def ListPost (l : List Int) (base : Nat) (w : World) (e : Ending) (w' : World) : Prop := ∃ A c, e = .returned (.slice A l.length c) ∧ OwI w' base A c l ∧ Ext w w'
set_option maxRecDepth 100000 in
set_option maxHeartbeats 1000000 in
theorem plain_any (n : Nat) (w : World) (hn : n ≤ 1000000000) : Calls Try.prog 94 #[.int .i64 n] w (ListPost (nl (List.range n)) w.heap.size w) := by
  go_enter Try.func94, Try.ntmps94
  go_wp2_with (at_make; refine wpl_make_i _ rfl _ _ rfl w.heap.size _ _ n rfl rfl rfl rfl (by omega) (Nat.le_refl _) ?_; rintro w1 hown hg)
  have X1 := Lib.hid ((Ext.rf w).grownNone hg)
  replace hown := Lib.hid hown
  clear hg
  go_loopw [9] (fun i wr => ∃ k : Nat, i = .int .i64 k ∧ k ≤ n ∧ Hid (OwI wr w.heap.size (some ⟨w.heap.size, 0, none⟩) n (plainL n k)) ∧ Ext w wr) (fun i _ => n - (intOf i).toNat)
  case atStart => exact ⟨0, rfl, by omega, by rw [plainL_zero]; exact hown, X1.out⟩
  case round =>
    obtain ⟨k, rfl, hk, HO, Y⟩ := hrel
    by_cases hlt : k < n
    · obtain ⟨x, hc, hf, hb, hx, hs⟩ := HO.out.cell (k := k) (by rw [plainL_len]; exact hlt)
      have HS : Hid (OwI (wr.setCell ⟨w.heap.size, k, none⟩ (.int .i64 k)) w.heap.size (some ⟨w.heap.size, 0, none⟩) n (plainL n (k + 1))) := by
        have h := hs.out k
        rw [← plainL_succ] at h
        exact h
      have Y2 := Lib.hid (Y.setNew (p := ⟨w.heap.size, k, none⟩) (Nat.le_refl _) (.int .i64 k))
      clear hx hs
      go_wp2
      go_roundw
      case rel => exact ⟨k + 1, by go_num, by omega, HS, Y2.out⟩
      case measure => simp [intOf]; omega
    · obtain rfl : k = n := by omega
      go_wp2
      go_ret
      refine ⟨some ⟨w.heap.size, 0, none⟩, k, ?_, ?_, Y⟩
      · rw [nl_len, List.length_range]
        rfl
      · rw [← plainL_full]
        exact HO.out
end Go.Proofs.Ytpfdkocelmmllaa
