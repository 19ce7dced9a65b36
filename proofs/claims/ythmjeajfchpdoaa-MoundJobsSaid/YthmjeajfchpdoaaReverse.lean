/-
  slices.Reverse of ints, in place.
-/
import Derived.Test.YthmjeajfchpdoaaOwn
namespace Go.Proofs.Ythmjeajfchpdoaa
open Go.RowKit Go.ChangeShapes Go.WideShapes Go.ChangeAt

/-- the first i and the last i have changed places -/
def RevTo (xs ys : List Int) (i : Nat) : Prop := ys.length = xs.length ∧ ∀ k, k < xs.length → ys[k]? = if k < i ∨ xs.length - i ≤ k then xs[xs.length - 1 - k]? else xs[k]?
theorem RevTo.start (xs : List Int) : RevTo xs xs 0 := ⟨rfl, fun k hk => by rw [if_neg (by omega)]⟩
theorem RevTo.step {xs ys : List Int} {i : Nat} {x y : Int} (h : RevTo xs ys i) (hi : i + i + 1 < xs.length) (hx : ys[i]? = some x) (hy : ys[xs.length - 1 - i]? = some y) : RevTo xs ((ys.set i y).set (xs.length - 1 - i) x) (i + 1) := by
  obtain ⟨h1, h2⟩ := h
  have ei := h2 i (by omega)
  have ej := h2 (xs.length - 1 - i) (by omega)
  rw [if_neg (by omega), hx] at ei
  rw [if_neg (by omega), hy] at ej
  refine ⟨by simpa using h1, fun k hk => ?_⟩
  by_cases hkj : xs.length - 1 - i = k
  · subst hkj
    rw [List.getElem?_set_self (by simp; omega), if_pos (by omega), show xs.length - 1 - (xs.length - 1 - i) = i by omega, ← ei]
  · rw [List.getElem?_set_ne hkj]
    by_cases hki : i = k
    · subst hki
      rw [List.getElem?_set_self (by omega), if_pos (by omega), ← ej]
    · rw [List.getElem?_set_ne hki, h2 k hk]
      by_cases hc : k < i ∨ xs.length - i ≤ k
      · rw [if_pos hc, if_pos (by omega)]
      · rw [if_neg hc, if_neg (by omega)]
theorem RevTo.done {xs ys : List Int} {i : Nat} (h : RevTo xs ys i) (hi : xs.length ≤ i + i + 1) : ys = xs.reverse := by
  obtain ⟨h1, h2⟩ := h
  apply List.ext_getElem?
  intro k
  by_cases hk : k < xs.length
  · rw [h2 k hk, List.getElem?_reverse hk]
    split
    · rfl
    · rw [show xs.length - 1 - k = k by omega]
  · rw [List.getElem?_eq_none (by omega), List.getElem?_eq_none (by simp; omega)]

theorem reverse_any (A : Option Addr) (c base : Nat) (xs : List Int) (w : World) (h : OwI w base A c xs) (hl : xs.length ≤ 2 ^ 44) :
    Calls Try.prog 76 #[.slice A xs.length c] w fun e w' => e = .returned (.tuple #[]) ∧ OwI w' base A c xs.reverse ∧ Mod (fun k => bl A = some k) w w' := by
  go_enter Try.func76, Try.ntmps76
  go_wp2_with fail
  go_loopw [2, 3] (fun i j wr => ∃ (k : Nat) (ys : List Int), i = .int .i64 k ∧ j = .int .i64 ((xs.length : Int) - 1 - k) ∧ k + k ≤ xs.length ∧ RevTo xs ys k ∧ OwI wr base A c ys ∧ Mod (fun k => bl A = some k) w wr) (fun i _ _ => xs.length - (intOf i).toNat)
  case atStart => exact ⟨0, xs, rfl, by simp, by omega, RevTo.start _, h, Mod.rf _⟩
  case round =>
    obtain ⟨k, ys, rfl, rfl, hk, hr, ho, hm⟩ := hrel
    by_cases hlt : k + k + 1 < xs.length
    · have hly : ys.length = xs.length := hr.1
      obtain ⟨g, x, rfl, hg, hgl, hc1, hf1, hx, hs1⟩ := ho.at (k := k) (by omega)
      obtain ⟨y, hc2, hf2, _, hy, _⟩ := ho.cell (k := xs.length - 1 - k) (by omega)
      obtain ⟨_, _, _, _, _, hs2⟩ := (hs1.out y).cell (k := xs.length - 1 - k) (by rw [List.length_set]; omega)
      have hr2 := Lib.hid (hr.step hlt hx.out hy.out)
      replace hly := Lib.hid hly
      replace hr := Lib.hid hr
      replace ho := Lib.hid ho
      have hlt' : (k : Int) < (xs.length : Int) - 1 - k := by omega
      have hej : (xs.length : Int) - 1 - (k : Int) = ((xs.length - 1 - k : Nat) : Int) := by omega
      rw [hej] at hlt' ⊢
      generalize hj : xs.length - 1 - k = j at *
      have hkj : k < j := by omega
      have hjl : j < xs.length := by omega
      replace hj := Lib.hid hj
      replace hej := Lib.hid hej
      go_wp2_with (go_region)
      go_roundw
      case rel => exact ⟨k + 1, _, by go_num, by congr 1; have := hej.out; omega, by omega, hr2.out, (hs2.out x).ext ((Ext.rf _).drew), ((hm.set (p := ⟨g, k, none⟩) (.inl rfl) _).set (p := ⟨g, j, none⟩) (.inl rfl) _).drew⟩
      case measure => simp [intOf]; omega
    · have hle : ¬ (k : Int) < (xs.length : Int) - 1 - k := by omega
      go_wp2
      go_end0
      exact ⟨rfl, by have := hr.done (by omega); rw [← this]; exact ho, hm⟩
end Go.Proofs.Ythmjeajfchpdoaa
