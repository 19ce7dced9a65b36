/-
  slices.IndexFunc and ContainsFunc, at a list of ints and at a list of rows, with whatever predicate that turns nothing.
-/
import Derived.Test.YtpfdkocelmmllaaDoorCheckD
import Derived.Shelf.Abstract
namespace Go.Proofs.YtpfdkocelmmllaaDoor
open Go.RowKit Go.ChangeShapes Go.WideShapes Go.ChangeAt Go.Deep

/-- the first place at which it holds, or -1 -/
def idxP {α : Type} (p : α → Bool) (k : Nat) : List α → Int
  | [] => -1
  | x :: l => if p x then (k : Int) else idxP p (k + 1) l
theorem idxP_any {α : Type} (p : α → Bool) : ∀ (k : Nat) (l : List α), decide (0 ≤ idxP p k l) = l.any p
  | k, [] => by simp [idxP]
  | k, x :: l => by
    unfold idxP
    cases h : p x with
    | true => simp [h]
    | false => simpa [h] using idxP_any p (k + 1) l
theorem idxP_bd {α : Type} (p : α → Bool) : ∀ (k : Nat) (l : List α), -1 ≤ idxP p k l ∧ idxP p k l ≤ k + l.length
  | k, [] => by simp only [idxP, List.length_nil]; omega
  | k, x :: l => by
    unfold idxP
    cases h : p x with
    | true => simp; omega
    | false => have := idxP_bd p (k + 1) l; simp at this ⊢; omega
def BoolOf {α : Type} (g : Nat) (lb : Array Value) (enc : α → Value) (p : α → Bool) (xs : List α) (w : World) : Prop :=
  ∀ (W : World) (x : α), x ∈ xs → Ext w W → Calls Tryd.prog g (#[enc x] ++ lb) W fun e w' => e = .returned (.bool (p x)) ∧ Ext W w'
set_option maxRecDepth 100000 in
set_option maxHeartbeats 1000000 in
theorem idx_rows (g : Nat) (lb : Array Value) (p : Nat → Bool) (eg : ∀ args w, (callFunc g args).run Tryd.prog w = .ok (.enter g args) w) (C : Option Addr) (c : Nat) (l : List (List Int)) (w : World) (hC : RdE 1 RInts w C l) (lx : l.length ≤ maxLen)
    (hp : ∀ (W : World) (B : Option Addr) (r : List Int) (d : Nat), r ∈ l → Ext w W → Calls Tryd.prog g (#[.slice B r.length d] ++ lb) W fun e w' => e = .returned (.bool (p r.length)) ∧ Ext W w') :
    Calls Tryd.prog 60 #[.slice C l.length c, .func (.func g) #[] lb] w fun e w' => e = .returned (.int .i64 (idxP (fun r : List Int => p r.length) 0 l)) ∧ Ext w w' := by
  unfold maxLen at lx
  go_enter Tryd.func60, Tryd.ntmps60
  go_wp2_with (fail)
  go_loopw [8] (fun i wr => ∃ j : Nat, i = .int .i64 j ∧ j ≤ l.length ∧ Hid (idxP (fun r : List Int => p r.length) 0 l = idxP (fun r : List Int => p r.length) j (l.drop j)) ∧ Ext w wr) (fun i _ => l.length - (intOf i).toNat)
  case atStart => exact ⟨0, rfl, by omega, by exact rfl, Ext.rf _⟩
  case round =>
    obtain ⟨j, rfl, hj, HJ, Y⟩ := hrel
    by_cases hlt : j < l.length
    · obtain ⟨b, off, D, row, d, rfl, _, hc1, hx, hd, rr, ir, ld, md⟩ := (hC.ext Y fun _ _ h => h.ext Y).ints hlt
      have hcall := hp wr D row d (List.mem_of_getElem? hx.out) Y
      clear hp
      cases hq : p row.length with
      | true =>
        rw [hq] at hcall
        have HR : Hid (idxP (fun r : List Int => p r.length) 0 l = j) := by
          have h1 := HJ.out
          rw [hd.out, idxP, if_pos hq] at h1
          exact h1
        clear hq
        go_wp2_with (go_at_fn g; refine hcall.mono ?_; rintro e w' ⟨rfl, x'⟩)
        go_ret
        exact ⟨ret_i HR.out.symm, Ext.tr Y x'⟩
      | false =>
        rw [hq] at hcall
        have HR : Hid (idxP (fun r : List Int => p r.length) 0 l = idxP (fun r : List Int => p r.length) (j + 1) (l.drop (j + 1))) := by
          have h1 := HJ.out
          rw [hd.out, idxP, if_neg (by simp [hq])] at h1
          exact h1
        clear hq
        go_wp2_with (go_at_fn g; refine hcall.mono ?_; rintro e w' ⟨rfl, x'⟩)
        go_roundw
        case rel => exact ⟨j + 1, by go_num, by omega, HR, Ext.tr Y x'⟩
        case measure => simp [intOf]; omega
    · have hd := drop_nil (xs := l) (k := j) (by omega)
      have HR : Hid (idxP (fun r : List Int => p r.length) 0 l = -1) := by
        have h1 := HJ.out
        rw [hd.out, idxP] at h1
        exact h1
      clear hd hp
      go_wp2
      go_ret
      exact ⟨ret_i HR.out.symm, Y⟩
set_option maxRecDepth 100000 in
theorem has_rows (g : Nat) (lb : Array Value) (p : Nat → Bool) (eg : ∀ args w, (callFunc g args).run Tryd.prog w = .ok (.enter g args) w) (C : Option Addr) (c : Nat) (l : List (List Int)) (w : World) (hC : RdE 1 RInts w C l) (lx : l.length ≤ maxLen)
    (hp : ∀ (W : World) (B : Option Addr) (r : List Int) (d : Nat), r ∈ l → Ext w W → Calls Tryd.prog g (#[.slice B r.length d] ++ lb) W fun e w' => e = .returned (.bool (p r.length)) ∧ Ext W w') :
    Calls Tryd.prog 51 #[.slice C l.length c, .func (.func g) #[] lb] w fun e w' => e = .returned (.bool (l.any fun r => p r.length)) ∧ Ext w w' := by
  have H := Lib.hid (idxP_any (fun r : List Int => p r.length) 0 l)
  go_enter Tryd.func51, Tryd.ntmps51
  go_wp2_with (fail)
  refine (idx_rows g lb p eg C c l _ hC lx hp).mono ?_
  rintro e w' ⟨rfl, x'⟩
  clear hp
  go_wp2
  go_ret
  exact ⟨ret_b H.out, x'⟩
/-- the closure of inst.shape -/
theorem lens_any (B : Option Addr) (m d : Nat) (g : Nat) (n : Int) (cs : Array Value) (w : World) (hg : Blk w g 25 cs) (hn : cs[1]? = some (.int .i64 n)) :
    Calls Tryd.prog 52 (#[.slice B m d] ++ #[.pointer (some ⟨g, 0, none⟩)]) w fun e w' => e = .returned (.bool ((m : Int) != n)) ∧ Ext w w' := by
  have c1 : w.cell? ⟨g, 1, none⟩ = some (.int .i64 n) := (hg.cell 1).trans hn
  replace hg := Lib.hid hg
  replace hn := Lib.hid hn
  go_enter Tryd.func52, Tryd.ntmps52
  go_wp2
  go_ret
  exact ⟨rfl, Ext.rf _⟩
theorem lens_enters : ∀ args w, (callFunc 52 args).run Tryd.prog w = .ok (.enter 52 args) w := enters_of Tryd.func52 (by kernel_rfl) rfl
end Go.Proofs.YtpfdkocelmmllaaDoor
