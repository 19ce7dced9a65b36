/-
  slices.ContainsFunc of ints.
-/
import Derived.Test.YtleckhbmciiooaaCheckE
namespace Go.Proofs.Ytleckhbmciiooaa
open Go.RowKit Go.ChangeShapes Go.WideShapes Go.ChangeAt Go.Deep
set_option maxRecDepth 100000 in
set_option maxHeartbeats 1000000 in
theorem idx_ints (g : Nat) (lb : Array Value) (p : Int → Bool) (eg : ∀ args w, (callFunc g args).run Try.prog w = .ok (.enter g args) w) (A : Option Addr) (c : Nat) (xs : List Int) (w : World) (hA : RdI w A xs) (lx : xs.length ≤ maxLen) (hp : BoolOf g lb (Value.int .i64) p xs w) :
    Calls Try.prog 143 #[.slice A xs.length c, .func (.func g) #[] lb] w fun e w' => e = .returned (.int .i64 (idxP p 0 xs)) ∧ Ext w w' := by
  unfold maxLen at lx
  go_enter Try.func143, Try.ntmps143
  go_wp2_with (fail)
  go_loopw [8] (fun i wr => ∃ j : Nat, i = .int .i64 j ∧ j ≤ xs.length ∧ Hid (idxP p 0 xs = idxP p j (xs.drop j)) ∧ Ext w wr) (fun i _ => xs.length - (intOf i).toNat)
  case atStart => exact ⟨0, rfl, by omega, by exact rfl, Ext.rf _⟩
  case round =>
    obtain ⟨j, rfl, hj, HJ, Y⟩ := hrel
    by_cases hlt : j < xs.length
    · obtain ⟨b, off, x, rfl, _, hc, hx, hd⟩ := (hA.ext Y).at hlt
      have hcall := hp wr x (List.mem_of_getElem? hx.out) Y
      clear hp
      cases hq : p x with
      | true =>
        rw [hq] at hcall
        have HR : Hid (idxP p 0 xs = j) := by
          have h1 := HJ.out
          rw [hd.out, idxP, if_pos hq] at h1
          exact h1
        clear hq
        go_wp2_with (go_at_fn g; refine hcall.mono ?_; rintro e w' ⟨rfl, x'⟩)
        go_ret
        exact ⟨ret_i HR.out.symm, Ext.tr Y x'⟩
      | false =>
        rw [hq] at hcall
        have HR : Hid (idxP p 0 xs = idxP p (j + 1) (xs.drop (j + 1))) := by
          have h1 := HJ.out
          rw [hd.out, idxP, if_neg (by simp [hq])] at h1
          exact h1
        clear hq
        go_wp2_with (go_at_fn g; refine hcall.mono ?_; rintro e w' ⟨rfl, x'⟩)
        go_roundw
        case rel => exact ⟨j + 1, by go_num, by omega, HR, Ext.tr Y x'⟩
        case measure => simp [intOf]; omega
    · have hd := drop_nil (xs := xs) (k := j) (by omega)
      have HR : Hid (idxP p 0 xs = -1) := by
        have h1 := HJ.out
        rw [hd.out, idxP] at h1
        exact h1
      clear hd hp
      go_wp2
      go_ret
      exact ⟨ret_i HR.out.symm, Y⟩
set_option maxRecDepth 100000 in
theorem has_ints (g : Nat) (lb : Array Value) (p : Int → Bool) (eg : ∀ args w, (callFunc g args).run Try.prog w = .ok (.enter g args) w) (A : Option Addr) (c : Nat) (xs : List Int) (w : World) (hA : RdI w A xs) (lx : xs.length ≤ maxLen) (hp : BoolOf g lb (Value.int .i64) p xs w) :
    Calls Try.prog 103 #[.slice A xs.length c, .func (.func g) #[] lb] w fun e w' => e = .returned (.bool (xs.any p)) ∧ Ext w w' := by
  have H := Lib.hid (idxP_any p 0 xs)
  go_enter Try.func103, Try.ntmps103
  go_wp2_with (fail)
  refine (idx_ints g lb p eg A c xs _ hA lx hp).mono ?_
  rintro e w' ⟨rfl, x'⟩
  clear hp
  go_wp2
  go_ret
  exact ⟨ret_b H.out, x'⟩
theorem below_any (n : Int) (w : World) : Calls Try.prog 104 #[.int .i64 n] w fun e w' => e = .returned (.bool (decide (n < 0))) ∧ Ext w w' := by
  go_enter Try.func104, Try.ntmps104
  go_wp2
  go_ret
  exact ⟨rfl, Ext.rf _⟩
theorem below_enters : ∀ args w, (callFunc 104 args).run Try.prog w = .ok (.enter 104 args) w := enters_of Try.func104 (by kernel_rfl) rfl
theorem neg_ints (A : Option Addr) (c : Nat) (xs : List Int) (w : World) (hA : RdI w A xs) (lx : xs.length ≤ maxLen) :
    Calls Try.prog 103 #[.slice A xs.length c, .func (.func 104) #[] #[]] w fun e w' => e = .returned (.bool (xs.any fun n => decide (n < 0))) ∧ Ext w w' :=
  has_ints _ #[] (fun n => decide (n < 0)) below_enters A c xs w hA lx fun W x _ _ => below_any x W
end Go.Proofs.Ytleckhbmciiooaa
