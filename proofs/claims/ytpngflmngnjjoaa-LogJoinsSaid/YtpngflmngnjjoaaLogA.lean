/-
  slices.Compare, log.Ahead and the document's Ahead: what they answer.
-/
import Derived.Test.YtpngflmngnjjoaaK
namespace Go.Proofs.Ytpngflmngnjjoaa
open Go.RowKit

def cmpI (x y : Int) : Int := if x < y then -1 else if y < x then 1 else 0
def cmpL : List Int → List Int → Int
  | [], [] => 0
  | [], _ :: _ => -1
  | _ :: _, [] => 1
  | x :: xs, y :: ys => if cmpI x y = 0 then cmpL xs ys else cmpI x y
theorem cmpI_lt {x y : Int} (h : x < y) : cmpI x y = -1 := by simp [cmpI, h]
theorem cmpI_gt {x y : Int} (h : y < x) : cmpI x y = 1 := by simp [cmpI, h]; omega
theorem cmpI_eq (x : Int) : cmpI x x = 0 := by simp [cmpI]

theorem isNaN_any (x : Int) (w : World) : Calls Try.prog 24 #[.int .i64 x] w fun e w' => e = .returned (.bool false) ∧ w = w' := by
  go_enter Try.func24, Try.ntmps24
  go_wp2
  go_ret
  exact ⟨rfl, rfl⟩

theorem compare_any (x y : Int) (w : World) : Calls Try.prog 20 #[.int .i64 x, .int .i64 y] w fun e w' => e = .returned (.int .i64 (cmpI x y)) ∧ w = w' := by
  rcases Int.lt_trichotomy x y with h | rfl | h
  all_goals
    go_enter Try.func20, Try.ntmps20
    go_wp2_with (go_at_call 24; refine (isNaN_any _ _).mono ?_; rintro e w' ⟨rfl, rfl⟩)
    go_ret
  · exact ⟨ret_i (cmpI_lt h).symm, rfl⟩
  · exact ⟨ret_i (cmpI_eq _).symm, rfl⟩
  · exact ⟨ret_i (cmpI_gt h).symm, rfl⟩

theorem slCompare (A B : Option Addr) (c d : Nat) (xs ys : List Int) (w : World) (hx : RdI w A xs) (hy : RdI w B ys) (lx : xs.length ≤ maxLen) (ly : ys.length ≤ maxLen) :
    Calls Try.prog 15 #[.slice A xs.length c, .slice B ys.length d] w fun e w' => e = .returned (.int .i64 (cmpL xs ys)) ∧ w = w' := by
  unfold maxLen at lx ly
  go_enter Try.func15, Try.ntmps15
  go_wp2_with fail
  go_loop [11] (fun i => ∃ k : Nat, k ≤ xs.length ∧ k ≤ ys.length ∧ i = .int .i64 k ∧ Hid (cmpL xs ys = cmpL (xs.drop k) (ys.drop k))) (fun i => xs.length - (intOf i).toNat)
  case atStart => exact ⟨0, by omega, by omega, rfl, by exact rfl⟩
  case round =>
    obtain ⟨k, hk1, hk2, rfl, hH⟩ := hrel
    by_cases h1 : k < xs.length
    · obtain ⟨b, off, x, rfl, _, hc1, _, hd1⟩ := hx.at h1
      by_cases h2 : k < ys.length
      · obtain ⟨b', off', y, rfl, _, hc2, _, hd2⟩ := hy.at h2
        go_wp2_with (go_at_call 20; refine (compare_any _ _ _).mono ?_; rintro e w' ⟨rfl, rfl⟩)
        · go_ret
          have hne : cmpI x y ≠ 0 := by have h : (cmpI x y != 0) = true := by assumption
                                        simpa using h
          exact ⟨ret_i (by rw [hH.out, hd1.out, hd2.out, cmpL, if_neg hne]), rfl⟩
        · have he : cmpI x y = 0 := by have h : (cmpI x y != 0) = false := by assumption
                                       simpa using h
          go_round
          case rel => exact ⟨k + 1, by omega, by omega, by go_num, by rw [hH.out, hd1.out, hd2.out, cmpL, if_pos he]; exact rfl⟩
          case measure => simp [intOf]; omega
      · have hd2 := drop_nil (xs := ys) (k := k) (by omega)
        go_wp2
        go_ret
        exact ⟨ret_i (by rw [hH.out, hd1.out, hd2.out, cmpL]), rfl⟩
    · have hd1 := drop_nil (xs := xs) (k := k) (by omega)
      by_cases h2 : xs.length < ys.length
      · obtain ⟨y, _, hy'⟩ := drop_cons (xs := ys) (k := k) (by omega)
        go_wp2
        go_ret
        exact ⟨ret_i (by rw [hH.out, hd1.out, hy'.out, cmpL]), rfl⟩
      · have hy' := drop_nil (xs := ys) (k := k) (by omega)
        go_wp2
        go_ret
        exact ⟨ret_i (by rw [hH.out, hd1.out, hy'.out, cmpL]), rfl⟩

theorem logAhead0 (A B : Option Addr) (c d : Nat) (xs ys : List Int) (w : World) (hx : RdI w A xs) (hy : RdI w B ys) (lx : xs.length ≤ maxLen) (ly : ys.length ≤ maxLen) :
    Calls Try.prog 16 #[.slice A xs.length c, .slice B ys.length d] w fun e w' => e = .returned (.bool (decide (cmpL xs ys < 0))) ∧ w = w' := by
  go_enter Try.func16, Try.ntmps16
  go_wp2_with (go_at_call 15; refine (slCompare _ _ _ _ _ _ _ hx hy lx ly).mono ?_; rintro e w' ⟨rfl, rfl⟩)
  go_ret
  exact ⟨rfl, rfl⟩

def ahd : List Int → List Int → Bool
  | [], [] => false
  | [], _ :: _ => true
  | _ :: _, [] => false
  | x :: xs, y :: ys => if x = y then ahd xs ys else decide (x < y)
theorem cmpL_ahd : ∀ (xs ys : List Int), decide (cmpL xs ys < 0) = ahd xs ys
  | [], [] => rfl
  | [], _ :: _ => rfl
  | _ :: _, [] => rfl
  | x :: xs, y :: ys => by
    have ih := cmpL_ahd xs ys
    rcases Int.lt_trichotomy x y with h | rfl | h
    · have : x ≠ y := by omega
      simp [cmpL, ahd, cmpI_lt h, this, h]
    · simp [cmpL, ahd, cmpI_eq, ih]
    · have h1 : x ≠ y := by omega
      have h2 : ¬ x < y := by omega
      simp [cmpL, ahd, cmpI_gt h, h1, h2]
/-- log.Ahead -/
theorem logAhead (A B : Option Addr) (c d : Nat) (xs ys : List Int) (w : World) (hx : RdI w A xs) (hy : RdI w B ys) (lx : xs.length ≤ maxLen) (ly : ys.length ≤ maxLen) :
    Calls Try.prog 16 #[.slice A xs.length c, .slice B ys.length d] w fun e w' => e = .returned (.bool (ahd xs ys)) ∧ w = w' := by
  rw [← cmpL_ahd]
  exact logAhead0 A B c d xs ys w hx hy lx ly
/-- the document's Ahead -/
theorem refAhead (A B : Option Addr) (c d : Nat) (xs ys : List Int) (w : World) (hx : RdI w A xs) (hy : RdI w B ys) (lx : xs.length ≤ maxLen) (ly : ys.length ≤ maxLen) :
    Calls Try.prog 17 #[.slice A xs.length c, .slice B ys.length d] w fun e w' => e = .returned (.bool (ahd xs ys)) ∧ Ext w w' := by
  unfold maxLen at lx ly
  go_enter Try.func17, Try.ntmps17
  go_wp2_with fail
  go_loopw [5] (fun i wr => ∃ k : Nat, k ≤ xs.length ∧ k ≤ ys.length ∧ i = .int .i64 k ∧ Hid (ahd xs ys = ahd (xs.drop k) (ys.drop k)) ∧ Ext w wr) (fun i _ => xs.length - (intOf i).toNat)
  case atStart => exact ⟨0, by omega, by omega, rfl, by exact rfl, Ext.rf _⟩
  case round =>
    obtain ⟨k, hk1, hk2, rfl, hH, he⟩ := hrel
    have hx' := hx.ext he
    have hy' := hy.ext he
    by_cases h1 : k < xs.length
    · obtain ⟨b, off, x, rfl, _, hc1, _, hd1⟩ := hx'.at h1
      by_cases h2 : k < ys.length
      · obtain ⟨b', off', y, rfl, _, hc2, _, hd2⟩ := hy'.at h2
        by_cases h3 : x = y
        · subst h3
          go_wp2_with (go_quiet (fail))
          go_roundw
          case rel => exact ⟨k + 1, by omega, by omega, by go_num, by rw [hH.out, hd1.out, hd2.out, ahd, if_pos rfl]; exact rfl, he.drewN _⟩
          case measure => simp [intOf]; omega
        · have h3' : (x != y) = true := by simpa using h3
          go_wp2_with (go_quiet (fail))
          go_ret
          exact ⟨ret_b (by rw [hH.out, hd1.out, hd2.out, ahd, if_neg h3]), (he.drewN _).drewN _⟩
      · have hd2 := drop_nil (xs := ys) (k := k) (by omega)
        have h4 : ¬ xs.length < ys.length := by omega
        go_wp2
        go_ret
        exact ⟨ret_b (by rw [hH.out, hd1.out, hd2.out, ahd]), he⟩
    · have hd1 := drop_nil (xs := xs) (k := k) (by omega)
      by_cases h2 : xs.length < ys.length
      · obtain ⟨y, _, hy'⟩ := drop_cons (xs := ys) (k := k) (by omega)
        go_wp2
        go_ret
        exact ⟨ret_b (by rw [hH.out, hd1.out, hy'.out, ahd]), he⟩
      · have hy' := drop_nil (xs := ys) (k := k) (by omega)
        go_wp2
        go_ret
        exact ⟨ret_b (by rw [hH.out, hd1.out, hy'.out, ahd]), he⟩
theorem logs_any (w : World) : Calls Try.prog 6 #[] w fun e w' => e = .returned (.bool true) ∧ Ext w w' := by
  go_enter Try.func6, Try.ntmps6
  go_wp2_with fail
  refine (logAhead _ _ _ _ [1] [1, 0] _ (by exact .blk (.alloc (.new (by simp)) _) rfl) (by exact .blk (.new (by simp)) rfl) (by simp [maxLen]) (by simp [maxLen])).mono ?_
  rintro e w' ⟨rfl, rfl⟩
  have ha : ahd [1] [1, 0] = true := by decide
  simp only [ha]
  go_wp2_with fail
  refine (logAhead _ _ _ _ [2] [1, 5] _ (by exact .blk (.alloc (.new (by simp)) _) rfl) (by exact .blk (.new (by simp)) rfl) (by simp [maxLen]) (by simp [maxLen])).mono ?_
  rintro e w' ⟨rfl, rfl⟩
  have hb : ahd [2] [1, 5] = false := by decide
  simp only [hb]
  go_wp2
  go_ret
  exact ⟨rfl, by repeat (first | exact Ext.rf _ | apply Ext.alloc)⟩
end Go.Proofs.Ytpngflmngnjjoaa
