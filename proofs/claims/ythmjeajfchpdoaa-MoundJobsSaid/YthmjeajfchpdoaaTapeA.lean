/-
  tape: fine, modulo, Favor, Round: what they answer.
-/
import Derived.Test.YthmjeajfchpdoaaTapePlain
namespace Go.Proofs.Ythmjeajfchpdoaa
open Go.RowKit

theorem modulo_any (x n : Int) (w : World) (hn : 1 ≤ n ∧ n ≤ 9223372036854775807) :
    Calls Try.prog 54 #[.int .i64 x, .int .i64 n] w fun e w' => e = .returned (.int .i64 (modu x n)) ∧ w = w' := by
  have hb := modu_bd (x := x) hn.1
  unfold modu
  unfold modu at hb
  go_enter Try.func54, Try.ntmps54
  go_wp2
  go_ret
  exact ⟨rfl, rfl⟩

theorem fine_any (n c : Int) (w : World)  :
    Calls Try.prog 53 #[.int .i64 n, .int .i64 c] w fun e w' => e = .returned (.bool (fineB n c)) ∧ w = w' := by
  go_enter Try.func53, Try.ntmps53
  go_wp2
  all_goals
    go_ret
    refine ⟨ret_b ?_, rfl⟩
    unfold fineB
    simp [*]
    try omega

theorem favor_no (n who every c : Int) (w : World) (h : favOk n who every c = false) :
    Calls Try.prog 17 #[.int .i64 n, .int .i64 who, .int .i64 every, .int .i64 c] w fun e w' => e = .returned (.slice none 0 0) ∧ w = w' := by
  cases hf : fineB n c with
  | false =>
    go_enter Try.func17, Try.ntmps17
    go_wp2_with (go_at_call 53; refine (fine_any _ _ _).mono ?_; rintro e w' ⟨rfl, rfl⟩)
    go_ret
    exact ⟨rfl, rfl⟩
  | true =>
    have hh : who < 0 ∨ n ≤ who ∨ every < 1 := by
      by_cases h1 : who < 0
      · exact .inl h1
      · by_cases h2 : n ≤ who
        · exact .inr (.inl h2)
        · refine .inr (.inr ?_)
          simp only [favOk, hf, Bool.true_and, Bool.and_eq_false_iff, decide_eq_false_iff_not] at h
          omega
    clear h
    by_cases h1 : who < 0
    · go_enter Try.func17, Try.ntmps17
      go_wp2_with (go_at_call 53; refine (fine_any _ _ _).mono ?_; rintro e w' ⟨rfl, rfl⟩)
      go_ret
      exact ⟨rfl, rfl⟩
    · by_cases h2 : n ≤ who
      · go_enter Try.func17, Try.ntmps17
        go_wp2_with (go_at_call 53; refine (fine_any _ _ _).mono ?_; rintro e w' ⟨rfl, rfl⟩)
        go_ret
        exact ⟨rfl, rfl⟩
      · have h3 : every < 1 := by omega
        go_enter Try.func17, Try.ntmps17
        go_wp2_with (go_at_call 53; refine (fine_any _ _ _).mono ?_; rintro e w' ⟨rfl, rfl⟩)
        go_ret
        exact ⟨rfl, rfl⟩

set_option maxRecDepth 100000 in
theorem favor_yes (n who every c : Int) (w : World) (h : favOk n who every c = true) (he : every ≤ 9223372036854775807) :
    Calls Try.prog 17 #[.int .i64 n, .int .i64 who, .int .i64 every, .int .i64 c] w fun e w' => ∃ A' c', e = .returned (.slice A' (favL n who every c.toNat).length c') ∧ OwI w' w.heap.size A' c' (favL n who every c.toNat) ∧ Ext w w' := by
  have hf : fineB n c = true := by simp only [favOk, Bool.and_eq_true] at h; exact h.1
  obtain ⟨⟨n1, n2, c1, c2⟩, w1, w2, e1⟩ := favOk_iff.1 h
  obtain ⟨m, rfl⟩ := Int.eq_ofNat_of_zero_le c1
  rw [Int.toNat_natCast]
  clear h
  go_enter Try.func17, Try.ntmps17
  go_wp2_with (first | (go_at_call 53; refine (fine_any _ _ _).mono ?_; rintro e w' ⟨rfl, rfl⟩) | (at_make; refine wpl_make_i _ rfl _ _ rfl w.heap.size _ _ m rfl rfl rfl rfl (by omega) (Nat.le_refl _) ?_; rintro w1 hown hg))
  have he1 : Ext w w1 := (Ext.rf w).grownNone hg
  clear hg
  go_loopw [10, 33] (fun t i wr => ∃ k : Nat, k ≤ m ∧ i = .int .i64 k ∧ t = .int .i64 ((k : Int) / every) ∧ OwI wr w.heap.size (some ⟨w.heap.size, 0, none⟩) m (favUp n who every m k) ∧ Ext w wr) (fun _ i _ => m - (intOf i).toNat)
  case atStart => exact ⟨0, by omega, rfl, by simp, by simpa [favUp, favL] using hown, he1⟩
  case round =>
    obtain ⟨k, hk, rfl, rfl, ho, hx⟩ := hrel
    have ho := Lib.hid ho
    by_cases hlt : k < m
    · have hl : (favUp n who every m k).length = m := favUp_len hk
      obtain ⟨x, hc, hfz, hb, hx', hs⟩ := ho.out.cell (k := k) (by omega)
      clear hl
      have hq : 0 ≤ (k : Int) / every := Int.ediv_nonneg (by omega) (by omega)
      have hq2 : (k : Int) / every ≤ k := Int.ediv_le_self _ (by omega)
      by_cases hm : ((k : Int) + 1) % every = 0
      · have hm := Lib.hid hm
        have hd := Lib.hid (div_step (k := (k : Int)) (e := every) (by omega) (by omega))
        have hset := Lib.hid (favUp_set n who every hlt _ (favAt_yes hm.out).symm)
        obtain ⟨_, _, _, _, _, hs2⟩ := (hs.out who).cell (k := k) (by simp [favUp_len hk]; omega)
        go_wp2
        go_roundw
        case rel => exact ⟨k + 1, by omega, by go_num, by rw [Int.natCast_add, Int.natCast_one, hd.out, if_pos hm.out], by rw [← hset.out, ← List.set_set]; exact hs2.out _, (hx.setNew hb _).setNew hb _⟩
        case measure => simp [intOf]; omega
      · have hm := Lib.hid hm
        have hd := Lib.hid (div_step (k := (k : Int)) (e := every) (by omega) (by omega))
        have hset := Lib.hid (favUp_set n who every hlt _ (favAt_no hm.out).symm)
        go_wp2
        go_roundw
        case rel => exact ⟨k + 1, by omega, by go_num, by rw [Int.natCast_add, Int.natCast_one, hd.out, if_neg hm.out], by rw [← hset.out]; exact hs.out _, hx.setNew hb _⟩
        case measure => simp [intOf]; omega
    · obtain rfl : k = m := by omega
      go_wp2
      go_ret
      exact ⟨_, _, by rw [favL_len]; rfl, by have := ho.out; rwa [favUp_full] at this, hx⟩
end Go.Proofs.Ythmjeajfchpdoaa
