/-
  LogAheads: of all beginnings it is told which one stands ahead; of two that differ just one does. No condition.
-/
import Derived.Test.YthmjeajfchpdoaaLogA
namespace Go.Proofs.Ythmjeajfchpdoaa.logAheads
open Go.RowKit Go.ChangeShapes Go.WideShapes Go.ChangeAt

/-- the same numbers, as far as both go -/
def alike : List Int → List Int → Bool
  | x :: xs, y :: ys => (x == y) && alike xs ys
  | _, _ => true

theorem ahd_not_both : ∀ (xs ys : List Int), (ahd xs ys && ahd ys xs) = false
  | [], [] => rfl
  | [], _ :: _ => rfl
  | _ :: _, [] => rfl
  | x :: xs, y :: ys => by
    have ih := ahd_not_both xs ys
    rcases Int.lt_trichotomy x y with h | rfl | h
    · have : y ≠ x := by omega
      have h3 : ¬ y < x := by omega
      simp [ahd, this, h3]
    · simpa [ahd] using ih
    · have h1 : x ≠ y := by omega
      have h2 : ¬ x < y := by omega
      simp [ahd, h1, h2]
theorem ahd_either : ∀ (xs ys : List Int), (ahd xs ys || ahd ys xs) = !(alike xs ys && (xs.length == ys.length))
  | [], [] => rfl
  | [], _ :: _ => by simp [ahd, alike]
  | _ :: _, [] => by simp [ahd, alike]
  | x :: xs, y :: ys => by
    have ih := ahd_either xs ys
    rcases Int.lt_trichotomy x y with h | rfl | h
    · have : x ≠ y := by omega
      simp [ahd, alike, this, h]
    · simpa [ahd, alike] using ih
    · have h1 : x ≠ y := by omega
      simp [ahd, alike, h1, h, (Ne.symm h1)]
theorem alike_snoc : ∀ (k : Nat) (xs ys : List Int) (x y : Int), xs[k]? = some x → ys[k]? = some y → alike (xs.take (k + 1)) (ys.take (k + 1)) = (alike (xs.take k) (ys.take k) && (x == y))
  | 0, x' :: xs, y' :: ys, x, y, hx, hy => by simp at hx hy; subst hx; subst hy; simp [alike]
  | k + 1, x' :: xs, y' :: ys, x, y, hx, hy => by
    have ih := alike_snoc k xs ys x y (by simpa using hx) (by simpa using hy)
    simp only [List.take_succ_cons, alike, ih, Bool.and_assoc]
  | _, [], _, _, _, hx, _ => by simp at hx
  | _, _ :: _, [], _, _, _, hy => by simp at hy
theorem alike_end : ∀ (k : Nat) (xs ys : List Int), (xs.length ≤ k ∨ ys.length ≤ k) → alike (xs.take k) (ys.take k) = alike xs ys
  | _, [], _, _ => by simp [alike]
  | _, _ :: _, [], _ => by simp [alike]
  | 0, _ :: _, _ :: _, h => by simp at h
  | k + 1, x :: xs, y :: ys, h => by
    simp only [List.take_succ_cons, alike]
    rw [alike_end k xs ys (by simpa using h)]

theorem walk (A B : Option Addr) (c d : Nat) (xs ys : List Int) (w : World) (hx : RdI w A xs) (hy : RdI w B ys) (lx : xs.length ≤ c) (ly : ys.length ≤ d) (lc : c ≤ maxLen) (ld : d ≤ maxLen) :
    Calls Try.prog 3 #[.slice A xs.length c, .slice B ys.length d] w fun e w' => e = .returned (.bool true) ∧ Ext w w' := by
  unfold maxLen at lc ld
  go_enter Try.func3, Try.ntmps3
  go_wp2_with fail
  go_region
  have e1 : (if (100 : Int) < ↑xs.length then 100 else ↑xs.length : Int).toNat = (xs.take 100).length := by simp only [List.length_take]; split <;> omega
  have e2 : (if (100 : Int) < ↑ys.length then 100 else ↑ys.length : Int).toNat = (ys.take 100).length := by simp only [List.length_take]; split <;> omega
  simp only [e1, e2]
  have hp := hx.take 100
  have hq := hy.take 100
  have lp : (xs.take 100).length ≤ 100 := List.length_take_le _ _
  have lq : (ys.take 100).length ≤ 100 := List.length_take_le _ _
  clear e1 e2
  generalize (if (100 : Int) < ↑xs.length then (100 : Int) else ↑xs.length) = m1
  generalize (if (100 : Int) < ↑ys.length then (100 : Int) else ↑ys.length) = m2
  generalize xs.take 100 = ps at *
  generalize ys.take 100 = qs at *
  go_wp2_with fail
  refine (logAhead A B c d ps qs _ (by exact hp) (by exact hq) (by unfold maxLen; omega) (by unfold maxLen; omega)).mono ?_
  rintro e w' ⟨rfl, rfl⟩
  go_wp2_with fail
  refine (logAhead B A d c qs ps _ (by exact hq) (by exact hp) (by unfold maxLen; omega) (by unfold maxLen; omega)).mono ?_
  rintro e w' ⟨rfl, rfl⟩
  go_wp2_with fail
  have hsm : ((ps.length : Int) == (qs.length : Int)) = (ps.length == qs.length) := by rw [Bool.eq_iff_iff]; simp; omega
  simp only [hsm]
  clear hsm
  generalize hsm : (ps.length == qs.length) = sm
  have hsm := Lib.hid hsm
  go_loopw [7, 8] (fun s i wr => ∃ k : Nat, k ≤ ps.length ∧ k ≤ qs.length ∧ i = .int .i64 k ∧ s = .bool (sm && alike (ps.take k) (qs.take k)) ∧ Ext w wr) (fun _ i _ => ps.length - (intOf i).toNat)
  case atStart => exact ⟨0, by omega, by omega, rfl, by simp [alike], (Ext.rf _).drew⟩
  case round =>
    obtain ⟨k, hk1, hk2, rfl, rfl, he⟩ := hrel
    have hx' := hp.ext he
    have hy' := hq.ext he
    by_cases h12 : k < ps.length ∧ k < qs.length
    · obtain ⟨h1, h2⟩ := h12
      obtain ⟨b, off, x, rfl, _, hc1, g1, hd1⟩ := hx'.at h1
      obtain ⟨b', off', y, rfl, _, hc2, g2, hd2⟩ := hy'.at h2
      have hs := Lib.hid (alike_snoc k ps qs x y g1.out g2.out)
      generalize ht : (sm && alike (ps.take k) (qs.take k)) = t
      have ht := Lib.hid ht
      cases t with
      | true =>
        go_wp2_with (go_quiet (fail))
        go_roundw
        case rel => exact ⟨k + 1, by omega, by omega, by go_num, by rw [hs.out, ← Bool.and_assoc, ht.out]; simp, by repeat (first | exact he | apply Ext.drewN)⟩
        case measure => simp [intOf]; omega
      | false =>
        go_wp2_with (go_quiet (fail))
        go_roundw
        case rel => exact ⟨k + 1, by omega, by omega, by go_num, by rw [hs.out, ← Bool.and_assoc, ht.out]; simp, by repeat (first | exact he | apply Ext.drewN)⟩
        case measure => simp [intOf]; omega
    · have hal := alike_end k ps qs (by omega)
      rw [hal]
      have hn := ahd_not_both ps qs
      have ho := ahd_either ps qs
      rw [hsm.out] at ho
      generalize hs : (sm && alike ps qs) = s
      have hs' : s = !(ahd ps qs || ahd qs ps) := by rw [ho, ← hs, Bool.and_comm]; simp
      clear hal hx' hy' hsm ho hs
      have hr1 := fun W (h : Ext w W) => refAhead A B c d ps qs W (hp.ext h) (hq.ext h) (by unfold maxLen; omega) (by unfold maxLen; omega)
      have hr2 := fun W (h : Ext w W) => refAhead B A d c qs ps W (hq.ext h) (hp.ext h) (by unfold maxLen; omega) (by unfold maxLen; omega)
      generalize ahd ps qs = ab at *
      generalize ahd qs ps = ba at *
      have R1 := Lib.hid hr1
      have R2 := Lib.hid hr2
      clear hr1 hr2
      subst hs'
      have hn := Lib.hid hn
      by_cases h1 : k < ps.length
      · have h2 : ¬ k < qs.length := by omega
        cases ab <;> cases ba <;> first | (exact absurd hn.out (by decide)) | skip
        all_goals
          go_wp2_with fail
          refine (logs_any _).mono ?_
          rintro e w1 ⟨rfl, he1⟩
          go_wp2_with fail
          refine (R1.out _ (by exact he.tr he1)).mono ?_
          rintro e w2 ⟨rfl, he2⟩
          go_wp2_with fail
          refine (R2.out _ (by exact (he.tr he1).tr he2)).mono ?_
          rintro e w3 ⟨rfl, he3⟩
          go_wp2
          go_ret
          exact ⟨rfl, ((he.tr he1).tr he2).tr he3⟩
      · cases ab <;> cases ba <;> first | (exact absurd hn.out (by decide)) | skip
        all_goals
          go_wp2_with fail
          refine (logs_any _).mono ?_
          rintro e w1 ⟨rfl, he1⟩
          go_wp2_with fail
          refine (R1.out _ (by exact he.tr he1)).mono ?_
          rintro e w2 ⟨rfl, he2⟩
          go_wp2_with fail
          refine (R2.out _ (by exact (he.tr he1).tr he2)).mono ?_
          rintro e w3 ⟨rfl, he3⟩
          go_wp2
          go_ret
          exact ⟨rfl, ((he.tr he1).tr he2).tr he3⟩

set_option maxRecDepth 100000 in
theorem lifted (os : Os) (started : os.Started) (H : Type) (enc : TypeId × Value → H) :
    ReturnsInHanded {} Try.checked os 3 .any (Rows.logAheadsSpec.pre6 enc Try.prog Try.f3 Rows.logAheadsRow.domain false) (Rows.logAheadsSpec.post enc Try.prog Try.f3 false true false false) := by
  refine returnsInHanded_of_change (C := Try.checked) own started (by kernel_rfl) Try.func3
    (ChangeSpec.witness6 (enc := enc) (C := Try.checked) false ⟨#[], #[.slice none 0 0, .slice none 0 0], []⟩ 8 (by kernel_rfl) (by kernel_rfl) (by kernel_rfl) (by kernel_rfl)) ?_
  intro W base args ds gs before hval0 hW _ _
  have hval : ∀ (j : Nat) t v, Try.f3.params[j]? = some t → args[j]? = some v → Value.okWide Try.prog W .any base t v := hval0
  have hW' := hW
  obtain ⟨p, q, hA0, hV, rfl, hfz, hnd⟩ := hW
  have hA : DataW.TrodAll enc Try.prog W 0 (fun _ => true) true Try.f3.params.toList args.toList ds p := hA0
  rw [Try.params3] at hA hval
  obtain ⟨v0, vs0, d0, ds0, p0, q0, hargs, rfl, rfl, h0, r0⟩ := trodAll_cons hA
  obtain ⟨v1, vs1, d1, ds1, p1, q1, rfl, rfl, rfl, h1, r1⟩ := trodAll_cons r0
  obtain ⟨rfl, rfl, rfl⟩ := trodAll_nil r1
  obtain rfl : args = #[v0, v1] := by cases args; simp_all
  obtain ⟨rfl, rfl⟩ := trodVars_none hV
  obtain ⟨A, xs, c, rfl, hx, ix, lx, lc⟩ := open_RdI h0 (hval 0 _ v0 rfl rfl)
  obtain ⟨B, ys, d, rfl, hy, iy, ly, ld⟩ := open_RdI h1 (hval 1 _ v1 rfl rfl)
  refine (walk A B c d xs ys W hx hy lx ly lc ld).mono fun e W' ⟨he, hg⟩ => ?_
  subst he
  exact ⟨_, rfl, post_law hW' rfl rfl rfl rfl rfl (by intro t ht; rw [Try.params3] at ht; simp at ht; rcases ht with rfl | rfl <;> exact ⟨by kernel_rfl, of_decide_eq_true (by kernel_rfl)⟩) hg⟩

theorem proved : Rows.LogAheadsSaid :=
  OpenClaim.holds_of_wide 3 Try.f3 rfl rfl rfl rfl rfl rfl rfl ⟨rfl, rfl, rfl, rfl, rfl⟩ rfl rfl rfl rfl rfl (by kernel_rfl) Try.func3 (by kernel_rfl)
    (of_decide_eq_true (by kernel_rfl)) (by unfold Func.isWrapper; first | (rw [if_pos (by decide +kernel)]; kernel_rfl) | (rw [if_neg (by decide +kernel)]; exact ⟨rfl, rfl⟩))
    (fun os started H enc _ => lifted os started H enc)
end Go.Proofs.Ythmjeajfchpdoaa.logAheads
