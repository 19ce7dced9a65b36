/-
  TapeFair: in turn each is picked as often as any other one, but for one; who is favored oftener than any other one. No condition.
-/
import Derived.Test.YthmjeajfchpdoaaTapeB
namespace Go.Proofs.Ythmjeajfchpdoaa.tapeFair
open Go.RowKit Go.ChangeShapes Go.WideShapes Go.ChangeAt

def InvA (N k i a : Int) : Prop := N * a + k < i + N ∧ i ≤ N * a + k ∧ 0 ≤ a ∧ a ≤ i
def InvB (W k i b : Int) : Prop := 0 ≤ b ∧ b ≤ i ∧ (k ≠ W → b ≤ i / 4)
def InvC (i c : Int) : Prop := 0 ≤ c ∧ c ≤ i ∧ i - i / 4 ≤ c
theorem favAt_round {N : Int} (i : Nat) : favAt N 0 1 i = (i : Int) % N := by simp [favAt]
theorem invA_yes {N k a x : Int} {i : Nat} (hN : 1 ≤ N) (hk : 0 ≤ k ∧ k < N) (hx : x = favAt N 0 1 i) (h : InvA N k i a) (he : (x == k) = true) : InvA N k ((i + 1 : Nat) : Int) (a + 1) := by
  rw [favAt_round] at hx
  have he : x = k := by simpa using he
  subst he
  obtain ⟨h1, h2, h3, h4⟩ := h
  have hd := Int.emod_add_mul_ediv (i : Int) N
  rw [← hx] at hd
  have e1 : (i : Int) / N = a := by
    have u1 : N * ((i : Int) / N) ≤ N * a := by omega
    have u2 : N * a < N * ((i : Int) / N + 1) := by rw [Int.mul_add]; omega
    have v1 := Int.le_of_mul_le_mul_left u1 (by omega)
    have v2 := Int.lt_of_mul_lt_mul_left u2 (by omega)
    omega
  rw [e1] at hd
  refine ⟨?_, ?_, by omega, by omega⟩
  · rw [Int.mul_add]; omega
  · rw [Int.mul_add]; omega
theorem invA_no {N k a x : Int} {i : Nat} (hN : 1 ≤ N) (hk : 0 ≤ k ∧ k < N) (hx : x = favAt N 0 1 i) (h : InvA N k i a) (he : (x == k) = false) : InvA N k ((i + 1 : Nat) : Int) a := by
  rw [favAt_round] at hx
  have he : x ≠ k := by simpa using he
  obtain ⟨h1, h2, h3, h4⟩ := h
  have hne : (i : Int) ≠ N * a + k := by
    intro e
    apply he
    rw [hx, e, Int.add_comm, Int.add_mul_emod_self_left, Int.emod_eq_of_lt hk.1 hk.2]
  exact ⟨by omega, by omega, by omega, by omega⟩
theorem invA_end {N k a C : Int} (hN : 1 ≤ N) (hk : 0 ≤ k ∧ k < N) (h : InvA N k C a) : C / N ≤ a ∧ a ≤ C / N + 1 := by
  obtain ⟨h1, h2, h3, h4⟩ := h
  have hd := Int.emod_add_mul_ediv C N
  have a1 := Int.emod_nonneg C (show N ≠ 0 by omega)
  have a2 := Int.emod_lt_of_pos C (show 0 < N by omega)
  generalize C / N = q at *
  constructor
  · have u : N * q < N * (a + 1) := by rw [Int.mul_add]; omega
    have := Int.lt_of_mul_lt_mul_left u (by omega)
    omega
  · have u : N * a < N * (q + 2) := by rw [Int.mul_add]; omega
    have := Int.lt_of_mul_lt_mul_left u (by omega)
    omega
theorem favAt_four {N W : Int} (i : Nat) : favAt N W 4 i = W ∨ ((i : Int) + 1) % 4 = 0 := by
  by_cases h : ((i : Int) + 1) % 4 = 0
  · exact .inr h
  · exact .inl (favAt_no h)
theorem invB_yes {N W k b x : Int} {i : Nat} (hx : x = favAt N W 4 i) (h : InvB W k i b) (he : (x == k) = true) : InvB W k ((i + 1 : Nat) : Int) (b + 1) := by
  have he : x = k := by simpa using he
  obtain ⟨h1, h2, h3⟩ := h
  refine ⟨by omega, by omega, fun hk => ?_⟩
  have := h3 hk
  rcases favAt_four (N := N) (W := W) i with hf | hf
  · exact absurd (he.symm.trans (hx.trans hf)) hk
  · omega
theorem invB_no {W k b : Int} {i : Nat} (h : InvB W k i b) : InvB W k ((i + 1 : Nat) : Int) b := by
  obtain ⟨h1, h2, h3⟩ := h
  exact ⟨by omega, by omega, fun hk => by have := h3 hk; omega⟩
theorem invC_yes {c : Int} {i : Nat} (h : InvC i c) : InvC ((i + 1 : Nat) : Int) (c + 1) := by
  obtain ⟨h1, h2, h3⟩ := h
  exact ⟨by omega, by omega, by omega⟩
theorem invC_no {N W c x : Int} {i : Nat} (hx : x = favAt N W 4 i) (h : InvC i c) (he : (x == W) = false) : InvC ((i + 1 : Nat) : Int) c := by
  have he : x ≠ W := by simpa using he
  obtain ⟨h1, h2, h3⟩ := h
  rcases favAt_four (N := N) (W := W) i with hf | hf
  · exact absurd (hx.trans hf) he
  · exact ⟨by omega, by omega, by omega⟩

set_option maxRecDepth 100000 in
set_option maxHeartbeats 1000000 in
theorem walk (n who count : Int) (w : World) (_hn : -9223372036854775808 ≤ n ∧ n ≤ 9223372036854775807) (_hw : -9223372036854775808 ≤ who ∧ who ≤ 9223372036854775807) (_hc : -9223372036854775808 ≤ count ∧ count ≤ 9223372036854775807) :
   
    Calls Try.prog 4 #[.int .i64 n, .int .i64 who, .int .i64 count] w fun e w' => e = .returned (.bool true) ∧ Ext w w' := by
  clear _hn _hw _hc
  have b1 := modu_bd (x := n) (n := 16) (by decide)
  have b2 := modu_bd (x := count) (n := 500) (by decide)
  have b3 := modu_bd (x := who) (n := 1 + modu n 16) (by omega)
  unfold modu at b1 b2 b3
  go_enter Try.func4, Try.ntmps4
  go_wp2_with fail
  generalize hN : 1 + (IntKind.u64.wrap n).tmod 16 = N at *
  generalize hC : (IntKind.u64.wrap count).tmod 500 = C at *
  generalize (IntKind.u64.wrap who).tmod N = W at *
  generalize hm : (IntKind.u64.wrap n).tmod 16 = M at *
  have n1 : 1 ≤ N ∧ N ≤ 16 := by omega
  clear hm hN b1 hC
  have g1 : favOk N 0 1 C = true := by rw [favOk_iff]; omega
  have g2 : favOk N W 4 C = true := by rw [favOk_iff]; omega
  obtain ⟨m, rfl⟩ := Int.eq_ofNat_of_zero_le b2.1
  refine (round_any N m _).mono ?_
  rw [if_pos g1, Int.toNat_natCast, favL_len]
  rintro e w1 ⟨A, c, rfl, h1, e1⟩
  go_wp2_with fail
  refine (favor_any N W 4 m _ (by decide)).mono ?_
  rw [if_pos g2, Int.toNat_natCast, favL_len]
  rintro e w2 ⟨B, d, rfl, h2, e2⟩
  clear g1 g2
  go_wp2_with fail
  refine (tapes_any _).mono ?_
  rintro e w3 ⟨rfl, e3⟩
  have h1 := (h1.ext e2).ext e3
  have h2 := h2.ext e3
  have E := (e1.tr e2).tr e3
  have r1 := h1.read
  have r2 := h2.read
  clear h1 h2 e1 e2 e3
  go_wp2_with fail
  go_loop [9] (fun k => ∃ K : Nat, (K : Int) ≤ N ∧ k = .int .i64 K) (fun k => N.toNat - (intOf k).toNat)
  case atStart => exact ⟨0, by omega, rfl⟩
  case round =>
    obtain ⟨K, hK, rfl⟩ := hrel
    by_cases hk : (K : Int) < N
    · go_wp2_with fail
      go_loop [10, 11, 12, 13] (fun a b c i => ∃ (a' b' c' : Int) (I : Nat), I ≤ m ∧ a = .int .i64 a' ∧ b = .int .i64 b' ∧ c = .int .i64 c' ∧ i = .int .i64 I ∧ InvA N K I a' ∧ InvB W K I b' ∧ InvC I c') (fun _ _ _ i => m - (intOf i).toNat)
      case atStart => exact ⟨0, 0, 0, 0, by omega, rfl, rfl, rfl, rfl, ⟨by omega, by omega, by omega, by omega⟩, ⟨by omega, by omega, by omega⟩, ⟨by omega, by omega, by omega⟩⟩
      case round =>
        obtain ⟨a, b, c', I, hI, rfl, rfl, rfl, rfl, hA, hB, hC⟩ := hrel
        have ba : 0 ≤ a ∧ a ≤ I := hA.2.2
        have bb : 0 ≤ b ∧ b ≤ I := ⟨hB.1, hB.2.1⟩
        have bc : 0 ≤ c' ∧ c' ≤ I := ⟨hC.1, hC.2.1⟩
        by_cases hi : I < m
        · obtain ⟨bA, oA, x, rfl, _, cA, gA, _⟩ := r1.at (k := I) (by rw [favL_len]; exact hi)
          obtain ⟨bB, oB, y, rfl, _, cB, gB, _⟩ := r2.at (k := I) (by rw [favL_len]; exact hi)
          have hx : x = favAt N 0 1 I := by have := gA.out; simp [favL, hi] at this; exact this.symm
          have hy : y = favAt N W 4 I := by have := gB.out; simp [favL, hi] at this; exact this.symm
          replace hx := Lib.hid hx
          replace hy := Lib.hid hy
          clear r1 r2
          cases t1 : (x == (K : Int)) <;> cases t2 : (y == (K : Int)) <;> cases t3 : (y == W)
          all_goals
            go_wp2_with fail
            go_round
            case rel => exact ⟨_, _, _, I + 1, by omega, rfl, rfl, rfl, by go_num, by first | exact invA_yes n1.1 ⟨by omega, hk⟩ hx.out hA t1 | exact invA_no n1.1 ⟨by omega, hk⟩ hx.out hA t1,
              by first | exact invB_yes hy.out hB t2 | exact invB_no hB, by first | exact invC_no hy.out hC t3 | exact invC_yes hC⟩
            case measure => simp [intOf]; omega
        · obtain rfl : I = m := by omega
          have hd := invA_end n1.1 ⟨by omega, hk⟩ hA
          have q0 : 0 ≤ (I : Int) / N := Int.ediv_nonneg (by omega) (by omega)
          have q1 : (I : Int) / N ≤ I := Int.ediv_le_self _ (by omega)
          have u1 : ¬ a < (I : Int) / N := by omega
          have u2 : ¬ (I : Int) / N + 1 < a := by omega
          by_cases hW : (K : Int) = W
          · have u3 : ((K : Int) != W) = false := by simpa using hW
            clear hW hA hB hC hd
            go_wp2_with fail
            go_round
            case rel => exact ⟨K + 1, by omega, by go_num⟩
            case measure => simp [intOf]; omega
          · have u3 : ((K : Int) != W) = true := by simpa using hW
            have u4 : ¬ c' < b := by have := hB.2.2 hW; have := hC.2.2; omega
            clear hW hA hB hC hd
            go_wp2_with fail
            go_round
            case rel => exact ⟨K + 1, by omega, by go_num⟩
            case measure => simp [intOf]; omega
    · obtain rfl : (K : Int) = N := by omega
      go_wp2_with fail
      go_ret
      exact ⟨rfl, E⟩

set_option maxRecDepth 100000 in
theorem lifted (os : Os) (started : os.Started) (H : Type) (enc : TypeId × Value → H) :
    ReturnsInHanded {} Try.checked os 4 .any (Rows.tapeFairSpec.pre6 enc Try.prog Try.f4 Rows.tapeFairRow.domain false) (Rows.tapeFairSpec.post enc Try.prog Try.f4 false true false false) := by
  refine returnsInHanded_of_change (C := Try.checked) own started (by kernel_rfl) Try.func4
    (ChangeSpec.witness6 (enc := enc) (C := Try.checked) false ⟨#[], #[.int .i64 0, .int .i64 0, .int .i64 0], []⟩ 8 (by kernel_rfl) (by kernel_rfl) (by kernel_rfl) (by kernel_rfl)) ?_
  intro W base args ds gs before hval0 hW _ _
  have hval : ∀ (j : Nat) t v, Try.f4.params[j]? = some t → args[j]? = some v → Value.okWide Try.prog W .any base t v := hval0
  have hW' := hW
  obtain ⟨p, q, hA0, hV, rfl, hfz, hnd⟩ := hW
  have hA : DataW.TrodAll enc Try.prog W 0 (fun _ => true) true Try.f4.params.toList args.toList ds p := hA0
  rw [Try.params4] at hA hval
  obtain ⟨v0, vs0, d0, ds0, p0, q0, hargs, rfl, rfl, h0, r0⟩ := trodAll_cons hA
  obtain ⟨v1, vs1, d1, ds1, p1, q1, rfl, rfl, rfl, h1, r1⟩ := trodAll_cons r0
  obtain ⟨v2, vs2, d2, ds2, p2, q2, rfl, rfl, rfl, h2, r2⟩ := trodAll_cons r1
  obtain ⟨rfl, rfl, rfl⟩ := trodAll_nil r2
  obtain rfl : args = #[v0, v1, v2] := by cases args; simp_all
  obtain ⟨rfl, rfl⟩ := trodVars_none hV
  obtain ⟨x0, rfl, rfl, rfl, w0⟩ := open_int Try.underlying3 (hval 0 _ v0 rfl rfl) h0
  obtain ⟨x1, rfl, rfl, rfl, w1⟩ := open_int Try.underlying3 (hval 1 _ v1 rfl rfl) h1
  obtain ⟨x2, rfl, rfl, rfl, w2⟩ := open_int Try.underlying3 (hval 2 _ v2 rfl rfl) h2
  refine (walk x0 x1 x2 W (int_bd w0) (int_bd w1) (int_bd w2)).mono fun e W' ⟨he, hg⟩ => ?_
  subst he
  exact ⟨_, rfl, post_law hW' rfl rfl rfl rfl rfl (readable_of (by kernel_rfl)) hg⟩

theorem proved : Rows.TapeFairSaid :=
  OpenClaim.holds_of_wide 4 Try.f4 rfl rfl rfl rfl rfl rfl rfl ⟨rfl, rfl, rfl, rfl, rfl⟩ rfl rfl rfl rfl rfl (by kernel_rfl) Try.func4 (by kernel_rfl)
    (of_decide_eq_true (by kernel_rfl)) (by unfold Func.isWrapper; first | (rw [if_pos (by decide +kernel)]; kernel_rfl) | (rw [if_neg (by decide +kernel)]; exact ⟨rfl, rfl⟩))
    (fun os started H enc _ => lifted os started H enc)
end Go.Proofs.Ythmjeajfchpdoaa.tapeFair
