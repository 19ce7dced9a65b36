/-
  TraceWrites: of all entries Write tells what the chapter does; entries come back from their text, as long as their numbers aren't too long.
-/
import Derived.Test.YtcpadkaljnnieaaDoorTraceWritesP4
import Derived.Test.YtcpadkaljnnieaaDoorRows
import Derived.Test.YtcpadkaljnnieaaDoorChecked
import Derived.Test.YtcpadkaljnnieaaDoorCards
import Derived.Test.YtcpadkaljnnieaaDoorTie
namespace Go.Proofs.YtcpadkaljnnieaaDoor.traceWrites
open Go.RowKit Go.ChangeShapes Go.WideShapes Go.ChangeAt Go.Deep

theorem readE_len : ∀ (l acc : List Ent) (n : Int), (readE acc n l).1.length ≤ acc.length + l.length
  | [], acc, n => by simp [readE]
  | e :: l, acc, n => by
    rw [readE]
    split
    · have h := readE_len l (acc ++ [e]) (n + 1)
      rw [List.length_append, List.length_singleton] at h
      rw [List.length_cons]
      omega
    · simp
set_option maxRecDepth 100000 in
set_option maxHeartbeats 4000000 in
theorem walk (A : Option Addr) (c : Nat) (xs : List Ent) (w : World) (hT : Ten w) (hx : RdE 6 REnt w A xs) (lx : xs.length ≤ c) (lc : c ≤ maxLen) :
    Calls Tryd.prog 3 #[.slice A xs.length c] w fun e w' => e = .returned (.bool true) ∧ Ext w w' := by
  obtain ⟨ps, hps⟩ : ∃ ps, ps = xs.take 200 := ⟨_, rfl⟩
  have lp : ps.length ≤ 200 := by rw [hps, List.length_take]; omega
  have ep : (if (200 : Int) < (xs.length : Int) then (200 : Int) else (xs.length : Int)) = (ps.length : Int) := by
    rw [hps, List.length_take]
    split <;> omega
  have ep2 : min (xs.length : Int) 200 = (ps.length : Int) := by rw [hps, List.length_take]; omega
  have lpx : ps.length ≤ xs.length := by rw [hps, List.length_take]; omega
  have RD := Lib.hid (show RdC w A (entsL ps) by rw [hps]; exact hx.ents 200)
  have IN : ∀ e ∈ ps, e.In := fun e he => hx.entsIn e (by rw [hps] at he; exact List.mem_of_mem_take he)
  have TR := Lib.hid (fun (W : World) (x : Ext w W) => traces_any W (hT.ext x))
  have TO := Lib.hid (fun (B : Option Addr) (d : Nat) (W : World) (h : RdV W 39 B (entsL ps)) => to_any B d ps W h (by omega))
  have TW := Lib.hid (fun (B : Option Addr) (d : Nat) (W : World) (x : Ext w W) (h : RdV W 50 B (entsL ps)) => twrite_any B d ps W h (by omega) IN (hT.ext x))
  have RW := Lib.hid (fun (B : Option Addr) (d : Nat) (W : World) (h : RdV W 39 B (entsL ps)) => rwrite33_any B d ps W h (by omega) IN)
  have rl := readE_len ps [] 1
  simp only [List.length_nil, Nat.zero_add] at rl
  have FR := Lib.hid (fun (B : Option Addr) (d : Nat) (W : World) (h : RdV W 50 B (entsL (readE [] 1 ps).1)) => from_any B d (readE [] 1 ps).1 W h (by omega))
  have SA := Lib.hid (fun (l : List Ent) (hl : l.length ≤ 1000) (B D : Option Addr) (c d : Nat) (W : World) (h1 : RdV W 39 B (entsL l)) (h2 : RdV W 39 D (entsL l)) => same_eq B D c d l W h1 h2 hl)
  have RE := Lib.hid (fun (hf : ∀ e ∈ ps, e.fine = true) (W : World) (x : Ext w W) => And.intro (tread_any ps W (by omega) IN hf (hT.ext x)) (rread33_any ps W (by omega) IN hf))
  have ROK := Lib.hid (fun h : (readE [] 1 ps).2.2 = 0 => (readE_ok ps [] 1 h).trans (List.nil_append ps))
  have WE : Hid ((writeE ps = ([], 8)) ∨ ((∀ e ∈ ps, e.fine = true) ∧ writeE ps = (linesE ps, 0))) := Lib.hid (by
    by_cases h : ∀ e ∈ ps, e.fine = true
    · exact .inr ⟨h, writeE_good (by omega) h⟩
    · left
      have ⟨e, he⟩ := Classical.not_forall.1 h
      have ⟨he1, he2⟩ := Classical.not_imp.1 he
      exact writeE_bad (by omega) he1 (by simpa using he2))
  obtain ⟨R, hR⟩ : ∃ R, readE [] 1 ps = R := ⟨_, rfl⟩
  rw [hR] at rl FR RE ROK
  clear hR
  obtain ⟨i0, hi, hz0, hz1, hz2⟩ := info_parts rent_info3
  replace hi := Lib.hid hi
  replace hz0 := Lib.hid hz0
  replace hz1 := Lib.hid hz1
  replace hz2 := Lib.hid hz2
  unfold maxLen at lc
  clear hx hT hps IN
  go_enter Tryd.func3, Tryd.ntmps3
  go_upto_region 2 with (at_builtin; refine wpl_fresh_v _ (e := 39) Tryd.underlying22 hi.out hz0.out hz1.out hz2.out (by simp [Value.cells]) (by omega) rfl _ _ rfl w.heap.size w.heap.size 0 #[] A ps.length c (entsL ps) rfl rfl (by (first | exact .new (by simp) | exact .drew (.new (by simp)) | exact .alloc (.new (by simp)) _ | exact .drew (.alloc (.new (by simp)) _) | exact .alloc (.alloc (.new (by simp)) _) _ | exact .drew (.alloc (.alloc (.new (by simp)) _) _) | (repeat (first | assumption | (refine Blk.new ?_; (focus (simp; done))) | apply Blk.drew | apply Blk.drewN | apply Blk.alloc)))) (Nat.le_refl _) rfl (RD.out.ext (by (repeat (first | assumption | exact Ext.rf _ | apply Ext.drew | apply Ext.drewN | apply Ext.alloc)))) (entsL_len ps) (entsL_cell1 ps) (by simp only [maxLen]; omega) (by omega) ?_; rintro A7 c7 w7 o7 x7)
  have X7 := Lib.hid (Ext.tr (a := w) (by (repeat (first | assumption | exact Ext.rf _ | apply Ext.drew | apply Ext.drewN | apply Ext.alloc))) x7)
  have R7 := Lib.hid o7.read
  clear o7 x7 RD hi hz0 hz1 hz2
  go_wp2_with (fail)
  refine (TO.out _ _ _ R7.out).mono ?_
  rintro r w8 ⟨B8, d8, rfl, o8, x8⟩
  have X8 := Lib.hid (X7.out.tr (Ext.tr (by (repeat (first | assumption | exact Ext.rf _ | apply Ext.drew | apply Ext.drewN | apply Ext.alloc))) x8))
  have R8 := Lib.hid (R7.out.ext (Ext.tr (by (repeat (first | assumption | exact Ext.rf _ | apply Ext.drew | apply Ext.drewN | apply Ext.alloc))) x8))
  have T8 := Lib.hid o8.read
  clear o8 x8 X7 R7
  go_wp2_with (fail)
  refine (TW.out _ _ _ (X8.out.tr (by (repeat (first | assumption | exact Ext.rf _ | apply Ext.drew | apply Ext.drewN | apply Ext.alloc)))) (T8.out.ext (by (repeat (first | assumption | exact Ext.rf _ | apply Ext.drew | apply Ext.drewN | apply Ext.alloc))))).mono ?_
  rintro r w9 ⟨rfl, x9⟩
  have X9 := Lib.hid (X8.out.tr (Ext.tr (by (repeat (first | assumption | exact Ext.rf _ | apply Ext.drew | apply Ext.drewN | apply Ext.alloc))) x9))
  have R9 := Lib.hid (R8.out.ext (Ext.tr (by (repeat (first | assumption | exact Ext.rf _ | apply Ext.drew | apply Ext.drewN | apply Ext.alloc))) x9))
  clear x9 X8 R8 T8
  go_wp2_with (fail)
  refine (RW.out _ _ _ (R9.out.ext (by (repeat (first | assumption | exact Ext.rf _ | apply Ext.drew | apply Ext.drewN | apply Ext.alloc))))).mono ?_
  rintro r w10 ⟨rfl, x10⟩
  have X10 := Lib.hid (X9.out.tr (Ext.tr (by (repeat (first | assumption | exact Ext.rf _ | apply Ext.drew | apply Ext.drewN | apply Ext.alloc))) x10))
  have R10 := Lib.hid (R9.out.ext (Ext.tr (by (repeat (first | assumption | exact Ext.rf _ | apply Ext.drew | apply Ext.drewN | apply Ext.alloc))) x10))
  clear x10 X9 R9
  rcases WE.out with hw | ⟨hf, hw⟩
  · rw [hw]
    clear hw WE RE ROK FR SA TW RW TO rl
    unfold txS
    go_wp2_with (go_at_call 8; refine (TR.out _ (X10.out.tr (by (repeat (first | assumption | exact Ext.rf _ | apply Ext.drew | apply Ext.drewN | apply Ext.alloc))))).mono ?_; rintro r w11 ⟨rfl, x11⟩)
    go_ret
    exact ⟨rfl, X10.out.tr (Ext.tr (by (repeat (first | assumption | exact Ext.rf _ | apply Ext.drew | apply Ext.drewN | apply Ext.alloc))) (by (repeat (first | assumption | exact Ext.rf _ | apply Ext.drew | apply Ext.drewN | apply Ext.alloc))))⟩
  · rw [hw]
    have RE1 := Lib.hid (fun (W : World) (x : Ext w W) => (RE.out hf W x).1)
    have RE2 := Lib.hid (fun (W : World) (x : Ext w W) => (RE.out hf W x).2)
    unfold ReadTo at RE1
    unfold RReadTo at RE2
    clear hw hf WE TW RW TO RE
    unfold txS
    generalize linesE ps = S at *
    go_wp2_with (go_at_call 8; refine (TR.out _ (X10.out.tr (by (repeat (first | assumption | exact Ext.rf _ | apply Ext.drew | apply Ext.drewN | apply Ext.alloc))))).mono ?_; rintro r w11 ⟨rfl, x11⟩; have y11 := Lib.hid (X10.out.tr (Ext.tr (by (repeat (first | assumption | exact Ext.rf _ | apply Ext.drew | apply Ext.drewN | apply Ext.alloc))) x11)); have r11 := Lib.hid (R10.out.ext (Ext.tr (by (repeat (first | assumption | exact Ext.rf _ | apply Ext.drew | apply Ext.drewN | apply Ext.alloc))) x11)))
    refine (RE1.out _ (y11.out.tr (by (repeat (first | assumption | exact Ext.rf _ | apply Ext.drew | apply Ext.drewN | apply Ext.alloc))))).mono ?_
    rintro r w12 ⟨B12, d12, rfl, o12, x12⟩
    have y12 := Lib.hid (y11.out.tr (Ext.tr (by (repeat (first | assumption | exact Ext.rf _ | apply Ext.drew | apply Ext.drewN | apply Ext.alloc))) x12))
    have r12 := Lib.hid (r11.out.ext (Ext.tr (by (repeat (first | assumption | exact Ext.rf _ | apply Ext.drew | apply Ext.drewN | apply Ext.alloc))) x12))
    have t12 := Lib.hid o12.read
    clear o12 x12 x11 y11 r11 X10 R10
    go_wp2_with (fail)
    refine (RE2.out _ (y12.out.tr (by (repeat (first | assumption | exact Ext.rf _ | apply Ext.drew | apply Ext.drewN | apply Ext.alloc))))).mono ?_
    rintro r w13 ⟨B13, d13, rfl, o13, x13⟩
    have y13 := Lib.hid (y12.out.tr (Ext.tr (by (repeat (first | assumption | exact Ext.rf _ | apply Ext.drew | apply Ext.drewN | apply Ext.alloc))) x13))
    have r13 := Lib.hid (r12.out.ext (Ext.tr (by (repeat (first | assumption | exact Ext.rf _ | apply Ext.drew | apply Ext.drewN | apply Ext.alloc))) x13))
    have t13 := Lib.hid (t12.out.ext (Ext.tr (by (repeat (first | assumption | exact Ext.rf _ | apply Ext.drew | apply Ext.drewN | apply Ext.alloc))) x13))
    have u13 := Lib.hid o13.read
    clear o13 x13 y12 r12 t12
    obtain ⟨RL, Rn, Re⟩ := R
    simp only at rl FR ROK t13 u13 ⊢
    unfold FromPost at FR
    have SX := Lib.hid (SA.out RL (by omega))
    by_cases hz : Re = 0
    · have hRL : RL = ps := ROK.out hz
      subst hRL
      subst hz
      clear ROK SA
      go_wp2_with (fail)
      refine (FR.out _ _ _ (t13.out.ext (by (repeat (first | assumption | exact Ext.rf _ | apply Ext.drew | apply Ext.drewN | apply Ext.alloc))))).mono ?_
      rintro r w14 ⟨B14, d14, rfl, o14, x14⟩
      have y14 := Lib.hid (y13.out.tr (Ext.tr (by (repeat (first | assumption | exact Ext.rf _ | apply Ext.drew | apply Ext.drewN | apply Ext.alloc))) x14))
      have r14 := Lib.hid (r13.out.ext (Ext.tr (by (repeat (first | assumption | exact Ext.rf _ | apply Ext.drew | apply Ext.drewN | apply Ext.alloc))) x14))
      have u14 := Lib.hid (u13.out.ext (Ext.tr (by (repeat (first | assumption | exact Ext.rf _ | apply Ext.drew | apply Ext.drewN | apply Ext.alloc))) x14))
      have v14 := Lib.hid o14.read
      clear o14 x14 y13 r13 u13 t13
      go_wp2_with (fail)
      refine (SX.out _ _ _ _ _ (v14.out.ext (by (repeat (first | assumption | exact Ext.rf _ | apply Ext.drew | apply Ext.drewN | apply Ext.alloc)))) (u14.out.ext (by (repeat (first | assumption | exact Ext.rf _ | apply Ext.drew | apply Ext.drewN | apply Ext.alloc))))).mono ?_
      rintro r w15 ⟨rfl, x15⟩
      have y15 := Lib.hid (y14.out.tr (Ext.tr (by (repeat (first | assumption | exact Ext.rf _ | apply Ext.drew | apply Ext.drewN | apply Ext.alloc))) x15))
      have r15 := Lib.hid (r14.out.ext (Ext.tr (by (repeat (first | assumption | exact Ext.rf _ | apply Ext.drew | apply Ext.drewN | apply Ext.alloc))) x15))
      have u15 := Lib.hid (u14.out.ext (Ext.tr (by (repeat (first | assumption | exact Ext.rf _ | apply Ext.drew | apply Ext.drewN | apply Ext.alloc))) x15))
      clear x15 y14 r14 u14 v14
      go_wp2_with (fail)
      refine (SX.out _ _ _ _ _ (u15.out.ext (by (repeat (first | assumption | exact Ext.rf _ | apply Ext.drew | apply Ext.drewN | apply Ext.alloc)))) (r15.out.ext (by (repeat (first | assumption | exact Ext.rf _ | apply Ext.drew | apply Ext.drewN | apply Ext.alloc))))).mono ?_
      rintro r w16 ⟨rfl, x16⟩
      have y16 := Lib.hid (y15.out.tr (Ext.tr (by (repeat (first | assumption | exact Ext.rf _ | apply Ext.drew | apply Ext.drewN | apply Ext.alloc))) x16))
      clear x16 y15 r15 u15
      go_wp2_with (fail)
      go_ret
      exact ⟨rfl, y16.out.tr (by (repeat (first | assumption | exact Ext.rf _ | apply Ext.drew | apply Ext.drewN | apply Ext.alloc)))⟩
    · have hzb : (Re == 0) = false := beq_eq_false_iff_ne.2 hz
      have hzn : (Re != 0) = true := by simpa using hz
      clear ROK SA hz
      go_wp2_with (fail)
      refine (FR.out _ _ _ (t13.out.ext (by (repeat (first | assumption | exact Ext.rf _ | apply Ext.drew | apply Ext.drewN | apply Ext.alloc))))).mono ?_
      rintro r w14 ⟨B14, d14, rfl, o14, x14⟩
      have y14 := Lib.hid (y13.out.tr (Ext.tr (by (repeat (first | assumption | exact Ext.rf _ | apply Ext.drew | apply Ext.drewN | apply Ext.alloc))) x14))
      have u14 := Lib.hid (u13.out.ext (Ext.tr (by (repeat (first | assumption | exact Ext.rf _ | apply Ext.drew | apply Ext.drewN | apply Ext.alloc))) x14))
      have v14 := Lib.hid o14.read
      clear o14 x14 y13 r13 u13 t13
      go_wp2_with (fail)
      refine (SX.out _ _ _ _ _ (v14.out.ext (by (repeat (first | assumption | exact Ext.rf _ | apply Ext.drew | apply Ext.drewN | apply Ext.alloc)))) (u14.out.ext (by (repeat (first | assumption | exact Ext.rf _ | apply Ext.drew | apply Ext.drewN | apply Ext.alloc))))).mono ?_
      rintro r w15 ⟨rfl, x15⟩
      have y15 := Lib.hid (y14.out.tr (Ext.tr (by (repeat (first | assumption | exact Ext.rf _ | apply Ext.drew | apply Ext.drewN | apply Ext.alloc))) x15))
      clear x15 y14 u14 v14
      go_wp2_with (fail)
      go_ret
      exact ⟨rfl, y15.out.tr (by (repeat (first | assumption | exact Ext.rf _ | apply Ext.drew | apply Ext.drewN | apply Ext.alloc)))⟩
set_option maxRecDepth 100000 in
theorem lifted (os : Os) (started : os.Started) (H : Type) (enc : TypeId × Value → H) :
    ReturnsInHanded {} Tryd.checked os 3 .any (fun w args => (Rows.traceWritesSpec.pre enc Tryd.prog Tryd.f3 Rows.traceWritesRow.domain false w args ∧ laidMetH Tryd.prog tabN w) ∧ sizedMet enc Tryd.prog Tryd.f3 (OpenSpec.ofChange Rows.traceWritesSpec) false w args) (Rows.traceWritesSpec.post enc Tryd.prog Tryd.f3 false true false false) := by
  refine returnsInHanded_of_change_and (C := Tryd.checked) (X := fun w _ => laidMetH Tryd.prog tabN w) (fun _ _ _ hh h => h.of_heap hh) own started (by kernel_rfl) Tryd.func3
    (ChangeSpec.witness_shaped (enc := enc) (C := Tryd.checked) (os := os) (X := fun w _ => laidMetH Tryd.prog tabN w) false (World.laidAll Tryd.prog os tabN) #[.slice none 0 0] 8 (World.laidAll_os _ _ _)
      (World.shaped_of_ZipB (by kernel_rfl) (by kernel_rfl)) (by kernel_rfl) (by kernel_rfl) (by kernel_rfl)
      (by rw [MakeChecks.laidMetH_plain _ _ _ (by kernel_rfl)]; exact laidMet_laidAll _ (by kernel_rfl) (by kernel_rfl))) ?_
  intro W base args ds gs before hval0 hW _ _ hL _
  have hval : ∀ (j : Nat) t v, Tryd.f3.params[j]? = some t → args[j]? = some v → Value.okWide Tryd.prog W .any base t v := hval0
  have hW' := hW
  obtain ⟨p, q, hA0, hV, rfl, hfz, hnd⟩ := hW
  have hA : DataW.TrodAll enc Tryd.prog W 0 (fun _ => true) true Tryd.f3.params.toList args.toList ds p := hA0
  rw [Tryd.params3] at hA hval
  obtain ⟨v0, vs0, d0, ds0, p0, q0, hargs, rfl, rfl, h0, r0⟩ := trodAll_cons hA
  obtain ⟨rfl, rfl, rfl⟩ := trodAll_nil r0
  obtain rfl : args = #[v0] := by cases args; simp_all
  obtain ⟨rfl, rfl⟩ := trodVars_none hV
  obtain ⟨A0, x0, c0, rfl, hx0, lx0, lc0⟩ := open_RdEnt h0 (hval 0 _ v0 rfl rfl)
  refine (walk A0 c0 x0 W (ten_of_laid hL) hx0 lx0 lc0).mono fun e W' ⟨he, hg⟩ => ?_
  subst he
  exact ⟨_, rfl, post_law hW' rfl rfl rfl rfl rfl (readable_of (by kernel_rfl)) hg⟩
theorem row : Rows.TraceWritesSaid :=
  OpenClaim.holds_of_wide 3 Tryd.f3 rfl rfl rfl rfl rfl rfl rfl ⟨rfl, rfl, rfl, rfl, rfl⟩ rfl rfl rfl rfl rfl (by kernel_rfl) Tryd.func3 (by kernel_rfl)
    (of_decide_eq_true (by kernel_rfl)) (by unfold Func.isWrapper; first | (rw [if_pos (by decide +kernel)]; kernel_rfl) | (rw [if_neg (by decide +kernel)]; exact ⟨rfl, rfl⟩))
    (fun os started H enc _ => lifted os started H enc)
theorem proved : Rows.TraceWritesCardSaid :=
  Claim7.holds_tied_plain_at .later [] [.data, .data, .data, .data, .pinned] true Rows.traceWritesCard.stood.harness false row (fun _ h => by cases h) (by kernel_rfl) (fun _ h => by cases h) traceWrites_row_tie rfl ⟨rfl, rfl⟩ (by kernel_rfl) rfl
    (fun f fn hf hfn => by
      obtain rfl : f = 3 := Option.some.inj ((show Tryd.prog.funcNamed "kurgan/kurganlaw33.TraceWrites" = some 3 by kernel_rfl).symm.trans hf) |>.symm
      obtain rfl : fn = Tryd.f3 := (Option.some.inj (Tryd.func3.symm.trans hfn)).symm
      exact ⟨by kernel_rfl, fun j t ht => by
        rw [Tryd.params3] at ht
        have hm : t ∈ [22] := by simpa using Array.mem_of_getElem? ht
        have hall : ([22].all fun u => !Tryd.prog.wantsStandIn u) = true := by kernel_rfl
        exact (show Tryd.prog.wantsStandIn t = false by simpa using List.all_eq_true.1 hall t hm)⟩)
    (by kernel_rfl)
end Go.Proofs.YtcpadkaljnnieaaDoor.traceWrites
