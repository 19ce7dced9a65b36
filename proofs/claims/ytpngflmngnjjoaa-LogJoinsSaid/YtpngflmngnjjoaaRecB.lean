/-
  The library's stable sort of records: insertion.
-/
import Derived.Test.YtpngflmngnjjoaaRecA
namespace Go.Proofs.Ytpngflmngnjjoaa
open Go.RowKit Go.ChangeShapes Go.WideShapes Go.ChangeAt Go.Deep

/-- what is asked of a comparison: it only reads, whatever the sorted block holds -/
def CmpOk (base : RB) (f : Nat) (lb : Array Value) (cf : Nat → Nat → Int) (nn g : Nat) (w : World) : Prop :=
  ∀ (W : World) (x y : Nat), x < nn → y < nn → Mod (fun k => k = g) w W → Calls Try.prog f (#[base.v x, base.v y] ++ lb) W fun e W' => e = .returned (.int .i64 (cf x y)) ∧ Ext W W'
theorem CmpOk.mod {base : RB} {f : Nat} {lb : Array Value} {cf : Nat → Nat → Int} {nn g : Nat} {w w' : World} (h : CmpOk base f lb cf nn g w) (hm : Mod (fun k => k = g) w w') : CmpOk base f lb cf nn g w' := fun W x y hx hy hW => h W x y hx hy (hm.tr hW)
def ltC (cf : Nat → Nat → Int) (x y : Nat) : Bool := decide (cf x y < 0)
/-- sorted between what stands before and behind -/
def SortedPost (base : RB) (g c : Nat) (lt : Nat → Nat → Bool) (P S Q : List Nat) (w : World) (e : Ending) (w' : World) : Prop := ∃ M, Is lt S M ∧ e = .returned (.tuple #[]) ∧ OwN w' base g c (P ++ (M ++ Q)) ∧ Mod (fun k => k = g) w w'
/-- the outer loop: so many are sorted -/
def InsS (base : RB) (g c : Nat) (lt : Nat → Nat → Bool) (P S Q : List Nat) (k : Nat) (w w' : World) : Prop := ∃ M, Is lt (S.take k) M ∧ OwN w' base g c (P ++ (M ++ (S.drop k ++ Q))) ∧ Mod (fun k => k = g) w w'
/-- the inner loop: x has come down past B2 -/
def SinkS (base : RB) (g c : Nat) (lt : Nat → Nat → Bool) (P M : List Nat) (x : Nat) (T : List Nat) (p : Nat) (w w' : World) : Prop := ∃ B1 B2, M = B1 ++ B2 ∧ B1.length = p ∧ (∀ y ∈ B2, lt x y = true) ∧ OwN w' base g c (P ++ (B1 ++ (x :: (B2 ++ T)))) ∧ Mod (fun k => k = g) w w'
/-- the two that the inner loop looks at -/
theorem SinkS.two {base : RB} {g c : Nat} {lt : Nat → Nat → Bool} {P M : List Nat} {x : Nat} {T : List Nat} {p a : Nat} {w w' : World} (h : SinkS base g c lt P M x T (p + 1) w w') (ha : P.length = a) :
    ∃ y, y ∈ M ∧ CellR w' base g (a + p) y ∧ FrzR w' g (a + p) ∧ CellR w' base g (a + p + 1) x ∧ FrzR w' g (a + p + 1) ∧
      Hid (lt x y = true → ∀ w2, Ext w' w2 → SinkS base g c lt P M x T p w (setR (setR w2 base g (a + p + 1) y) base g (a + p) x)) ∧ Hid (Weak lt → lt x y = false → (∀ z ∈ M, z < x) → Srt lt M → ∀ w2, Ext w' w2 → ∃ M', M'.Perm (M ++ [x]) ∧ Srt lt M' ∧ OwN w2 base g c (P ++ (M' ++ T))) := by
  obtain ⟨B1, B2, rfl, hp, hB, hO, hM⟩ := h
  obtain ⟨B, B', rfl, hb⟩ := split_last B1 1 (by omega)
  obtain ⟨y, rfl⟩ : ∃ y, B' = [y] := by
    match B', hb with
    | [y], _ => exact ⟨y, rfl⟩
  have hBp : B.length = p := by simp only [List.length_append] at hp; simp at hp; exact hp
  have e : P ++ (B ++ [y] ++ (x :: (B2 ++ T))) = (P ++ B) ++ (y :: (x :: (B2 ++ T))) := by simp
  rw [e] at hO
  have hl : (P ++ B).length = a + p := by rw [List.length_append]; omega
  obtain ⟨g1, g2⟩ := at_pair (P ++ B) (B2 ++ T) y x
  obtain ⟨c1, f1, _⟩ := hO.cell g1
  obtain ⟨c2, f2, _⟩ := hO.cell g2
  have t : ∀ w2, Ext w' w2 → OwN (setR (setR w2 base g ((P ++ B).length + 1) y) base g ((P ++ B).length) x) base g c ((P ++ B) ++ (x :: (y :: (B2 ++ T)))) := fun w2 x2 => by
    have := ((((hO.ext x2).cell g2).2.2.out y).cell (k := (P ++ B).length) (n := y) (by rw [List.getElem?_set_ne (by omega)]; exact g1)).2.2.out x
    rwa [set_pair] at this
  rw [hl] at c1 f1 c2 f2 t
  refine ⟨y, by simp, c1, f1, c2, f2, fun hlt w2 x2 => ⟨B, y :: B2, by simp, hBp, ?_, by simpa using t w2 x2, ((hM.ext x2).setR rfl).setR rfl⟩, fun hw hlt hz hs w2 x2 => ?_⟩
  · intro z hz
    rcases List.mem_cons.1 hz with rfl | hz
    · exact hlt
    · exact hB z hz
  · refine ⟨B ++ [y] ++ (x :: B2), ?_, ?_, by simpa using hO.ext x2⟩
    · simp only [List.append_assoc]
      refine List.Perm.append_left B (List.Perm.append_left [y] ?_)
      exact (List.perm_append_comm (l₁ := [x]) (l₂ := B2))
    · refine sunk_is hw hs ?_ hB ?_
      · intro z h1 z' h2
        obtain rfl := List.mem_singleton.1 h2
        exact hz z h1
      · intro z h
        simp at h
        subst h
        exact hlt
theorem SinkS.bottom {base : RB} {g c : Nat} {lt : Nat → Nat → Bool} {P M : List Nat} {x : Nat} {T : List Nat} {w w' : World} (h : SinkS base g c lt P M x T 0 w w') (hw : Weak lt) (hz : ∀ z ∈ M, z < x) (hs : Srt lt M) : ∀ w2, Ext w' w2 → ∃ M', M'.Perm (M ++ [x]) ∧ Srt lt M' ∧ OwN w2 base g c (P ++ (M' ++ T)) := by
  obtain ⟨B1, B2, rfl, hp, hB, hO, _⟩ := h
  intro w2 x2
  obtain rfl := List.eq_nil_of_length_eq_zero hp
  refine ⟨x :: B2, List.perm_append_comm (l₁ := [x]) (l₂ := B2), ?_, by simpa using hO.ext x2⟩
  refine sunk_is hw (A := []) hs ?_ hB (by simp)
  intro z h1 z' h2
  obtain rfl := List.mem_singleton.1 h2
  exact hz z h1
theorem SinkS.ext {base : RB} {g c : Nat} {lt : Nat → Nat → Bool} {P M : List Nat} {x : Nat} {T : List Nat} {p : Nat} {w w' w2 : World} (h : SinkS base g c lt P M x T p w w') (x2 : Ext w' w2) : SinkS base g c lt P M x T p w w2 := by
  obtain ⟨B1, B2, h1, h2, h3, h4, h5⟩ := h
  exact ⟨B1, B2, h1, h2, h3, h4.ext x2, h5.ext x2⟩
theorem SinkS.lt {base : RB} {g c : Nat} {lt : Nat → Nat → Bool} {P M : List Nat} {x : Nat} {T : List Nat} {p : Nat} {w w' : World} (h : SinkS base g c lt P M x T p w w') : g < w'.heap.size := by
  obtain ⟨B1, B2, h1, h2, h3, h4, h5⟩ := h
  exact h4.lt.2
theorem SinkS.mod {base : RB} {g c : Nat} {lt : Nat → Nat → Bool} {P M : List Nat} {x : Nat} {T : List Nat} {p : Nat} {w w' : World} (h : SinkS base g c lt P M x T p w w') : Mod (fun k => k = g) w w' := by
  obtain ⟨B1, B2, h1, h2, h3, h4, h5⟩ := h
  exact h5
theorem InsS.next {base : RB} {g c : Nat} {lt : Nat → Nat → Bool} {P S Q : List Nat} {k : Nat} {w w' : World} (h : InsS base g c lt P S Q k w w') (hk : k < S.length) (hr : S.Pairwise (· < ·)) :
    ∃ M x, x ∈ S ∧ (∀ z ∈ M, z ∈ S) ∧ M.length = k ∧ (∀ z ∈ M, z < x) ∧ Srt lt M ∧ SinkS base g c lt P M x (S.drop (k + 1) ++ Q) k w w' ∧
      Hid (∀ w2, Mod (fun k => k = g) w w2 → (∃ M', M'.Perm (M ++ [x]) ∧ Srt lt M' ∧ OwN w2 base g c (P ++ (M' ++ (S.drop (k + 1) ++ Q)))) → InsS base g c lt P S Q (k + 1) w w2) := by
  obtain ⟨M, ⟨hp, hs⟩, hO, hM⟩ := h
  have hx : S[k]? = some S[k] := List.getElem?_eq_getElem hk
  have hd : S.drop k = S[k] :: S.drop (k + 1) := List.drop_eq_getElem_cons hk
  have hms : ∀ z ∈ M, z ∈ S.take k := fun z hz => hp.mem_iff.1 hz
  refine ⟨M, S[k], List.getElem_mem hk, fun z hz => List.mem_of_mem_take (hms z hz), by rw [hp.length_eq, List.length_take]; omega, ?_, hs, ⟨M, [], by simp, by rw [hp.length_eq, List.length_take]; omega, by simp, by rw [hd] at hO; exact hO, hM⟩, ?_⟩
  · intro z hz
    obtain ⟨i, hi, rfl⟩ := List.mem_iff_getElem.1 (hms z hz)
    rw [List.getElem_take]
    rw [List.length_take] at hi
    exact List.pairwise_iff_getElem.1 hr i k (by omega) hk (by omega)
  · rintro w2 hm2 ⟨M', hp', hs', hO'⟩
    refine ⟨M', ⟨hp'.trans ?_, hs'⟩, hO', hm2⟩
    rw [List.take_add_one, hx]
    exact hp.append (List.Perm.refl _)

set_option maxRecDepth 100000 in
set_option maxHeartbeats 4000000 in
theorem insertion_any (base : RB) (g c : Nat) (f : Nat) (lb : Array Value) (cf : Nat → Nat → Int) (nn a b N : Nat) (P S Q : List Nat) (w : World) (hw : Weak (ltC cf)) (eg : ∀ args w, (callFunc f args).run Try.prog w = .ok (.enter f args) w) (hcmp : CmpOk base f lb cf nn g w)
    (h : OwN w base g c (P ++ (S ++ Q))) (hN : (P ++ (S ++ Q)).length = N) (ha : P.length = a) (hS : a + S.length = b) (hr : S.Pairwise (· < ·)) (hn : ∀ x ∈ S, x < nn) (hl : N ≤ 1000000000) :
    Calls Try.prog 22 #[.slice (some ⟨g, 0, none⟩) N c, .int .i64 a, .int .i64 b, .func (.func f) #[] lb] w (SortedPost base g c (ltC cf) P S Q w) := by
  have HS : Hid (InsS base g c (ltC cf) P S Q 1 w w) := by
    refine ⟨S.take 1, ⟨List.Perm.refl _, ?_⟩, ?_, Mod.rf _⟩
    · match S with
      | [] => exact List.Pairwise.nil
      | [x] => exact List.pairwise_singleton _ _
      | x :: y :: z => exact List.pairwise_singleton _ _
    · rw [← List.append_assoc (S.take 1), List.take_append_drop]; exact h
  have hbN : b ≤ N := by simp only [List.length_append] at hN; omega
  replace hN := Lib.hid hN
  replace hcmp := Lib.hid hcmp
  replace hw := Lib.hid hw
  replace ha := Lib.hid ha
  replace hn := Lib.hid hn
  replace hr := Lib.hid hr
  clear h
  go_enter Try.func22, Try.ntmps22
  go_wp2_with (fail)
  go_loopw [8] (fun iv wr => ∃ (i k : Nat), iv = .int .i64 i ∧ Hid (i = a + k) ∧ 0 < k ∧ k ≤ S.length + 1 ∧ Hid (InsS base g c (ltC cf) P S Q k w wr)) (fun iv _ => b + 1 - (intOf iv).toNat)
  case atStart => exact ⟨a + 1, 1, by first | rfl | go_num, rfl, by omega, by omega, HS⟩
  case round =>
    obtain ⟨wo, rfl⟩ : ∃ wo : World, wo = wr := ⟨_, rfl⟩
    obtain ⟨i, k, rfl, hi, hk0, hk, HH⟩ := hrel
    clear HS
    by_cases hlt : k < S.length
    · obtain ⟨M, x, hxS, hMS, hMl, hz, hs, hsink, hout⟩ := HH.out.next hlt hr.out
      have hxn := hn.out x hxS
      have hMn : Hid (∀ z ∈ M, z < nn) := fun z hz => hn.out z (hMS z hz)
      replace hMl := Lib.hid hMl
      replace hz := Lib.hid hz
      replace hs := Lib.hid hs
      replace hsink := Lib.hid hsink
      clear HH hMS hxS
      have hltz : (i : Int) < (b : Int) := by rw [hi.out]; omega
      have hiN : i < N := by rw [hi.out]; omega
      go_wp2_with (fail)
      go_loopw [9] (fun jv wr => ∃ (j p : Nat), jv = .int .i64 j ∧ Hid (j = a + p) ∧ p ≤ k ∧ Hid (SinkS base g c (ltC cf) P M x (S.drop (k + 1) ++ Q) p w wr)) (fun jv _ => (intOf jv).toNat)
      case atStart => exact ⟨i, k, rfl, hi, by omega, hsink⟩
      case round =>
        obtain ⟨wi, rfl⟩ : ∃ wi : World, wi = wr := ⟨_, rfl⟩
        obtain ⟨j, p, rfl, hj, hp, HI⟩ := hrel
        clear hsink
        cases p with
        | zero =>
          have hbot := Lib.hid (HI.out.bottom hw.out hz.out hs.out)
          have hM := Lib.hid HI.out.mod
          obtain rfl : j = a := hj.out
          go_wp2_with (fail)
          go_quiet (fail)
          go_wp2_with (fail)
          go_roundw
          case rel => exact ⟨i + 1, k + 1, by go_num, by have := hi.out; show i + 1 = _ + (k + 1); omega, by omega, by omega, hout.out _ (hM.out.drewN _) (hbot.out _ ((Ext.rf _).drewN _))⟩
          case measure => simp [intOf]; omega
        | succ p =>
          obtain ⟨y, hyM, cy, fy, cx, fx, hstep, hstop⟩ := HI.out.two ha.out
          have hM := Lib.hid HI.out.mod
          have hyn := hMn.out y hyM
          obtain ⟨jp, hjp⟩ : ∃ jp, Hid (jp = a + p) := ⟨_, rfl⟩
          rw [← hjp.out] at cy fy cx fx hstep
          obtain rfl : j = jp + 1 := by rw [hj.out, hjp.out]; omega
          have hg : g < wi.heap.size := HI.out.lt
          have hc : ∀ W, Ext wi W → Calls Try.prog f (#[base.v x, base.v y] ++ lb) W fun e W' => e = .returned (.int .i64 (cf x y)) ∧ Ext W W' := fun W hW => hcmp.out _ x y hxn hyn (hM.out.ext hW)
          have hwp : IntKind.i64.wrap (jp : Int) = (jp : Int) := IntWalk.i64_in _ (by rw [hjp.out]; omega)
          have jz : (jp : Int) + 1 < (N : Int) := by rw [hjp.out]; omega
          have jz1 : (jp : Int) < (N : Int) := by omega
          have hjaz : (a : Int) < (jp : Int) + 1 := by rw [hjp.out]; omega
          have p0 : (0 : Int) ≤ (jp : Int) + 1 := by omega
          have e0 : ((jp : Int) + 1).toNat = jp + 1 := by omega
          obtain ⟨cy, cy'⟩ := cy
          obtain ⟨cx, cx'⟩ := cx
          clear hyM
          by_cases hlv : cf x y < 0
          · replace hstep := Lib.hid (hstep.out (decide_eq_true hlv))
            clear hstop
            go_wp2_with (fail)
            go_region_held3 (fun W => W.cell? ⟨g, jp * 2, none⟩ = some (.int .i64 (base.kd y)) ∧ W.cell? ⟨g, jp * 2 + 1, none⟩ = some (.slice (base.ad y) (base.ln y) (base.cp y)) ∧ W.cell? ⟨g, (jp + 1) * 2, none⟩ = some (.int .i64 (base.kd x)) ∧ W.cell? ⟨g, (jp + 1) * 2 + 1, none⟩ = some (.slice (base.ad x) (base.ln x) (base.cp x))) (go_keep)
              (first | (go_at_fn f; refine (hc _ (by (repeat (first | assumption | exact Ext.rf _ | apply Ext.drew | apply Ext.drewN | apply Ext.alloc)))).mono ?_; rintro e w2 ⟨rfl, x2⟩; have y2 := Ext.tr (a := wi) (by (repeat (first | assumption | exact Ext.rf _ | apply Ext.drew | apply Ext.drewN | apply Ext.alloc))) x2; have s1 := keepEL y2 hg cy; have s2 := keepEL y2 hg cy'; have s3 := keepEL y2 hg cx; have s4 := keepEL y2 hg cx'))
            go_wp2_with (fail)
            have Fy := fy.ext y2 hg
            have Fx := fx.ext y2 hg
            obtain ⟨fy2, fy2'⟩ := Fy
            obtain ⟨fx2, fx2'⟩ := Fx
            have NX := Lib.hid (hstep.out _ y2)
            clear cy cx cy' cx' fy fx hc hstep
            go_region
            all_goals go_wp2
            go_roundw
            case rel => exact ⟨jp, p, by first | rfl | go_num, hjp, by omega, NX.out.ext ((Ext.rf _).drew)⟩
            case measure => simp [intOf] <;> omega
          · replace hstop := Lib.hid (hstop.out hw.out (decide_eq_false hlv) hz.out hs.out)
            clear hstep
            go_wp2_with (fail)
            go_region_held3 (fun W => W.cell? ⟨g, jp * 2, none⟩ = some (.int .i64 (base.kd y)) ∧ W.cell? ⟨g, jp * 2 + 1, none⟩ = some (.slice (base.ad y) (base.ln y) (base.cp y)) ∧ W.cell? ⟨g, (jp + 1) * 2, none⟩ = some (.int .i64 (base.kd x)) ∧ W.cell? ⟨g, (jp + 1) * 2 + 1, none⟩ = some (.slice (base.ad x) (base.ln x) (base.cp x))) (go_keep)
              (first | (go_at_fn f; refine (hc _ (by (repeat (first | assumption | exact Ext.rf _ | apply Ext.drew | apply Ext.drewN | apply Ext.alloc)))).mono ?_; rintro e w2 ⟨rfl, x2⟩; have y2 := Ext.tr (a := wi) (by (repeat (first | assumption | exact Ext.rf _ | apply Ext.drew | apply Ext.drewN | apply Ext.alloc))) x2; have s1 := keepEL y2 hg cy; have s2 := keepEL y2 hg cy'; have s3 := keepEL y2 hg cx; have s4 := keepEL y2 hg cx'))
            go_wp2_with (fail)
            go_roundw
            case rel => exact ⟨i + 1, k + 1, by go_num, by have := hi.out; show i + 1 = _ + (k + 1); omega, by omega, by omega, hout.out _ (hM.out.ext (by assumption)) (hstop.out _ (by assumption))⟩
            case measure => simp [intOf] <;> omega
    · have hltz : ¬ (i : Int) < (b : Int) := by rw [hi.out]; omega
      obtain ⟨M, hM1, hM2, hM3⟩ := HH.out
      have FIN : Hid (SortedPost base g c (ltC cf) P S Q w (.returned (.tuple #[])) wo) := by
        refine ⟨M, ?_, rfl, ?_, hM3⟩
        · rwa [List.take_of_length_le (by omega)] at hM1
        · rwa [List.drop_of_length_le (by omega), List.nil_append] at hM2
      clear hM1 hM2 hM3 HH
      go_wp2_with (fail)
      go_end0
      exact FIN.out
end Go.Proofs.Ytpngflmngnjjoaa
