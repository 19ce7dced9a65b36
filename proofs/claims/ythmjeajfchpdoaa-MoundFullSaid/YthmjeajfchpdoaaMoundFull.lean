/-
  MoundFull: a mound of one level takes what isn't above its top, and nothing else. No condition.
-/
import Derived.Test.YthmjeajfchpdoaaMoundI
namespace Go.Proofs.Ythmjeajfchpdoaa.moundFull
open Go.RowKit Go.ChangeShapes Go.WideShapes Go.ChangeAt

theorem leaf_yes {l : List It} {key : Int} (h : fitsP [[], l] 1 key = true) : leafP [[], l] key [] = 1 := by
  simp [leafP, drawP, scanP, h]
theorem leaf_no {l : List It} {key : Int} (h : fitsP [[], l] 1 key = false) : leafP [[], l] key [] = 0 := by
  simp [leafP, drawP, scanP, h]
theorem place_one (l : List It) (key : Int) : placeP [[], l] key 1 = 1 := by
  simp [placeP, wayP, upsP, halfP]
theorem full_yes (g base : Nat) (l : List It) (key : Int) (W : World) (H : MoundRep W base g [[], l] l.length) (hl : l.length ≤ 40) (h : fitsP [[], l] 1 key = true) :
    Calls Try.prog 40 #[.pointer (some ⟨g, 0, none⟩), .agg #[.int .i64 key, .int .i64 0], .slice none 0 0] W fun e w' => e = .returned (.bool true) ∧ MoundRep w' base g [[], (key, 0) :: l] ((key, 0) :: l).length ∧ ModT base TS W w' := by
  have hk := insert_yes g base [[], l] l.length (key, 0) none 0 [] 1 W H rfl (by decide) (by decide) (.inl rfl) (by intro x hx; simp at hx) (Nat.le_refl _) (by decide) (by simp only [leaf_yes h]; decide) (by omega) (by intro m hm; simp at hm; rcases hm with rfl | rfl; (simp); (omega))
  simp only [leaf_yes h, place_one] at hk
  exact hk
theorem full_no (g base : Nat) (l : List It) (key : Int) (W : World) (H : MoundRep W base g [[], l] l.length) (h : fitsP [[], l] 1 key = false) :
    Calls Try.prog 40 #[.pointer (some ⟨g, 0, none⟩), .agg #[.int .i64 key, .int .i64 0], .slice none 0 0] W fun e w' => e = .returned (.bool false) ∧ Ext W w' :=
  insert_no g base [[], l] l.length (key, 0) none 0 [] 1 W H rfl (by decide) (by decide) (.inl rfl) (by intro x hx; simp at hx) (Nat.le_refl _) (by decide) (leaf_no h)

theorem keepI {base : Nat} {W W' : World} (M : ModT base TS W W') {b o : Nat} {v : Value} (hb : b < base) (hc : W.cell? ⟨b, o, none⟩ = some v) : W'.cell? ⟨b, o, none⟩ = some v := by
  rw [← hc]
  exact World.cell?_of_block (M.block b (World.block_lt_of_cell? W _ hc) fun hs => by have := hs.1; omega)
theorem keepB {base : Nat} {W W' : World} (M : ModT base TS W W') {g : Nat} {cs : Array Value} (h : Blk W g 61 cs) (i : Nat) : W'.cell? ⟨g, i, none⟩ = cs[i]? := (h.modT M (by decide)).cell i
theorem keepE {W W' : World} (x : Ext W W') {b o : Nat} {v : Value} (hb : b < W.heap.size) (hc : W.cell? ⟨b, o, none⟩ = some v) : W'.cell? ⟨b, o, none⟩ = some v := (x.cells.1 _ o hb).trans hc

set_option maxRecDepth 100000 in
set_option maxHeartbeats 1000000 in
theorem walk (A : Option Addr) (c : Nat) (xs : List Int) (w : World) (hx : RdI w A xs) (ix : Ints xs) (lx : xs.length ≤ c) (lc : c ≤ maxLen) :
    Calls Try.prog 8 #[.slice A xs.length c] w fun e w' => e = .returned (.bool true) ∧ Ext w w' := by
  unfold maxLen at lc
  go_enter Try.func8, Try.ntmps8
  go_wp2_with (fail)
  refine (new1 _).mono ?_
  rintro e w1 ⟨g, rfl, R1, x1⟩
  go_wp2_with (fail)
  refine (mounds_any _).mono ?_
  rintro e w2 ⟨rfl, x2⟩
  have R2 := R1.ext x2
  have X2 := x1.tr x2
  clear R1 x1 x2
  go_wp2_with (fail)
  go_loopw [5] (fun i wr => ∃ (k : Nat) (l : List It), i = .int .i64 k ∧ k ≤ xs.length ∧ k ≤ 40 ∧ l.length ≤ k ∧ Hid (MoundRep wr w.heap.size g [[], l] l.length) ∧ Ext w wr) (fun i _ => 40 - (intOf i).toNat)
  case atStart => exact ⟨0, [], rfl, by omega, by omega, by simp, R2, X2⟩
  case round =>
    obtain ⟨k, l, rfl, hk, hk40, hl, R, X⟩ := hrel
    by_cases hlt : k < xs.length ∧ k < 40
    · obtain ⟨h1, h2⟩ := hlt
      obtain ⟨b, off, x, rfl, hb, hcell, hx', hdr⟩ := hx.at h1
      have hbr : b < wr.heap.size := by have := X.size; omega
      have hcr := (X.cells.1 _ (off + k) hb).trans hcell
      clear hdr hx'
      have hbw : b < w.heap.size := hb
      have M := min_any g w.heap.size [[], l] l.length wr R.out (by simp) (by simp)
      cases l with
      | nil =>
        have hf : fitsP [[], []] 1 x = true := rfl
        rw [show minP [[], []] = ((0, 0), false) from rfl] at M
        simp only [itV] at M
        replace M := Lib.hid M
        go_wp2_with (fail)
        refine M.out.mono ?_
        rintro e w3 ⟨rfl, x3⟩
        have hcr3 := (x3.cells.1 _ (off + k) hbr).trans hcr
        have R3 := R.out.ext x3
        have hb3 : b < w3.heap.size := by have := x3.size; omega
        replace R3 := Lib.hid R3
        have X3 := X.tr x3
        go_wp2_with (fail)
        refine wp_region_any (by kernel_rfl) ?_
        change wpAny _ _ _ _ _ _ _ (World.drew _)
        refine wpAny_take (i := 0) (v := ?_) rfl (by decide +kernel) (by decide +kernel) (by decide +kernel) (fun _ _ _ h => h) (Or.inl ⟨by kernel_rfl, ?_⟩) ?_
        case refine_2 => (intro _; go_simp; try with_reducible rfl)
        try simp only [Act.put, List.setIfInBounds_toArray, List.set_cons_zero, List.set_cons_succ]
        refine wpAny_take (i := 1) (v := ?_) rfl (by decide +kernel) (by decide +kernel) (by decide +kernel) (fun _ _ _ h => h) (Or.inl ⟨by kernel_rfl, ?_⟩) ?_
        case refine_2 => (intro _; go_simp; try with_reducible rfl)
        try simp only [Act.put, List.setIfInBounds_toArray, List.set_cons_zero, List.set_cons_succ]
        refine wpAny_take (i := 2) (v := ?_) rfl (by decide +kernel) (by decide +kernel) (by decide +kernel) (fun _ _ _ h => h) (Or.inl ⟨by kernel_rfl, ?_⟩) ?_
        case refine_2 => (intro _; go_simp; try with_reducible rfl)
        try simp only [Act.put, List.setIfInBounds_toArray, List.set_cons_zero, List.set_cons_succ]
        refine wpAny_take (i := 3) (v := ?_) rfl (by decide +kernel) (by decide +kernel) (by decide +kernel) (fun _ _ _ h => h) (Or.inl ⟨by kernel_rfl, ?_⟩) ?_
        case refine_2 => (intro _; go_simp; try with_reducible rfl)
        try simp only [Act.put, List.setIfInBounds_toArray, List.set_cons_zero, List.set_cons_succ]
        refine wpAny_take (i := 7) (v := ?_) rfl (by decide +kernel) (by decide +kernel) (by decide +kernel) (fun _ _ _ h => h) (Or.inl ⟨by kernel_rfl, ?_⟩) ?_
        case refine_2 => (intro _; go_simp; try with_reducible rfl)
        try simp only [Act.put, List.setIfInBounds_toArray, List.set_cons_zero, List.set_cons_succ]
        refine wpAny_take (i := 8) (v := ?_) rfl (by decide +kernel) (by decide +kernel) (by decide +kernel) (fun _ _ _ h => h) (Or.inl ⟨by kernel_rfl, ?_⟩) ?_
        case refine_2 => (intro _; go_simp; try with_reducible rfl)
        try simp only [Act.put, List.setIfInBounds_toArray, List.set_cons_zero, List.set_cons_succ]
        refine wpAny_next 4 (by kernel_rfl) (op_ld (T := 3) rfl (.pointer (some ⟨b, off + k, none⟩)) (by kernel_rfl) (.int .i64 x) (by go_simp) ?_)
        try simp only [Act.put, List.setIfInBounds_toArray, List.set_cons_zero, List.set_cons_succ]
        refine wpAny_take (i := 5) (v := ?_) rfl (by decide +kernel) (by decide +kernel) (by decide +kernel) (fun _ _ _ h => h) (Or.inl ⟨by kernel_rfl, ?_⟩) ?_
        case refine_2 => (intro _; go_simp; try with_reducible rfl)
        try simp only [Act.put, List.setIfInBounds_toArray, List.set_cons_zero, List.set_cons_succ]
        refine wpAny_next 6 (by kernel_rfl) (op_call rfl #[.pointer (some ⟨g, 0, none⟩), .agg #[.int .i64 x, .int .i64 0], .slice none 0 0] (by go_simp) (by kernel_rfl) _ (full_yes g w.heap.size [] x _ (R3.out.ext (by (repeat (first | assumption | exact Ext.rf _ | apply Ext.drew | apply Ext.drewN | apply Ext.alloc)))) (by simp) hf) ?_)
        rintro e w5 ⟨rfl, R5, M5⟩
        refine ⟨_, rfl, ?_⟩
        try simp only [Act.put, List.setIfInBounds_toArray, List.set_cons_zero, List.set_cons_succ]
        refine wpAny_take (i := 9) (v := ?_) rfl (by decide +kernel) (by decide +kernel) (by decide +kernel) (fun _ _ _ h => h) (Or.inl ⟨by kernel_rfl, ?_⟩) ?_
        case refine_2 => (intro _; go_simp; try with_reducible rfl)
        try simp only [Act.put, List.setIfInBounds_toArray, List.set_cons_zero, List.set_cons_succ]
        refine wpAny_take (i := 10) (v := undef) rfl (by decide +kernel) (by decide +kernel) (by decide +kernel) (fun _ _ _ h => h) (Or.inr ⟨by kernel_rfl, rfl⟩) ?_
        try simp only [Act.put, List.setIfInBounds_toArray, List.set_cons_zero, List.set_cons_succ]
        refine wpAny_take (i := 11) (v := undef) rfl (by decide +kernel) (by decide +kernel) (by decide +kernel) (fun _ _ _ h => h) (Or.inr ⟨by kernel_rfl, rfl⟩) ?_
        try simp only [Act.put, List.setIfInBounds_toArray, List.set_cons_zero, List.set_cons_succ]
        refine wpAny_take (i := 12) (v := undef) rfl (by decide +kernel) (by decide +kernel) (by decide +kernel) (fun _ _ _ h => h) (Or.inr ⟨by kernel_rfl, rfl⟩) ?_
        try simp only [Act.put, List.setIfInBounds_toArray, List.set_cons_zero, List.set_cons_succ]
        refine wpAny_take (i := 13) (v := undef) rfl (by decide +kernel) (by decide +kernel) (by decide +kernel) (fun _ _ _ h => h) (Or.inr ⟨by kernel_rfl, rfl⟩) ?_
        try simp only [Act.put, List.setIfInBounds_toArray, List.set_cons_zero, List.set_cons_succ]
        refine wpAny_take (i := 14) (v := undef) rfl (by decide +kernel) (by decide +kernel) (by decide +kernel) (fun _ _ _ h => h) (Or.inr ⟨by kernel_rfl, rfl⟩) ?_
        try simp only [Act.put, List.setIfInBounds_toArray, List.set_cons_zero, List.set_cons_succ]
        refine wpAny_take (i := 15) (v := undef) rfl (by decide +kernel) (by decide +kernel) (by decide +kernel) (fun _ _ _ h => h) (Or.inr ⟨by kernel_rfl, rfl⟩) ?_
        try simp only [Act.put, List.setIfInBounds_toArray, List.set_cons_zero, List.set_cons_succ]
        refine wpAny_take (i := 16) (v := undef) rfl (by decide +kernel) (by decide +kernel) (by decide +kernel) (fun _ _ _ h => h) (Or.inr ⟨by kernel_rfl, rfl⟩) ?_
        try simp only [Act.put, List.setIfInBounds_toArray, List.set_cons_zero, List.set_cons_succ]
        refine wpAny_take (i := 17) (v := ?_) rfl (by decide +kernel) (by decide +kernel) (by decide +kernel) (fun _ _ _ h => h) (Or.inl ⟨by kernel_rfl, ?_⟩) ?_
        case refine_2 => (intro _; go_simp; try with_reducible rfl)
        try simp only [Act.put, List.setIfInBounds_toArray, List.set_cons_zero, List.set_cons_succ]
        refine wpAny_take (i := 18) (v := ?_) rfl (by decide +kernel) (by decide +kernel) (by decide +kernel) (fun _ _ _ h => h) (Or.inl ⟨by kernel_rfl, ?_⟩) ?_
        case refine_2 => (intro _; go_simp; try with_reducible rfl)
        try simp only [Act.put, List.setIfInBounds_toArray, List.set_cons_zero, List.set_cons_succ]
        refine wpAny_done (by kernel_rfl) ?_ _
        have X5 := (X3.alloc _).drew.modT M5 (Nat.le_refl _)
        replace R5 := Lib.hid R5
        clear M5
        go_simp
        go_wp2_with fail
        go_roundw
        case rel => exact ⟨k + 1, [(x, 0)], by go_num, by omega, by omega, by simp, R5, X5⟩
        case measure => simp [intOf]; omega
      | cons p l =>
        rw [show minP [[], p :: l] = (p, true) from rfl] at M
        simp only [itV] at M
        replace M := Lib.hid M
        simp only [List.length_cons] at hl
        go_wp2_with (fail)
        refine M.out.mono ?_
        rintro e w3 ⟨rfl, x3⟩
        have hcr3 := (x3.cells.1 _ (off + k) hbr).trans hcr
        have R3 := R.out.ext x3
        have hb3 : b < w3.heap.size := by have := x3.size; omega
        replace R3 := Lib.hid R3
        have X3 := X.tr x3
        by_cases hc : x ≤ p.1
        · have hf : fitsP [[], p :: l] 1 x = true := by simp [fitsP, hc]
          go_wp2_with (fail)
          go_region_held3 (fun w' => w'.cell? ⟨b, off + k, none⟩ = some (.int .i64 x) ∧ w'.cell? ⟨w3.heap.size, 0, none⟩ = some (.int .i64 p.1)) (go_keep)
            (first | (go_at_call 40; refine (full_yes g w.heap.size (p :: l) x _ (R3.out.ext (by (repeat (first | assumption | exact Ext.rf _ | apply Ext.drew | apply Ext.drewN | apply Ext.alloc)))) (by simp; omega) hf).mono ?_; rintro e w5 ⟨rfl, R5, M5⟩; have s1 := keepI M5 hbw (keepE ((Ext.rf _).alloc _) hb3 hcr3); have s2 : w5.cell? ⟨w3.heap.size, 0, none⟩ = some (.int .i64 p.1) := keepB M5 (.new rfl) 0))
          all_goals
            have X5 := (X3.alloc _).drew.modT M5 (Nat.le_refl _)
            replace R5 := Lib.hid R5
            clear M5
            go_wp2_with fail
            go_roundw
            case rel => exact ⟨k + 1, (x, 0) :: p :: l, by go_num, by omega, by omega, by simp; omega, R5, X5⟩
            case measure => simp [intOf]; omega
        · have hf : fitsP [[], p :: l] 1 x = false := by simp [fitsP, hc]
          go_wp2_with (fail)
          go_region_held3 (fun w' => w'.cell? ⟨b, off + k, none⟩ = some (.int .i64 x) ∧ w'.cell? ⟨w3.heap.size, 0, none⟩ = some (.int .i64 p.1)) (go_keep)
            (first | (go_at_call 40; refine (full_no g w.heap.size (p :: l) x _ (R3.out.ext (by (repeat (first | assumption | exact Ext.rf _ | apply Ext.drew | apply Ext.drewN | apply Ext.alloc)))) hf).mono ?_; rintro e w5 ⟨rfl, x5⟩; have y5 := Ext.tr (a := w3) (by (repeat (first | assumption | exact Ext.rf _ | apply Ext.drew | apply Ext.drewN | apply Ext.alloc))) x5; have s1 := keepE y5 hb3 hcr3; have s2 : w5.cell? ⟨w3.heap.size, 0, none⟩ = some (.int .i64 p.1) := (Blk.ext (Blk.drew (.new rfl)) x5).cell 0))
          all_goals
            have X5 := X3.tr y5
            have R5 := Lib.hid (R3.out.ext y5)
            clear x5
            go_wp2_with fail
            go_roundw
            case rel => exact ⟨k + 1, p :: l, by go_num, by omega, by omega, by simp; omega, R5, X5⟩
            case measure => simp [intOf]; omega
    · by_cases h1 : k < xs.length
      · have h2 : ¬ k < 40 := by omega
        go_wp2
        go_ret
        exact ⟨rfl, X⟩
      · go_wp2
        go_ret
        exact ⟨rfl, X⟩

set_option maxRecDepth 100000 in
theorem lifted (os : Os) (started : os.Started) (H : Type) (enc : TypeId × Value → H) :
    ReturnsInHanded {} Try.checked os 8 .any (Rows.moundFullSpec.pre6 enc Try.prog Try.f8 Rows.moundFullRow.domain false) (Rows.moundFullSpec.post enc Try.prog Try.f8 false true false false) := by
  refine returnsInHanded_of_change (C := Try.checked) own started (by kernel_rfl) Try.func8
    (ChangeSpec.witness6 (enc := enc) (C := Try.checked) false ⟨#[], #[.slice none 0 0], []⟩ 8 (by kernel_rfl) (by kernel_rfl) (by kernel_rfl) (by kernel_rfl)) ?_
  intro W base args ds gs before hval0 hW _ _
  have hval : ∀ (j : Nat) t v, Try.f8.params[j]? = some t → args[j]? = some v → Value.okWide Try.prog W .any base t v := hval0
  have hW' := hW
  obtain ⟨p, q, hA0, hV, rfl, hfz, hnd⟩ := hW
  have hA : DataW.TrodAll enc Try.prog W 0 (fun _ => true) true Try.f8.params.toList args.toList ds p := hA0
  rw [Try.params8] at hA hval
  obtain ⟨v0, vs0, d0, ds0, p0, q0, hargs, rfl, rfl, h0, r0⟩ := trodAll_cons hA
  obtain ⟨rfl, rfl, rfl⟩ := trodAll_nil r0
  obtain rfl : args = #[v0] := by cases args; simp_all
  obtain ⟨rfl, rfl⟩ := trodVars_none hV
  obtain ⟨A0, x0, c0, rfl, hx0, ix0, lx0, lc0⟩ := open_RdI h0 (hval 0 _ v0 rfl rfl)
  refine (walk A0 c0 x0 W hx0 ix0 lx0 lc0).mono fun e W' ⟨he, hg⟩ => ?_
  subst he
  exact ⟨_, rfl, post_law hW' rfl rfl rfl rfl rfl (readable_of (by kernel_rfl)) hg⟩

theorem proved : Rows.MoundFullSaid :=
  OpenClaim.holds_of_wide 8 Try.f8 rfl rfl rfl rfl rfl rfl rfl ⟨rfl, rfl, rfl, rfl, rfl⟩ rfl rfl rfl rfl rfl (by kernel_rfl) Try.func8 (by kernel_rfl)
    (of_decide_eq_true (by kernel_rfl)) (by unfold Func.isWrapper; first | (rw [if_pos (by decide +kernel)]; kernel_rfl) | (rw [if_neg (by decide +kernel)]; exact ⟨rfl, rfl⟩))
    (fun os started H enc _ => lifted os started H enc)
end Go.Proofs.Ythmjeajfchpdoaa.moundFull
