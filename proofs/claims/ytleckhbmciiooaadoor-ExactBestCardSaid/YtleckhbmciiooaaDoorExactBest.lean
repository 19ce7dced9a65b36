/-
  ExactBest: no answer costs less than the best one, of problems all of whose answers can be tried.
-/
import Derived.Test.YtleckhbmciiooaaDoorExactBestP6
import Derived.Test.YtleckhbmciiooaaDoorRows
import Derived.Test.YtleckhbmciiooaaDoorCards
import Derived.Test.YtleckhbmciiooaaDoorTie
import Derived.Test.YtleckhbmciiooaaDoorChecked
namespace Go.Proofs.YtleckhbmciiooaaDoor.exactBest
open Go.RowKit Go.ChangeShapes Go.WideShapes Go.ChangeAt Go.Deep

/-- what stays: the problem in its place -/
structure StI (w : World) (vs : List Value) (j : InstP) (wr : World) : Prop where
  x : Ext w wr
  b : Blk wr w.heap.size 25 (List.toArray vs)
  r : RInst wr vs j
theorem StI.ext {w : World} {vs : List Value} {j : InstP} {wr wr' : World} (h : StI w vs j wr) (x : Ext wr wr') : StI w vs j wr' := ⟨h.x.tr x, h.b.ext x, h.r.ext x⟩
set_option maxRecDepth 100000 in
set_option maxHeartbeats 4000000 in
theorem walk_all (i j : InstP) (hj : j = copyP i) (vs : List Value) (w : World) (hT : Tab w) (H : RInst w vs i) :
    Calls Tryd.prog 8 #[.agg (List.toArray vs)] w fun e w' => e = .returned (.bool true) ∧ Ext w w' := by
  have CP := fun (W : World) (x : Ext w W) => copy_to hj vs W (H.ext x)
  have hI : InstInts j := hj ▸ H.ints.copy
  have LW : j.weight.length ≤ 1000000000 := by have := (copyP_lens i).1; rw [← hj] at this; omega
  have LV : j.value.length ≤ 1000000000 := by have := (copyP_lens i).2.1; rw [← hj] at this; omega
  clear hj
  obtain ⟨A, a, B, b, C, c, rfl, -, -, -⟩ := H
  have B1 : Hid (Blk (w.alloc (.cells #[.int .i64 i.kind, .int .i64 i.n, .int .i64 i.cap, .slice A i.weight.length a, .slice B i.value.length b, .slice C i.cost.length c] 25)) w.heap.size 25 #[.int .i64 i.kind, .int .i64 i.n, .int .i64 i.cap, .slice A i.weight.length a, .slice B i.value.length b, .slice C i.cost.length c]) := .new rfl
  replace CP := Lib.hid CP
  replace LW := Lib.hid LW
  replace LV := Lib.hid LV
  go_enter Tryd.func8, Tryd.ntmps8
  go_wp2_with (fail)
  refine (CP.out _ (by (repeat (first | assumption | exact Ext.rf _ | apply Ext.drew | apply Ext.drewN | apply Ext.alloc)))).mono ?_
  rintro e w2 ⟨us, rfl, O2, x2⟩
  obtain ⟨A3, l3, d3, A4, l4, d4, A5, l5, d5, rfl⟩ := O2.six
  have X2 := Ext.tr (a := w) (by (repeat (first | assumption | exact Ext.rf _ | apply Ext.drew | apply Ext.drewN | apply Ext.alloc))) x2
  have B2 := B1.out.ext x2
  obtain ⟨X3, B3, O3⟩ := put_copy B2 X2 O2
  have S3 := Lib.hid (StI.mk X3 B3 (O3.rinst hI))
  have t0 : w2.cell? ⟨w.heap.size, 0, none⟩ = some (.int .i64 i.kind) := B2.cell 0
  have t1 : w2.cell? ⟨w.heap.size, 1, none⟩ = some (.int .i64 i.n) := B2.cell 1
  have t2 : w2.cell? ⟨w.heap.size, 2, none⟩ = some (.int .i64 i.cap) := B2.cell 2
  have t3 : w2.cell? ⟨w.heap.size, 3, none⟩ = some (.slice A i.weight.length a) := B2.cell 3
  have t4 : w2.cell? ⟨w.heap.size, 4, none⟩ = some (.slice B i.value.length b) := B2.cell 4
  have t5 : w2.cell? ⟨w.heap.size, 5, none⟩ = some (.slice C i.cost.length c) := B2.cell 5
  have f0 := B2.free 0
  have f1 := B2.free 1
  have f2 := B2.free 2
  have f3 := B2.free 3
  have f4 := B2.free 4
  have f5 := B2.free 5
  clear O2 x2 X2 B2 X3 B3 O3
  go_upto_region 2 with (fail)
  generalize ((((((w2.setCell ⟨w.heap.size, 0, none⟩ (.int .i64 j.kind)).setCell ⟨w.heap.size, 1, none⟩ (.int .i64 j.n)).setCell ⟨w.heap.size, 2, none⟩ (.int .i64 j.cap)).setCell ⟨w.heap.size, 3, none⟩ (.slice A3 l3 d3)).setCell ⟨w.heap.size, 4, none⟩ (.slice A4 l4 d4)).setCell ⟨w.heap.size, 5, none⟩ (.slice A5 l5 d5)) = w3 at *
  clear t0 t1 t2 t3 t4 t5 f0 f1 f2 f3 f4 f5
  go_wp2_with (fail)
  refine (exacts_any _).mono ?_
  rintro e w4 ⟨rfl, x4⟩
  have S4 := Lib.hid (S3.out.ext x4)
  clear x4 S3
  have t0 : w4.cell? ⟨w.heap.size, 0, none⟩ = some (.int .i64 j.kind) := S4.out.b.cell 0
  have t1 : w4.cell? ⟨w.heap.size, 1, none⟩ = some (.int .i64 j.n) := S4.out.b.cell 1
  have t2 : w4.cell? ⟨w.heap.size, 2, none⟩ = some (.int .i64 j.cap) := S4.out.b.cell 2
  have t3 : w4.cell? ⟨w.heap.size, 3, none⟩ = some (.slice A3 l3 d3) := S4.out.b.cell 3
  have t4 : w4.cell? ⟨w.heap.size, 4, none⟩ = some (.slice A4 l4 d4) := S4.out.b.cell 4
  have t5 : w4.cell? ⟨w.heap.size, 5, none⟩ = some (.slice A5 l5 d5) := S4.out.b.cell 5
  have SM := Lib.hid (fun (W : World) (h : RInst W [.int .i64 j.kind, .int .i64 j.n, .int .i64 j.cap, .slice A3 l3 d3, .slice A4 l4 d4, .slice A5 l5 d5] j) => rsmall j _ W h)
  obtain ⟨sb, hsb⟩ : ∃ sb, Hid (smallP j = sb) := ⟨_, rfl⟩
  rw [hsb.out] at SM
  go_wp2_with (fail)
  refine (SM.out _ S4.out.r).mono ?_
  rintro e w5 ⟨rfl, x5⟩
  have S5 := Lib.hid (S4.out.ext x5)
  clear x5 S4 SM t0 t1 t2 t3 t4 t5
  cases sb
  · go_wp2_with (fail)
    refine (exacts_any _).mono ?_
    rintro e w6 ⟨rfl, x6⟩
    have X6 := Lib.hid (S5.out.x.tr x6)
    clear x6
    go_wp2_with (fail)
    go_ret
    exact ⟨rfl, X6.out⟩
  · obtain ⟨hc0, ht0⟩ := small_takes hsb.out
    have EX := Lib.hid (fun (W : World) (h : RInst W [.int .i64 j.kind, .int .i64 j.n, .int .i64 j.cap, .slice A3 l3 d3, .slice A4 l4 d4, .slice A5 l5 d5] j) (x : Ext w W) => best_ex j _ W h LW.out LV.out (hT.ext x))
    rw [ht0] at EX
    replace hc0 := Lib.hid hc0
    clear ht0
    have t0 : w5.cell? ⟨w.heap.size, 0, none⟩ = some (.int .i64 j.kind) := S5.out.b.cell 0
    have t1 : w5.cell? ⟨w.heap.size, 1, none⟩ = some (.int .i64 j.n) := S5.out.b.cell 1
    have t2 : w5.cell? ⟨w.heap.size, 2, none⟩ = some (.int .i64 j.cap) := S5.out.b.cell 2
    have t3 : w5.cell? ⟨w.heap.size, 3, none⟩ = some (.slice A3 l3 d3) := S5.out.b.cell 3
    have t4 : w5.cell? ⟨w.heap.size, 4, none⟩ = some (.slice A4 l4 d4) := S5.out.b.cell 4
    have t5 : w5.cell? ⟨w.heap.size, 5, none⟩ = some (.slice A5 l5 d5) := S5.out.b.cell 5
    go_wp2_with (fail)
    refine (EX.out _ S5.out.r S5.out.x).mono ?_
    intro e w6 hp
    clear EX t0 t1 t2 t3 t4 t5
    rcases hp with ⟨hne, -⟩ | ⟨-, A9, x9, c9, v9, rfl, r9, a9, hl9, hm9, x6⟩
    · exact absurd rfl hne
    have S6 := Lib.hid (S5.out.ext x6)
    have RB := Lib.hid (fun (W : World) (h : RInst W [.int .i64 j.kind, .int .i64 j.n, .int .i64 j.cap, .slice A3 l3 d3, .slice A4 l4 d4, .slice A5 l5 d5] j) => rbest8 j _ x9 v9 W h hc0.out a9)
    generalize x9.length = n9 at *
    have e9 : (v9 == v9) = true := by simp
    clear x6 r9 a9 hl9 hm9 S5
    have t0 : w6.cell? ⟨w.heap.size, 0, none⟩ = some (.int .i64 j.kind) := S6.out.b.cell 0
    have t1 : w6.cell? ⟨w.heap.size, 1, none⟩ = some (.int .i64 j.n) := S6.out.b.cell 1
    have t2 : w6.cell? ⟨w.heap.size, 2, none⟩ = some (.int .i64 j.cap) := S6.out.b.cell 2
    have t3 : w6.cell? ⟨w.heap.size, 3, none⟩ = some (.slice A3 l3 d3) := S6.out.b.cell 3
    have t4 : w6.cell? ⟨w.heap.size, 4, none⟩ = some (.slice A4 l4 d4) := S6.out.b.cell 4
    have t5 : w6.cell? ⟨w.heap.size, 5, none⟩ = some (.slice A5 l5 d5) := S6.out.b.cell 5
    go_wp2_with (fail)
    refine (RB.out _ S6.out.r).mono ?_
    rintro e w7 ⟨rfl, x7⟩
    have X7 := Lib.hid (S6.out.x.tr x7)
    clear x7 t0 t1 t2 t3 t4 t5 RB S6
    go_wp2_with (fail)
    go_ret
    exact ⟨rfl, X7.out⟩
theorem walk (vs : List Value) (i : InstP) (w : World) (hT : Tab w) (H : RInst w vs i) (_ : InstOk i) :
    Calls Tryd.prog 8 #[.agg (List.toArray vs)] w fun e w' => e = .returned (.bool true) ∧ Ext w w' := walk_all i (copyP i) rfl vs w hT H
set_option maxRecDepth 100000 in
theorem lifted (os : Os) (started : os.Started) (H : Type) (enc : TypeId × Value → H) :
    ReturnsInHanded {} Tryd.checked os 8 .any (fun w args => (Rows.exactBestSpec.pre enc Tryd.prog Tryd.f8 Rows.exactBestRow.domain false w args ∧ laidMetH Tryd.prog tabL w) ∧ sizedMet enc Tryd.prog Tryd.f8 (OpenSpec.ofChange Rows.exactBestSpec) false w args) (Rows.exactBestSpec.post enc Tryd.prog Tryd.f8 false true false false) := by
  refine returnsInHanded_of_change_and (C := Tryd.checked) (X := fun w _ => laidMetH Tryd.prog tabL w) (fun _ _ _ hh h => h.of_heap hh) own started (by kernel_rfl) Tryd.func8
    (ChangeSpec.witness_shaped (enc := enc) (C := Tryd.checked) (os := os) (X := fun w _ => laidMetH Tryd.prog tabL w) false (World.laidAll Tryd.prog os tabL) #[.agg #[.int .i64 0, .int .i64 0, .int .i64 0, .slice none 0 0, .slice none 0 0, .slice none 0 0]] 8 (World.laidAll_os _ _ _)
      (World.shaped_of_ZipB (by kernel_rfl) (by kernel_rfl)) (by kernel_rfl) (by kernel_rfl) (by kernel_rfl)
      (by rw [MakeChecks.laidMetH_plain _ _ _ (by kernel_rfl)]; exact laidMet_laidAll _ (by kernel_rfl) (by kernel_rfl))) ?_
  intro W base args ds gs before hval0 hW _ _ hL _
  have hval : ∀ (j : Nat) t v, Tryd.f8.params[j]? = some t → args[j]? = some v → Value.okWide Tryd.prog W .any base t v := hval0
  have hW' := hW
  obtain ⟨p, q, hA0, hV, rfl, hfz, hnd⟩ := hW
  have hA : DataW.TrodAll enc Tryd.prog W 0 (fun _ => true) true Tryd.f8.params.toList args.toList ds p := hA0
  rw [Tryd.params8] at hA hval
  obtain ⟨v0, vs0, d0, ds0, p0, q0, hargs, rfl, rfl, h0, r0⟩ := trodAll_cons hA
  obtain ⟨rfl, rfl, rfl⟩ := trodAll_nil r0
  obtain rfl : args = #[v0] := by cases args; simp_all
  obtain ⟨rfl, rfl⟩ := trodVars_none hV
  obtain ⟨y0, x0, rfl, hx0, ix0⟩ := open_Inst h0 (hval 0 _ v0 rfl rfl)
  refine (walk y0 x0 W (tab_of_laid hL) hx0 ix0).mono fun e W' ⟨he, hg⟩ => ?_
  subst he
  exact ⟨_, rfl, post_law hW' rfl rfl rfl rfl rfl (readable_of (by kernel_rfl)) hg⟩
theorem row : Rows.ExactBestSaid :=
  OpenClaim.holds_of_wide 8 Tryd.f8 rfl rfl rfl rfl rfl rfl rfl ⟨rfl, rfl, rfl, rfl, rfl⟩ rfl rfl rfl rfl rfl (by kernel_rfl) Tryd.func8 (by kernel_rfl)
    (of_decide_eq_true (by kernel_rfl)) (by unfold Func.isWrapper; first | (rw [if_pos (by decide +kernel)]; kernel_rfl) | (rw [if_neg (by decide +kernel)]; exact ⟨rfl, rfl⟩))
    (fun os started H enc _ => lifted os started H enc)
theorem proved : Rows.ExactBestCardSaid :=
  Claim7.holds_tied_plain_at .later [] [.data] true Rows.exactBestCard.stood.harness false row (fun _ h => by cases h) (by kernel_rfl) (fun _ h => by cases h) exactBest_row_tie rfl ⟨rfl, rfl⟩ (by kernel_rfl) rfl
    (fun f fn hf hfn => by
      obtain rfl : f = 8 := Option.some.inj ((show Tryd.prog.funcNamed "kurgan/kurganlaw15.ExactBest" = some 8 by kernel_rfl).symm.trans hf) |>.symm
      obtain rfl : fn = Tryd.f8 := (Option.some.inj (Tryd.func8.symm.trans hfn)).symm
      exact ⟨by kernel_rfl, fun j t ht => by
        rw [Tryd.params8] at ht
        have hm : t ∈ [25] := by simpa using Array.mem_of_getElem? ht
        have hall : ([25].all fun u => !Tryd.prog.wantsStandIn u) = true := by kernel_rfl
        exact (show Tryd.prog.wantsStandIn t = false by simpa using List.all_eq_true.1 hall t hm)⟩)
    (by kernel_rfl)
end Go.Proofs.YtleckhbmciiooaaDoor.exactBest
