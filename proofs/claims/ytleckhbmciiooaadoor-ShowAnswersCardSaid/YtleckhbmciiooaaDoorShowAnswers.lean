/-
  ShowAnswers: of all problems and lists the answer is told in words, or why it is none.
-/
import Derived.Test.YtleckhbmciiooaaDoorShowAnswersP3
import Derived.Test.YtleckhbmciiooaaDoorRows
import Derived.Test.YtleckhbmciiooaaDoorCards
import Derived.Test.YtleckhbmciiooaaDoorTie
import Derived.Test.YtleckhbmciiooaaDoorChecked
namespace Go.Proofs.YtleckhbmciiooaaDoor.showAnswers
open Go.RowKit Go.ChangeShapes Go.WideShapes Go.ChangeAt Go.Deep

/-- what stays: the problem in its place -/
structure StI (w : World) (vs : List Value) (j : InstP) (wr : World) : Prop where
  x : Ext w wr
  b : Blk wr w.heap.size 25 (List.toArray vs)
  r : RInst wr vs j
theorem StI.ext {w : World} {vs : List Value} {j : InstP} {wr wr' : World} (h : StI w vs j wr) (x : Ext wr wr') : StI w vs j wr' := ⟨h.x.tr x, h.b.ext x, h.r.ext x⟩
set_option maxRecDepth 100000 in
set_option maxHeartbeats 4000000 in
theorem walk_all (i j : InstP) (hj : j = copyP i) (vs : List Value) (P : Option Addr) (pc : Nat) (xs : List Int) (w : World) (hT : Ten w) (H : RInst w vs i) (hP : RdI w P xs) (ix : Ints xs) (lx : xs.length ≤ pc) (lc : pc ≤ maxLen) :
    Calls Tryd.prog 4 #[.agg (List.toArray vs), .slice P xs.length pc] w fun e w' => e = .returned (.bool true) ∧ Ext w w' := by
  have CP := fun (W : World) (x : Ext w W) => copy_to hj vs W (H.ext x)
  have hI : InstInts j := hj ▸ H.ints.copy
  have LW : j.weight.length ≤ 70 := by have := (copyP_lens i).1; rw [← hj] at this; omega
  have LV : j.value.length ≤ 70 := by have := (copyP_lens i).2.1; rw [← hj] at this; omega
  obtain ⟨ps, hp, ip, lp, lp', kp, ep⟩ := cut_min 70 hP ix
  simp only [Int.cast_ofNat_Int] at ep
  unfold maxLen at lc
  have lpd : ps.length ≤ pc := by omega
  have ep2 : min (xs.length : Int) 70 = (ps.length : Int) := by split at ep <;> omega
  have AN := fun (us : List Value) (A : Option Addr) (c : Nat) (W : World) (x : Ext w W) (h : RInst W us j) (hA : RdI W A ps) => shown_any j us A c ps W h hA (hT.ext x) (by omega) (by simp only [maxLen]; omega) (by simp only [maxLen]; omega) (by simp only [maxLen]; omega)
  have RA := fun (us : List Value) (A : Option Addr) (c : Nat) (W : World) (h : RInst W us j) (hA : RdI W A ps) => rans_any j us A c ps W h hA
  obtain ⟨sa, hsa⟩ : ∃ sa, (ansG j ps).1 = sa := ⟨_, rfl⟩
  obtain ⟨ea, hea⟩ : ∃ ea, (ansG j ps).2 = ea := ⟨_, rfl⟩
  rw [hsa, hea] at AN RA
  unfold txS at AN RA
  clear hj hsa hea
  replace hp := Lib.hid hp
  obtain ⟨A, a, B, b, C, c, rfl, -, -, -⟩ := H
  have B1 : Hid (Blk (w.alloc (.cells #[.int .i64 i.kind, .int .i64 i.n, .int .i64 i.cap, .slice A i.weight.length a, .slice B i.value.length b, .slice C i.cost.length c] 25)) w.heap.size 25 #[.int .i64 i.kind, .int .i64 i.n, .int .i64 i.cap, .slice A i.weight.length a, .slice B i.value.length b, .slice C i.cost.length c]) := .new rfl
  replace CP := Lib.hid CP
  replace AN := Lib.hid AN
  replace RA := Lib.hid RA
  replace kp := Lib.hid kp
  clear LW LV hP ix
  go_enter Tryd.func4, Tryd.ntmps4
  go_wp2_with (fail)
  refine (CP.out _ (by (repeat (first | assumption | exact Ext.rf _ | apply Ext.drew | apply Ext.drewN | apply Ext.alloc)))).mono ?_
  rintro e w2 ⟨us, rfl, O2, x2⟩
  obtain ⟨A3, l3, d3, A4, l4, d4, A5, l5, d5, rfl⟩ := O2.six
  have X2 := Ext.tr (a := w) (by (repeat (first | assumption | exact Ext.rf _ | apply Ext.drew | apply Ext.drewN | apply Ext.alloc))) x2
  have B2 := B1.out.ext x2
  obtain ⟨X3, B3, O3⟩ := put_copy B2 X2 O2
  have S3 := Lib.hid (StI.mk X3 B3 (O3.rinst hI))
  have t0 : w2.cell? ⟨w.heap.size, 0, none⟩ = some (.int .i64 i.kind) := B2.cell 0
  have t1 : w2.cell? ⟨w.heap.size, 1, none⟩ = some (.int .i64 i.n) := B2.cell 1
  have t2 : w2.cell? ⟨w.heap.size, 2, none⟩ = some (.int .i64 i.cap) := B2.cell 2
  have t3 : w2.cell? ⟨w.heap.size, 3, none⟩ = some (.slice A i.weight.length a) := B2.cell 3
  have t4 : w2.cell? ⟨w.heap.size, 4, none⟩ = some (.slice B i.value.length b) := B2.cell 4
  have t5 : w2.cell? ⟨w.heap.size, 5, none⟩ = some (.slice C i.cost.length c) := B2.cell 5
  have f0 := B2.free 0
  have f1 := B2.free 1
  have f2 := B2.free 2
  have f3 := B2.free 3
  have f4 := B2.free 4
  have f5 := B2.free 5
  clear O2 x2 X2 B2 X3 B3 O3
  go_upto_region 2 with (fail)
  generalize ((((((w2.setCell ⟨w.heap.size, 0, none⟩ (.int .i64 j.kind)).setCell ⟨w.heap.size, 1, none⟩ (.int .i64 j.n)).setCell ⟨w.heap.size, 2, none⟩ (.int .i64 j.cap)).setCell ⟨w.heap.size, 3, none⟩ (.slice A3 l3 d3)).setCell ⟨w.heap.size, 4, none⟩ (.slice A4 l4 d4)).setCell ⟨w.heap.size, 5, none⟩ (.slice A5 l5 d5)) = w3 at *
  clear t0 t1 t2 t3 t4 t5 f0 f1 f2 f3 f4 f5
  have zw := S3.out.x.size
  go_wp2_with (at_builtin; refine wpl_copy_i _ rfl _ _ rfl w3.heap.size _ ps P pc rfl rfl ?_ ?_ ?_ ?_ ?_; (first | exact .new (by simp) | exact .drew (.new (by simp)) | exact .alloc (.new (by simp)) _ | exact .drew (.alloc (.new (by simp)) _) | exact .alloc (.alloc (.new (by simp)) _) _ | exact .drew (.alloc (.alloc (.new (by simp)) _) _) | (repeat (first | assumption | (refine Blk.new ?_; (focus (simp; done))) | apply Blk.drew | apply Blk.drewN | apply Blk.alloc))); (first | exact Nat.le_refl _ | omega | (focus (simp; try omega))); (refine (hp.out.ext S3.out.x).ext ?_; (repeat (first | assumption | exact Ext.rf _ | apply Ext.drew | apply Ext.drewN | apply Ext.alloc))); omega; rintro A7 c7 w7 o7 x7; have y7 := Ext.tr (a := w3) (by (repeat (first | assumption | exact Ext.rf _ | apply Ext.drew | apply Ext.drewN | apply Ext.alloc))) x7; have S7 := Lib.hid (S3.out.ext y7); have R7 := Lib.hid o7.read; clear o7 x7 y7 S3; have t0 : w7.cell? ⟨w.heap.size, 0, none⟩ = some (.int .i64 j.kind) := S7.out.b.cell 0; have t1 : w7.cell? ⟨w.heap.size, 1, none⟩ = some (.int .i64 j.n) := S7.out.b.cell 1; have t2 : w7.cell? ⟨w.heap.size, 2, none⟩ = some (.int .i64 j.cap) := S7.out.b.cell 2; have t3 : w7.cell? ⟨w.heap.size, 3, none⟩ = some (.slice A3 l3 d3) := S7.out.b.cell 3; have t4 : w7.cell? ⟨w.heap.size, 4, none⟩ = some (.slice A4 l4 d4) := S7.out.b.cell 4; have t5 : w7.cell? ⟨w.heap.size, 5, none⟩ = some (.slice A5 l5 d5) := S7.out.b.cell 5)
  refine (AN.out _ A7 c7 _ S7.out.x S7.out.r R7.out).mono ?_
  rintro e w8 ⟨rfl, x8⟩
  have S8 := Lib.hid (S7.out.ext x8)
  have R8 := Lib.hid (R7.out.ext x8)
  clear t0 t1 t2 t3 t4 t5 x8 S7 R7
  have t0 : w8.cell? ⟨w.heap.size, 0, none⟩ = some (.int .i64 j.kind) := S8.out.b.cell 0
  have t1 : w8.cell? ⟨w.heap.size, 1, none⟩ = some (.int .i64 j.n) := S8.out.b.cell 1
  have t2 : w8.cell? ⟨w.heap.size, 2, none⟩ = some (.int .i64 j.cap) := S8.out.b.cell 2
  have t3 : w8.cell? ⟨w.heap.size, 3, none⟩ = some (.slice A3 l3 d3) := S8.out.b.cell 3
  have t4 : w8.cell? ⟨w.heap.size, 4, none⟩ = some (.slice A4 l4 d4) := S8.out.b.cell 4
  have t5 : w8.cell? ⟨w.heap.size, 5, none⟩ = some (.slice A5 l5 d5) := S8.out.b.cell 5
  go_wp2_with (fail)
  refine (RA.out _ A7 c7 _ S8.out.r R8.out).mono ?_
  rintro e w9 ⟨rfl, x9⟩
  have X9 := Lib.hid (S8.out.x.tr x9)
  clear t0 t1 t2 t3 t4 t5 x9 S8 R8 AN RA CP
  have e2 : (ea == ea) = true := by simp
  go_wp2_with (fail)
  refine (shows_any _ (hT.ext (X9.out.tr (by (repeat (first | assumption | exact Ext.rf _ | apply Ext.drew | apply Ext.drewN | apply Ext.alloc)))))).mono ?_
  rintro e wa ⟨rfl, xa⟩
  have Xa := Lib.hid (X9.out.tr (Ext.tr (by (repeat (first | assumption | exact Ext.rf _ | apply Ext.drew | apply Ext.drewN | apply Ext.alloc))) xa))
  go_wp2_with (fail)
  go_ret
  exact ⟨rfl, Xa.out⟩
theorem walk (vs : List Value) (i : InstP) (P : Option Addr) (pc : Nat) (xs : List Int) (w : World) (hT : Tab w ∧ Ten w) (H : RInst w vs i) (_ : InstOk i) (hP : RdI w P xs) (ix : Ints xs) (lx : xs.length ≤ pc) (lc : pc ≤ maxLen) :
    Calls Tryd.prog 4 #[.agg (List.toArray vs), .slice P xs.length pc] w fun e w' => e = .returned (.bool true) ∧ Ext w w' := walk_all i (copyP i) rfl vs P pc xs w hT.2 H hP ix lx lc
set_option maxRecDepth 100000 in
theorem lifted (os : Os) (started : os.Started) (H : Type) (enc : TypeId × Value → H) :
    ReturnsInHanded {} Tryd.checked os 4 .any (fun w args => (Rows.showAnswersSpec.pre enc Tryd.prog Tryd.f4 Rows.showAnswersRow.domain false w args ∧ laidMetH Tryd.prog tabM w) ∧ sizedMet enc Tryd.prog Tryd.f4 (OpenSpec.ofChange Rows.showAnswersSpec) false w args) (Rows.showAnswersSpec.post enc Tryd.prog Tryd.f4 false true false false) := by
  refine returnsInHanded_of_change_and (C := Tryd.checked) (X := fun w _ => laidMetH Tryd.prog tabM w) (fun _ _ _ hh h => h.of_heap hh) own started (by kernel_rfl) Tryd.func4
    (ChangeSpec.witness_shaped (enc := enc) (C := Tryd.checked) (os := os) (X := fun w _ => laidMetH Tryd.prog tabM w) false (World.laidAll Tryd.prog os tabM) #[.agg #[.int .i64 0, .int .i64 0, .int .i64 0, .slice none 0 0, .slice none 0 0, .slice none 0 0], .slice none 0 0] 8 (World.laidAll_os _ _ _)
      (World.shaped_of_ZipB (by kernel_rfl) (by kernel_rfl)) (by kernel_rfl) (by kernel_rfl) (by kernel_rfl)
      (by rw [MakeChecks.laidMetH_plain _ _ _ (by kernel_rfl)]; exact laidMet_laidAll _ (by kernel_rfl) (by kernel_rfl))) ?_
  intro W base args ds gs before hval0 hW _ _ hL _
  have hval : ∀ (j : Nat) t v, Tryd.f4.params[j]? = some t → args[j]? = some v → Value.okWide Tryd.prog W .any base t v := hval0
  have hW' := hW
  obtain ⟨p, q, hA0, hV, rfl, hfz, hnd⟩ := hW
  have hA : DataW.TrodAll enc Tryd.prog W 0 (fun _ => true) true Tryd.f4.params.toList args.toList ds p := hA0
  rw [Tryd.params4] at hA hval
  obtain ⟨v0, vs0, d0, ds0, p0, q0, hargs, rfl, rfl, h0, r0⟩ := trodAll_cons hA
  obtain ⟨v1, vs1, d1, ds1, p1, q1, rfl, rfl, rfl, h1, r1⟩ := trodAll_cons r0
  obtain ⟨rfl, rfl, rfl⟩ := trodAll_nil r1
  obtain rfl : args = #[v0, v1] := by cases args; simp_all
  obtain ⟨rfl, rfl⟩ := trodVars_none hV
  obtain ⟨y0, x0, rfl, hx0, ix0⟩ := open_Inst h0 (hval 0 _ v0 rfl rfl)
  obtain ⟨A1, x1, c1, rfl, hx1, ix1, lx1, lc1⟩ := open_RdI h1 (hval 1 _ v1 rfl rfl)
  refine (walk y0 x0 A1 c1 x1 W (tabs_of_laid hL) hx0 ix0 hx1 ix1 lx1 lc1).mono fun e W' ⟨he, hg⟩ => ?_
  subst he
  exact ⟨_, rfl, post_law hW' rfl rfl rfl rfl rfl (readable_of (by kernel_rfl)) hg⟩
theorem row : Rows.ShowAnswersSaid :=
  OpenClaim.holds_of_wide 4 Tryd.f4 rfl rfl rfl rfl rfl rfl rfl ⟨rfl, rfl, rfl, rfl, rfl⟩ rfl rfl rfl rfl rfl (by kernel_rfl) Tryd.func4 (by kernel_rfl)
    (of_decide_eq_true (by kernel_rfl)) (by unfold Func.isWrapper; first | (rw [if_pos (by decide +kernel)]; kernel_rfl) | (rw [if_neg (by decide +kernel)]; exact ⟨rfl, rfl⟩))
    (fun os started H enc _ => lifted os started H enc)
theorem proved : Rows.ShowAnswersCardSaid :=
  Claim7.holds_tied_plain_at .later [] [.data, .data, .data] true Rows.showAnswersCard.stood.harness false row (fun _ h => by cases h) (by kernel_rfl) (fun _ h => by cases h) showAnswers_row_tie rfl ⟨rfl, rfl⟩ (by kernel_rfl) rfl
    (fun f fn hf hfn => by
      obtain rfl : f = 4 := Option.some.inj ((show Tryd.prog.funcNamed "kurgan/kurganlaw34.ShowAnswers" = some 4 by kernel_rfl).symm.trans hf) |>.symm
      obtain rfl : fn = Tryd.f4 := (Option.some.inj (Tryd.func4.symm.trans hfn)).symm
      exact ⟨by kernel_rfl, fun j t ht => by
        rw [Tryd.params4] at ht
        have hm : t ∈ [25, 22] := by simpa using Array.mem_of_getElem? ht
        have hall : ([25, 22].all fun u => !Tryd.prog.wantsStandIn u) = true := by kernel_rfl
        exact (show Tryd.prog.wantsStandIn t = false by simpa using List.all_eq_true.1 hall t hm)⟩)
    (by kernel_rfl)
end Go.Proofs.YtleckhbmciiooaaDoor.showAnswers
