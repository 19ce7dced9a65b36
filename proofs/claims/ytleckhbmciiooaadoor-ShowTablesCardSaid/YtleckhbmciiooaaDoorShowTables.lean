/-
  ShowTables: of all problems the columns are told; each line is as long as any other one.
-/
import Derived.Test.YtleckhbmciiooaaDoorShowTablesP3
import Derived.Test.YtleckhbmciiooaaDoorRows
import Derived.Test.YtleckhbmciiooaaDoorCards
import Derived.Test.YtleckhbmciiooaaDoorTie
import Derived.Test.YtleckhbmciiooaaDoorChecked
namespace Go.Proofs.YtleckhbmciiooaaDoor.showTables
open Go.RowKit Go.ChangeShapes Go.WideShapes Go.ChangeAt Go.Deep

set_option maxRecDepth 100000 in
set_option maxHeartbeats 2000000 in
theorem rtable_no (i : InstP) (us0 : List Value) (w : World) (H : RInst w us0 i) (hc : checkP i ≠ 0) :
    Calls Tryd.prog 19 #[.agg (List.toArray us0)] w fun e w' => e = .returned (.tuple #[txS [], .int .i64 (checkP i)]) ∧ Ext w w' := by
  have CH := fun (W : World) (x : Ext w W) => rcheck_any i us0 W (H.ext x)
  generalize checkP i = ee at *
  have e1 : (ee != 0) = true := by simpa using hc
  replace CH := Lib.hid CH
  clear hc
  obtain ⟨A, a, B, b, C, c, rfl, -, -, -⟩ := H
  unfold txS
  go_enter Tryd.func19, Tryd.ntmps19
  go_wp2_with (fail)
  refine (CH.out _ (by (repeat (first | assumption | exact Ext.rf _ | apply Ext.drew | apply Ext.drewN | apply Ext.alloc)))).mono ?_
  rintro e w1 ⟨rfl, x1⟩
  have X1 := Lib.hid (Ext.tr (a := w) (by (repeat (first | assumption | exact Ext.rf _ | apply Ext.drew | apply Ext.drewN | apply Ext.alloc))) x1)
  clear x1
  go_wp2_with (fail)
  go_ret2
  exact ⟨rfl, X1.out⟩
theorem rtable_any (i : InstP) (us0 : List Value) (w : World) (H : RInst w us0 i) :
    Calls Tryd.prog 19 #[.agg (List.toArray us0)] w fun e w' => e = .returned (.tuple #[txS (tabG i).1, .int .i64 (tabG i).2]) ∧ Ext w w' := by
  unfold tabG
  by_cases hc : checkP i = 0
  · rw [if_pos hc]
    exact rtable_yes i us0 w H hc
  · rw [if_neg hc]
    exact rtable_no i us0 w H hc
theorem tab_breaks (i : InstP) : (tabG i).1.length ≤ 100000 ∧ ∃ M : Nat, ∀ (p : Nat) (c : UInt8), (tabG i).1[p]? = some c → (c = 10 ↔ p % (M + 1) = M) := by
  unfold tabG
  by_cases hc : checkP i = 0
  · rw [if_pos hc]
    obtain ⟨m, RI⟩ := rows_is hc
    refine ⟨?_, m * wideL (rowsL i) + (m - 1), fun p c h => table_breaks RI.row h⟩
    have h1 := RI.lines (rowsL i).length
    rw [List.take_length] at h1
    have h2 := RI.n1
    show (linesT (wideL (rowsL i)) (rowsL i)).length ≤ 100000
    omega
  · rw [if_neg hc]
    exact ⟨by simp, 0, fun p c h => by simp at h⟩
/-- what stays: the problem in its place -/
structure StI (w : World) (vs : List Value) (j : InstP) (wr : World) : Prop where
  x : Ext w wr
  b : Blk wr w.heap.size 25 (List.toArray vs)
  r : RInst wr vs j
theorem StI.ext {w : World} {vs : List Value} {j : InstP} {wr wr' : World} (h : StI w vs j wr) (x : Ext wr wr') : StI w vs j wr' := ⟨h.x.tr x, h.b.ext x, h.r.ext x⟩
set_option maxRecDepth 100000 in
set_option maxHeartbeats 4000000 in
theorem walk_all (i j : InstP) (hj : j = copyP i) (vs : List Value) (w : World) (hT : Ten w) (H : RInst w vs i) :
    Calls Tryd.prog 5 #[.agg (List.toArray vs)] w fun e w' => e = .returned (.bool true) ∧ Ext w w' := by
  have CP := fun (W : World) (x : Ext w W) => copy_to hj vs W (H.ext x)
  have hI : InstInts j := hj ▸ H.ints.copy
  have LW : j.weight.length ≤ 1000000000 := by have := (copyP_lens i).1; rw [← hj] at this; omega
  have LV : j.value.length ≤ 1000000000 := by have := (copyP_lens i).2.1; rw [← hj] at this; omega
  have TA := fun (us : List Value) (W : World) (x : Ext w W) (h : RInst W us j) => table_any j us W h LW LV (hT.ext x)
  have RA := fun (us : List Value) (W : World) (h : RInst W us j) => rtable_any j us W h
  obtain ⟨hS, M, hM⟩ := tab_breaks j
  obtain ⟨sa, hsa⟩ : ∃ sa, (tabG j).1 = sa := ⟨_, rfl⟩
  obtain ⟨ea, hea⟩ : ∃ ea, (tabG j).2 = ea := ⟨_, rfl⟩
  rw [hsa, hea] at TA RA
  rw [hsa] at hS hM
  unfold txS at TA RA
  clear hj hsa hea LW LV
  replace hM := Lib.hid hM
  obtain ⟨A, a, B, b, C, c, rfl, -, -, -⟩ := H
  have B1 : Hid (Blk (w.alloc (.cells #[.int .i64 i.kind, .int .i64 i.n, .int .i64 i.cap, .slice A i.weight.length a, .slice B i.value.length b, .slice C i.cost.length c] 25)) w.heap.size 25 #[.int .i64 i.kind, .int .i64 i.n, .int .i64 i.cap, .slice A i.weight.length a, .slice B i.value.length b, .slice C i.cost.length c]) := .new rfl
  replace CP := Lib.hid CP
  replace TA := Lib.hid TA
  replace RA := Lib.hid RA
  go_enter Tryd.func5, Tryd.ntmps5
  go_wp2_with (fail)
  refine (CP.out _ (by (repeat (first | assumption | exact Ext.rf _ | apply Ext.drew | apply Ext.drewN | apply Ext.alloc)))).mono ?_
  rintro e w2 ⟨us, rfl, O2, x2⟩
  obtain ⟨A3, l3, d3, A4, l4, d4, A5, l5, d5, rfl⟩ := O2.six
  have X2 := Ext.tr (a := w) (by (repeat (first | assumption | exact Ext.rf _ | apply Ext.drew | apply Ext.drewN | apply Ext.alloc))) x2
  have B2 := B1.out.ext x2
  obtain ⟨X3, B3, O3⟩ := put_copy B2 X2 O2
  have S3 := Lib.hid (StI.mk X3 B3 (O3.rinst hI))
  have t0 : w2.cell? ⟨w.heap.size, 0, none⟩ = some (.int .i64 i.kind) := B2.cell 0
  have t1 : w2.cell? ⟨w.heap.size, 1, none⟩ = some (.int .i64 i.n) := B2.cell 1
  have t2 : w2.cell? ⟨w.heap.size, 2, none⟩ = some (.int .i64 i.cap) := B2.cell 2
  have t3 : w2.cell? ⟨w.heap.size, 3, none⟩ = some (.slice A i.weight.length a) := B2.cell 3
  have t4 : w2.cell? ⟨w.heap.size, 4, none⟩ = some (.slice B i.value.length b) := B2.cell 4
  have t5 : w2.cell? ⟨w.heap.size, 5, none⟩ = some (.slice C i.cost.length c) := B2.cell 5
  have f0 := B2.free 0
  have f1 := B2.free 1
  have f2 := B2.free 2
  have f3 := B2.free 3
  have f4 := B2.free 4
  have f5 := B2.free 5
  clear O2 x2 X2 B2 X3 B3 O3
  go_upto_region 2 with (fail)
  generalize ((((((w2.setCell ⟨w.heap.size, 0, none⟩ (.int .i64 j.kind)).setCell ⟨w.heap.size, 1, none⟩ (.int .i64 j.n)).setCell ⟨w.heap.size, 2, none⟩ (.int .i64 j.cap)).setCell ⟨w.heap.size, 3, none⟩ (.slice A3 l3 d3)).setCell ⟨w.heap.size, 4, none⟩ (.slice A4 l4 d4)).setCell ⟨w.heap.size, 5, none⟩ (.slice A5 l5 d5)) = w3 at *
  clear t0 t1 t2 t3 t4 t5 f0 f1 f2 f3 f4 f5
  have t0 : w3.cell? ⟨w.heap.size, 0, none⟩ = some (.int .i64 j.kind) := S3.out.b.cell 0
  have t1 : w3.cell? ⟨w.heap.size, 1, none⟩ = some (.int .i64 j.n) := S3.out.b.cell 1
  have t2 : w3.cell? ⟨w.heap.size, 2, none⟩ = some (.int .i64 j.cap) := S3.out.b.cell 2
  have t3 : w3.cell? ⟨w.heap.size, 3, none⟩ = some (.slice A3 l3 d3) := S3.out.b.cell 3
  have t4 : w3.cell? ⟨w.heap.size, 4, none⟩ = some (.slice A4 l4 d4) := S3.out.b.cell 4
  have t5 : w3.cell? ⟨w.heap.size, 5, none⟩ = some (.slice A5 l5 d5) := S3.out.b.cell 5
  go_wp2_with (fail)
  refine (TA.out _ _ S3.out.x S3.out.r).mono ?_
  rintro e w8 ⟨rfl, x8⟩
  have S8 := Lib.hid (S3.out.ext x8)
  clear t0 t1 t2 t3 t4 t5 x8 S3
  have t0 : w8.cell? ⟨w.heap.size, 0, none⟩ = some (.int .i64 j.kind) := S8.out.b.cell 0
  have t1 : w8.cell? ⟨w.heap.size, 1, none⟩ = some (.int .i64 j.n) := S8.out.b.cell 1
  have t2 : w8.cell? ⟨w.heap.size, 2, none⟩ = some (.int .i64 j.cap) := S8.out.b.cell 2
  have t3 : w8.cell? ⟨w.heap.size, 3, none⟩ = some (.slice A3 l3 d3) := S8.out.b.cell 3
  have t4 : w8.cell? ⟨w.heap.size, 4, none⟩ = some (.slice A4 l4 d4) := S8.out.b.cell 4
  have t5 : w8.cell? ⟨w.heap.size, 5, none⟩ = some (.slice A5 l5 d5) := S8.out.b.cell 5
  go_wp2_with (fail)
  refine (RA.out _ _ S8.out.r).mono ?_
  rintro e w9 ⟨rfl, x9⟩
  have X9 := Lib.hid (S8.out.x.tr x9)
  clear t0 t1 t2 t3 t4 t5 x9 S8 TA RA CP
  have e2 : (ea != ea) = false := by simp
  go_wp2_with (fail)
  refine (shows_any _ (hT.ext (X9.out.tr (by (repeat (first | assumption | exact Ext.rf _ | apply Ext.drew | apply Ext.drewN | apply Ext.alloc)))))).mono ?_
  rintro e wa ⟨rfl, xa⟩
  have Xa := Lib.hid (X9.out.tr (Ext.tr (by (repeat (first | assumption | exact Ext.rf _ | apply Ext.drew | apply Ext.drewN | apply Ext.alloc))) xa))
  go_wp2_with (fail)
  go_loopw [7, 8, 9] (fun v7 v8 v9 wr => ∃ (p : Nat) (nn lg : Int), v9 = .int .i64 p ∧ v8 = .int .i64 nn ∧ v7 = .int .i64 lg ∧ p ≤ sa.length ∧ Hid (nn = ((p % (M + 1) : Nat) : Int)) ∧ Hid (lg = -1 ∧ p < M + 1 ∨ lg = (M : Int) ∧ M + 1 ≤ p) ∧ Hid (Ext w wr)) (fun _ _ v _ => sa.length - (intOf v).toNat)
  case atStart => exact ⟨0, 0, -1, rfl, rfl, rfl, by omega, (by simp : (0 : Int) = ((0 % (M + 1) : Nat) : Int)), (.inl ⟨rfl, by omega⟩ : (-1 : Int) = -1 ∧ 0 < M + 1 ∨ (-1 : Int) = (M : Int) ∧ M + 1 ≤ 0), Xa⟩
  case round =>
    obtain ⟨wo, rfl⟩ : ∃ wo : World, wo = wr := ⟨_, rfl⟩
    clear Xa xa X9
    obtain ⟨p, nn, lg, rfl, rfl, rfl, hp, hn, hl, Y⟩ := hrel
    by_cases hlt : p < sa.length
    · have q1 : (p : Int) < (sa.length : Int) := by omega
      obtain ⟨c, hc⟩ : ∃ c, sa[p]? = some c := ⟨_, List.getElem?_eq_getElem hlt⟩
      have hc10 := hM.out p c hc
      have hle : p % (M + 1) ≤ p := Nat.mod_le _ _
      have hb : -1 ≤ nn ∧ nn ≤ 100000 := by have := hn.out; omega
      have hsz : p < (⟨sa.toArray⟩ : ByteArray).size := by simpa [ByteArray.size] using hlt
      have eB : (⟨sa.toArray⟩ : ByteArray)[p]'hsz = c := by
        have h := (List.getElem?_eq_some_iff.1 hc).2
        rw [← h]
        rfl
      by_cases hcc : c = 10
      · have e1 : (((((⟨sa.toArray⟩ : ByteArray)[p]'hsz).toNat : Nat) : Int) != 10) = false := by rw [eB, hcc]; rfl
        have hM1 := hc10.1 hcc
        have hN1 : Hid (((0 : Int)) = (((p + 1) % (M + 1) : Nat) : Int)) := by
          have h : ((0 : Int)) = (((p + 1) % (M + 1) : Nat) : Int) := by
            have : (p + 1) % (M + 1) = 0 := by
              have h := Nat.div_add_mod p (M + 1)
              rw [hM1] at h
              rw [show p + 1 = (M + 1) * (p / (M + 1) + 1) by rw [Nat.mul_add]; omega, Nat.mul_mod_right]
            omega
          exact h
        have hL1 : Hid (nn = -1 ∧ p + 1 < M + 1 ∨ nn = (M : Int) ∧ M + 1 ≤ p + 1) := .inr ⟨by have := hn.out; omega, by omega⟩
        have hnM : nn = (M : Int) := by have := hn.out; omega
        clear hc10 hM1 hc eB hcc hn
        rcases hl.out with ⟨h1, h2⟩ | ⟨h1, h2⟩
        · have g1 : ¬ (0 : Int) ≤ lg := by omega
          clear h1 h2 hl hnM
          go_wp2_with (fail)
          go_roundw
          case rel => exact ⟨p + 1, 0, nn, by go_num, rfl, rfl, by omega, hN1, hL1, Y.out.tr (by (repeat (first | assumption | exact Ext.rf _ | apply Ext.drew | apply Ext.drewN | apply Ext.alloc)))⟩
          case measure => simp [intOf]; omega
        · have g1 : (0 : Int) ≤ lg := by omega
          have g2 : (nn != lg) = false := by simp; omega
          clear h1 h2 hl hnM
          go_wp2_with (fail)
          go_roundw
          case rel => exact ⟨p + 1, 0, nn, by go_num, rfl, rfl, by omega, hN1, hL1, Y.out.tr (by (repeat (first | assumption | exact Ext.rf _ | apply Ext.drew | apply Ext.drewN | apply Ext.alloc)))⟩
          case measure => simp [intOf]; omega
      · have e1 : (((((⟨sa.toArray⟩ : ByteArray)[p]'hsz).toNat : Nat) : Int) != 10) = true := by
          rw [eB]
          have : c.toNat ≠ 10 := fun h => hcc (UInt8.toNat_inj.1 h)
          simp
          omega
        have hM1 : p % (M + 1) ≠ M := fun h => hcc (hc10.2 h)
        have hlt2 := Nat.mod_lt p (show 0 < M + 1 by omega)
        have hN1 : Hid (nn + 1 = (((p + 1) % (M + 1) : Nat) : Int)) := by
          have h : nn + 1 = (((p + 1) % (M + 1) : Nat) : Int) := by
            have : (p + 1) % (M + 1) = p % (M + 1) + 1 := by
              rw [Nat.add_mod, Nat.mod_eq_of_lt (show 1 < M + 1 by omega), Nat.mod_eq_of_lt (by omega)]
            have := hn.out
            omega
          exact h
        have hL1 : Hid (lg = -1 ∧ p + 1 < M + 1 ∨ lg = (M : Int) ∧ M + 1 ≤ p + 1) := by
          have h : lg = -1 ∧ p + 1 < M + 1 ∨ lg = (M : Int) ∧ M + 1 ≤ p + 1 := by
            rcases hl.out with ⟨h1, h2⟩ | ⟨h1, h2⟩
            · refine .inl ⟨h1, ?_⟩
              rw [Nat.mod_eq_of_lt h2] at hM1
              omega
            · exact .inr ⟨h1, by omega⟩
          exact h
        clear hc10 hM1 hc eB hcc hn hl hlt2
        go_wp2_with (fail)
        go_roundw
        case rel => exact ⟨p + 1, nn + 1, lg, by go_num, by go_num, rfl, by omega, hN1, hL1, Y.out.tr (by (repeat (first | assumption | exact Ext.rf _ | apply Ext.drew | apply Ext.drewN | apply Ext.alloc)))⟩
        case measure => simp [intOf]; omega
    · go_wp2_with (fail)
      go_ret
      exact ⟨rfl, Y.out⟩
theorem walk (vs : List Value) (i : InstP) (w : World) (hT : Tab w ∧ Ten w) (H : RInst w vs i) (_ : InstOk i) :
    Calls Tryd.prog 5 #[.agg (List.toArray vs)] w fun e w' => e = .returned (.bool true) ∧ Ext w w' := walk_all i (copyP i) rfl vs w hT.2 H
set_option maxRecDepth 100000 in
theorem lifted (os : Os) (started : os.Started) (H : Type) (enc : TypeId × Value → H) :
    ReturnsInHanded {} Tryd.checked os 5 .any (fun w args => (Rows.showTablesSpec.pre enc Tryd.prog Tryd.f5 Rows.showTablesRow.domain false w args ∧ laidMetH Tryd.prog tabM w) ∧ sizedMet enc Tryd.prog Tryd.f5 (OpenSpec.ofChange Rows.showTablesSpec) false w args) (Rows.showTablesSpec.post enc Tryd.prog Tryd.f5 false true false false) := by
  refine returnsInHanded_of_change_and (C := Tryd.checked) (X := fun w _ => laidMetH Tryd.prog tabM w) (fun _ _ _ hh h => h.of_heap hh) own started (by kernel_rfl) Tryd.func5
    (ChangeSpec.witness_shaped (enc := enc) (C := Tryd.checked) (os := os) (X := fun w _ => laidMetH Tryd.prog tabM w) false (World.laidAll Tryd.prog os tabM) #[.agg #[.int .i64 0, .int .i64 0, .int .i64 0, .slice none 0 0, .slice none 0 0, .slice none 0 0]] 8 (World.laidAll_os _ _ _)
      (World.shaped_of_ZipB (by kernel_rfl) (by kernel_rfl)) (by kernel_rfl) (by kernel_rfl) (by kernel_rfl)
      (by rw [MakeChecks.laidMetH_plain _ _ _ (by kernel_rfl)]; exact laidMet_laidAll _ (by kernel_rfl) (by kernel_rfl))) ?_
  intro W base args ds gs before hval0 hW _ _ hL _
  have hval : ∀ (j : Nat) t v, Tryd.f5.params[j]? = some t → args[j]? = some v → Value.okWide Tryd.prog W .any base t v := hval0
  have hW' := hW
  obtain ⟨p, q, hA0, hV, rfl, hfz, hnd⟩ := hW
  have hA : DataW.TrodAll enc Tryd.prog W 0 (fun _ => true) true Tryd.f5.params.toList args.toList ds p := hA0
  rw [Tryd.params5] at hA hval
  obtain ⟨v0, vs0, d0, ds0, p0, q0, hargs, rfl, rfl, h0, r0⟩ := trodAll_cons hA
  obtain ⟨rfl, rfl, rfl⟩ := trodAll_nil r0
  obtain rfl : args = #[v0] := by cases args; simp_all
  obtain ⟨rfl, rfl⟩ := trodVars_none hV
  obtain ⟨y0, x0, rfl, hx0, ix0⟩ := open_Inst h0 (hval 0 _ v0 rfl rfl)
  refine (walk y0 x0 W (tabs_of_laid hL) hx0 ix0).mono fun e W' ⟨he, hg⟩ => ?_
  subst he
  exact ⟨_, rfl, post_law hW' rfl rfl rfl rfl rfl (readable_of (by kernel_rfl)) hg⟩
theorem row : Rows.ShowTablesSaid :=
  OpenClaim.holds_of_wide 5 Tryd.f5 rfl rfl rfl rfl rfl rfl rfl ⟨rfl, rfl, rfl, rfl, rfl⟩ rfl rfl rfl rfl rfl (by kernel_rfl) Tryd.func5 (by kernel_rfl)
    (of_decide_eq_true (by kernel_rfl)) (by unfold Func.isWrapper; first | (rw [if_pos (by decide +kernel)]; kernel_rfl) | (rw [if_neg (by decide +kernel)]; exact ⟨rfl, rfl⟩))
    (fun os started H enc _ => lifted os started H enc)
theorem proved : Rows.ShowTablesCardSaid :=
  Claim7.holds_tied_plain_at .later [] [.data, .data, .data] true Rows.showTablesCard.stood.harness false row (fun _ h => by cases h) (by kernel_rfl) (fun _ h => by cases h) showTables_row_tie rfl ⟨rfl, rfl⟩ (by kernel_rfl) rfl
    (fun f fn hf hfn => by
      obtain rfl : f = 5 := Option.some.inj ((show Tryd.prog.funcNamed "kurgan/kurganlaw34.ShowTables" = some 5 by kernel_rfl).symm.trans hf) |>.symm
      obtain rfl : fn = Tryd.f5 := (Option.some.inj (Tryd.func5.symm.trans hfn)).symm
      exact ⟨by kernel_rfl, fun j t ht => by
        rw [Tryd.params5] at ht
        have hm : t ∈ [25] := by simpa using Array.mem_of_getElem? ht
        have hall : ([25].all fun u => !Tryd.prog.wantsStandIn u) = true := by kernel_rfl
        exact (show Tryd.prog.wantsStandIn t = false by simpa using List.all_eq_true.1 hall t hm)⟩)
    (by kernel_rfl)
end Go.Proofs.YtleckhbmciiooaaDoor.showTables
