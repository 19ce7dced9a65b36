/-
  KurganScales: when all that is paid is so many times as much, the best answer costs so many times as much; an item that has no room changes nothing.
-/
import Derived.Test.YtleckhbmciiooaaDoorKurganScalesP4
import Derived.Test.YtleckhbmciiooaaDoorRows
import Derived.Test.YtleckhbmciiooaaDoorCards
import Derived.Test.YtleckhbmciiooaaDoorTie
import Derived.Test.YtleckhbmciiooaaDoorChecked
namespace Go.Proofs.YtleckhbmciiooaaDoor.kurganScales
open Go.RowKit Go.ChangeShapes Go.WideShapes Go.ChangeAt Go.Deep

set_option maxRecDepth 100000 in
set_option maxHeartbeats 2000000 in
theorem walk_no (i : InstP) (vs : List Value) (z0 : Int) (w : World) (H : RInst w vs i) (lw : i.weight.length ≤ maxLen) (lv : i.value.length ≤ maxLen) (lwv : i.weight.length + i.value.length ≤ maxLen) (hf : fewP i = false) :
    Calls Tryd.prog 3 #[.agg (List.toArray vs), .int .i64 z0] w fun e w' => e = .returned (.bool true) ∧ Ext w w' := by
  have FE := fun (W : World) (x : Ext w W) => few_any i vs W (H.ext x) lw lv lwv
  rw [hf] at FE
  obtain ⟨A, a, B, b, C, c, rfl, -, -, -⟩ := H
  have B1 : Hid (Blk (w.alloc (.cells #[.int .i64 i.kind, .int .i64 i.n, .int .i64 i.cap, .slice A i.weight.length a, .slice B i.value.length b, .slice C i.cost.length c] 25)) w.heap.size 25 #[.int .i64 i.kind, .int .i64 i.n, .int .i64 i.cap, .slice A i.weight.length a, .slice B i.value.length b, .slice C i.cost.length c]) := .new rfl
  replace FE := Lib.hid FE
  clear lw lv lwv hf
  go_enter Tryd.func3, Tryd.ntmps3
  go_wp2_with (fail)
  refine (stands_any _).mono ?_
  rintro e w1 ⟨rfl, x1⟩
  have X1 := Lib.hid (Ext.tr (a := w) (by (repeat (first | assumption | exact Ext.rf _ | apply Ext.drew | apply Ext.drewN | apply Ext.alloc))) x1)
  have b1 := Lib.hid (B1.out.ext x1)
  have t0 : w1.cell? ⟨w.heap.size, 0, none⟩ = some (.int .i64 i.kind) := b1.out.cell 0
  have t1 : w1.cell? ⟨w.heap.size, 1, none⟩ = some (.int .i64 i.n) := b1.out.cell 1
  have t2 : w1.cell? ⟨w.heap.size, 2, none⟩ = some (.int .i64 i.cap) := b1.out.cell 2
  have t3 : w1.cell? ⟨w.heap.size, 3, none⟩ = some (.slice A i.weight.length a) := b1.out.cell 3
  have t4 : w1.cell? ⟨w.heap.size, 4, none⟩ = some (.slice B i.value.length b) := b1.out.cell 4
  have t5 : w1.cell? ⟨w.heap.size, 5, none⟩ = some (.slice C i.cost.length c) := b1.out.cell 5
  clear x1 B1
  go_wp2_with (fail)
  refine (FE.out _ X1.out).mono ?_
  rintro e w2 ⟨rfl, x2⟩
  have X2 := Lib.hid (X1.out.tr x2)
  clear x2 X1 t0 t1 t2 t3 t4 t5
  go_wp2_with (fail)
  refine (stands_any _).mono ?_
  rintro e w3 ⟨rfl, x3⟩
  go_wp2_with (fail)
  go_ret
  exact ⟨rfl, X2.out.tr x3⟩
set_option maxRecDepth 100000 in
set_option maxHeartbeats 2000000 in
theorem walk_yes (i : InstP) (vs : List Value) (z0 : Int) (w : World) (hT : Tab w) (H : RInst w vs i) (hf : fewP i = true) :
    Calls Tryd.prog 3 #[.agg (List.toArray vs), .int .i64 z0] w fun e w' => e = .returned (.bool true) ∧ Ext w w' := by
  obtain ⟨hc, ht0, h8⟩ := few_takes hf
  have SZ : i.weight.length ≤ 64 ∧ i.value.length ≤ 64 ∧ i.cost.length ≤ 24 ∧ (∀ r ∈ i.cost, r.length ≤ 24) := by
    rcases check_kind hc with h | h | h
    · have ok := knap_ok hc h
      have := ok.w; have := ok.v; have := ok.n2
      rw [ok.cost]
      refine ⟨by omega, by omega, by simp, by simp⟩
    all_goals
      have sq := square_ok hc (by omega)
      have rok := rows_ok sq
      have e1 := sq.w
      have e2 := sq.v
      have := rok.n2
      refine ⟨by rw [e1]; simp, by rw [e2]; simp, rok.n2, fun r hr => by have := rok.row r hr; omega⟩
  obtain ⟨lw, lv, lc, lr⟩ := SZ
  have FE := fun (W : World) (x : Ext w W) => few_any i vs W (H.ext x) (by simp only [maxLen]; omega) (by simp only [maxLen]; omega) (by simp only [maxLen]; omega)
  rw [hf] at FE
  have hI := H.ints
  have CP := fun (us : List Value) (W : World) (h : RInst W us i) => icopyd_any i us W h (by omega) (by omega) (by omega) (fun r hr => by have := lr r hr; omega)
  have BX := fun (us : List Value) (W : World) (h : RInst W us i) (x : Ext w W) => best_ex i us W h (by omega) (by omega) (hT.ext x)
  rw [ht0] at BX
  have HR := H
  obtain ⟨A, a, B, b, C, c, rfl, -, -, -⟩ := H
  have B1 : Hid (Blk (w.alloc (.cells #[.int .i64 i.kind, .int .i64 i.n, .int .i64 i.cap, .slice A i.weight.length a, .slice B i.value.length b, .slice C i.cost.length c] 25)) w.heap.size 25 #[.int .i64 i.kind, .int .i64 i.n, .int .i64 i.cap, .slice A i.weight.length a, .slice B i.value.length b, .slice C i.cost.length c]) := .new rfl
  replace FE := Lib.hid FE
  replace CP := Lib.hid CP
  replace BX := Lib.hid BX
  replace HR := Lib.hid HR
  replace hc := Lib.hid hc
  replace lr := Lib.hid lr
  clear hf ht0
  go_enter Tryd.func3, Tryd.ntmps3
  go_wp2_with (fail)
  refine (stands_any _).mono ?_
  rintro e w1 ⟨rfl, x1⟩
  have X1 := Lib.hid (Ext.tr (a := w) (by (repeat (first | assumption | exact Ext.rf _ | apply Ext.drew | apply Ext.drewN | apply Ext.alloc))) x1)
  have b1 := Lib.hid (B1.out.ext x1)
  have t0 : w1.cell? ⟨w.heap.size, 0, none⟩ = some (.int .i64 i.kind) := b1.out.cell 0
  have t1 : w1.cell? ⟨w.heap.size, 1, none⟩ = some (.int .i64 i.n) := b1.out.cell 1
  have t2 : w1.cell? ⟨w.heap.size, 2, none⟩ = some (.int .i64 i.cap) := b1.out.cell 2
  have t3 : w1.cell? ⟨w.heap.size, 3, none⟩ = some (.slice A i.weight.length a) := b1.out.cell 3
  have t4 : w1.cell? ⟨w.heap.size, 4, none⟩ = some (.slice B i.value.length b) := b1.out.cell 4
  have t5 : w1.cell? ⟨w.heap.size, 5, none⟩ = some (.slice C i.cost.length c) := b1.out.cell 5
  clear x1 B1
  go_wp2_with (fail)
  refine (FE.out _ X1.out).mono ?_
  rintro e w2 ⟨rfl, x2⟩
  have X2 := Lib.hid (X1.out.tr x2)
  have b2 := Lib.hid (b1.out.ext x2)
  clear x2 X1 b1 t0 t1 t2 t3 t4 t5 FE
  have t0 : w2.cell? ⟨w.heap.size, 0, none⟩ = some (.int .i64 i.kind) := b2.out.cell 0
  have t1 : w2.cell? ⟨w.heap.size, 1, none⟩ = some (.int .i64 i.n) := b2.out.cell 1
  have t2 : w2.cell? ⟨w.heap.size, 2, none⟩ = some (.int .i64 i.cap) := b2.out.cell 2
  have t3 : w2.cell? ⟨w.heap.size, 3, none⟩ = some (.slice A i.weight.length a) := b2.out.cell 3
  have t4 : w2.cell? ⟨w.heap.size, 4, none⟩ = some (.slice B i.value.length b) := b2.out.cell 4
  have t5 : w2.cell? ⟨w.heap.size, 5, none⟩ = some (.slice C i.cost.length c) := b2.out.cell 5
  have ez : wrap64 (1 + wrap64 ((IntKind.u64.wrap z0).tmod 50)) = 1 + (IntKind.u64.wrap z0).tmod 50 ∧ 0 ≤ (IntKind.u64.wrap z0).tmod 50 ∧ (IntKind.u64.wrap z0).tmod 50 ≤ 49 := by
    have h1 : 0 ≤ IntKind.u64.wrap z0 := by
      simp only [IntKind.wrap, IntKind.signed, IntKind.bits]
      simp
      omega
    have h2 : 0 ≤ (IntKind.u64.wrap z0).tmod 50 ∧ (IntKind.u64.wrap z0).tmod 50 ≤ 49 := by
      rw [Int.tmod_eq_emod_of_nonneg h1]
      omega
    rw [IntWalk.wrap64_in ((IntKind.u64.wrap z0).tmod 50) ⟨by omega, by omega⟩, IntWalk.wrap64_in _ ⟨by omega, by omega⟩]
    exact ⟨rfl, h2⟩
  obtain ⟨z, hz⟩ : ∃ z, Hid (1 + (IntKind.u64.wrap z0).tmod 50 = z) := ⟨_, rfl⟩
  replace ez := Lib.hid ez
  go_upto_region 4 with (fail)
  rw [ez.out.1, hz.out]
  have hz1 : 1 ≤ z ∧ z ≤ 50 := by have h1 := ez.out; have h2 := hz.out; omega
  clear ez hz
  go_wp2_with (fail)
  refine (CP.out _ _ (HR.out.ext X2.out)).mono ?_
  rintro e w3 ⟨A3, c3, B3, d3, C3, e3, us3, rfl, oA, oB, dj, oC, rO, rD, x3⟩
  have X3 := X2.out.tr x3
  have b3 := b2.out.ext x3
  clear t0 t1 t2 t3 t4 t5
  have t0 : w3.cell? ⟨w.heap.size, 0, none⟩ = some (.int .i64 i.kind) := b3.cell 0
  have t1 : w3.cell? ⟨w.heap.size, 1, none⟩ = some (.int .i64 i.n) := b3.cell 1
  have t2 : w3.cell? ⟨w.heap.size, 2, none⟩ = some (.int .i64 i.cap) := b3.cell 2
  have t3 : w3.cell? ⟨w.heap.size, 3, none⟩ = some (.slice A i.weight.length a) := b3.cell 3
  have t4 : w3.cell? ⟨w.heap.size, 4, none⟩ = some (.slice B i.value.length b) := b3.cell 4
  have t5 : w3.cell? ⟨w.heap.size, 5, none⟩ = some (.slice C i.cost.length c) := b3.cell 5
  have f0 := b3.free 0
  have f1 := b3.free 1
  have f2 := b3.free 2
  have f3 := b3.free 3
  have f4 := b3.free 4
  have f5 := b3.free 5
  obtain ⟨g1, g2⟩ := set6 b3 (base := w.heap.size) (Nat.le_refl _) (.int .i64 i.kind) (.int .i64 i.n) (.int .i64 i.cap) (.slice A3 i.weight.length c3) (.slice B3 i.value.length d3) (.slice C3 i.cost.length e3)
  have P4 := Lib.hid ((Prt.mk oA oB dj oC rO rD).modT g2 (by decide) (by decide))
  have X4 := Lib.hid (X3.modT g2 (Nat.le_refl _))
  have b4 := Lib.hid g1
  have z2 := Lib.hid X2.out.size
  clear oA oB dj oC rO rD x3 X3 b3 g1 g2 X2 b2
  go_upto_region 5 with (fail)
  generalize ((((((w3.setCell ⟨w.heap.size, 0, none⟩ (.int .i64 i.kind)).setCell ⟨w.heap.size, 1, none⟩ (.int .i64 i.n)).setCell ⟨w.heap.size, 2, none⟩ (.int .i64 i.cap)).setCell ⟨w.heap.size, 3, none⟩ (.slice A3 i.weight.length c3)).setCell ⟨w.heap.size, 4, none⟩ (.slice B3 i.value.length d3)).setCell ⟨w.heap.size, 5, none⟩ (.slice C3 i.cost.length e3)) = w4 at *
  clear t0 t1 t2 t3 t4 t5 f0 f1 f2 f3 f4 f5
  have t0 : w4.cell? ⟨w.heap.size, 0, none⟩ = some (.int .i64 i.kind) := b4.out.cell 0
  have t1 : w4.cell? ⟨w.heap.size, 1, none⟩ = some (.int .i64 i.n) := b4.out.cell 1
  have t2 : w4.cell? ⟨w.heap.size, 2, none⟩ = some (.int .i64 i.cap) := b4.out.cell 2
  have t3 : w4.cell? ⟨w.heap.size, 3, none⟩ = some (.slice A3 i.weight.length c3) := b4.out.cell 3
  have t4 : w4.cell? ⟨w.heap.size, 4, none⟩ = some (.slice B3 i.value.length d3) := b4.out.cell 4
  have t5 : w4.cell? ⟨w.heap.size, 5, none⟩ = some (.slice C3 i.cost.length e3) := b4.out.cell 5
  go_wp2_with (fail)
  refine (BX.out _ _ (P4.out.rinst hI) X4.out).mono ?_
  intro e w5 hp
  clear t0 t1 t2 t3 t4 t5
  rcases hp with ⟨hne, -⟩ | ⟨-, A9, x9, c9, v, rfl, r9, a9, -, -, x5⟩
  · exact absurd rfl hne
  have bdv := ans_bd hc.out h8 a9
  replace a9 := Lib.hid a9
  have X5 := Lib.hid (X4.out.tr x5)
  have P5 := Lib.hid (P4.out.ext x5)
  have b5 := Lib.hid (b4.out.ext x5)
  clear x5 r9 X4 P4 b4
  generalize hl9 : x9.length = n9
  clear hl9
  have t0 : w5.cell? ⟨w.heap.size, 0, none⟩ = some (.int .i64 i.kind) := b5.out.cell 0
  have t1 : w5.cell? ⟨w.heap.size, 1, none⟩ = some (.int .i64 i.n) := b5.out.cell 1
  have t2 : w5.cell? ⟨w.heap.size, 2, none⟩ = some (.int .i64 i.cap) := b5.out.cell 2
  have t3 : w5.cell? ⟨w.heap.size, 3, none⟩ = some (.slice A3 i.weight.length c3) := b5.out.cell 3
  have t4 : w5.cell? ⟨w.heap.size, 4, none⟩ = some (.slice B3 i.value.length d3) := b5.out.cell 4
  have t5 : w5.cell? ⟨w.heap.size, 5, none⟩ = some (.slice C3 i.cost.length e3) := b5.out.cell 5
  go_wp2_with (fail)
  refine (CP.out _ _ (P5.out.rinst hI)).mono ?_
  rintro e w6 ⟨A4, c4, B4, d4, C4, e4, us4, rfl, oA, oB, dj, oC, rO, rD, x6⟩
  have P6 := Lib.hid (Prt.mk oA oB dj oC rO rD)
  clear oA oB dj oC rO rD t0 t1 t2 t3 t4 t5 CP
  go_upto_region 7 with (fail)
  have b7 : Blk (w6.alloc (.cells #[.int .i64 i.kind, .int .i64 i.n, .int .i64 i.cap, .slice A4 i.weight.length c4, .slice B4 i.value.length d4, .slice C4 i.cost.length e4] 25)) w6.heap.size 25 #[.int .i64 i.kind, .int .i64 i.n, .int .i64 i.cap, .slice A4 i.weight.length c4, .slice B4 i.value.length d4, .slice C4 i.cost.length e4] := .new rfl
  have y7 : Ext w5 (w6.alloc (.cells #[.int .i64 i.kind, .int .i64 i.n, .int .i64 i.cap, .slice A4 i.weight.length c4, .slice B4 i.value.length d4, .slice C4 i.cost.length e4] 25)) := x6.tr ((Ext.rf _).alloc _)
  have P7 := Lib.hid (P6.out.ext ((Ext.rf w6).alloc (.cells #[.int .i64 i.kind, .int .i64 i.n, .int .i64 i.cap, .slice A4 i.weight.length c4, .slice B4 i.value.length d4, .slice C4 i.cost.length e4] 25)))
  have zj : w5.heap.size ≤ w6.heap.size := x6.size
  replace b7 := Lib.hid b7
  replace y7 := Lib.hid y7
  clear P6 x6
  generalize w6.alloc (.cells #[.int .i64 i.kind, .int .i64 i.n, .int .i64 i.cap, .slice A4 i.weight.length c4, .slice B4 i.value.length d4, .slice C4 i.cost.length e4] 25) = w7 at *
  obtain ⟨gj, hgj⟩ : ∃ gj, Hid (w6.heap.size = gj) := ⟨_, rfl⟩
  rw [hgj.out] at b7 zj ⊢
  clear hgj
  clear w6
  have CK := Lib.hid (fun (us : List Value) (W : World) (h : RInst W us (scaleI z i)) => check_any (scaleI z i) us W h (by simp only [scaleI]; omega) (by simp only [scaleI, List.length_map]; omega))
  have BJ := Lib.hid (fun (us : List Value) (W : World) (h : RInst W us (scaleI z i)) (x : Ext w W) => best_ex (scaleI z i) us W h (by simp only [scaleI]; omega) (by simp only [scaleI, List.length_map]; omega) (hT.ext x))
  have wz : IntKind.i64.wrap (v * z) = v * z := IntWalk.i64_in _ (by
    have h1 : 0 ≤ v * z := Int.mul_nonneg bdv.1 (by omega)
    have h2 : v * z ≤ v * 50 := Int.mul_le_mul_of_nonneg_left hz1.2 bdv.1
    omega)
  have JW : Hid (∀ W : World, RdI W B4 (i.value.map (· * z)) → RdE 1 RInts W C4 (i.cost.map fun r => r.map (· * z)) → (RdI W A4 i.weight ∧ i.weight.length ≤ c4 ∧ c4 ≤ maxLen) → (i.value.length ≤ d4 ∧ d4 ≤ maxLen) → (i.cost.length ≤ e4 ∧ e4 ≤ maxLen) → Ints (i.value.map (· * z)) → RInst W [.int .i64 i.kind, .int .i64 i.n, .int .i64 i.cap, .slice A4 i.weight.length c4, .slice B4 i.value.length d4, .slice C4 i.cost.length e4] (scaleI z i)) := fun W h1 h2 h3 h4 h5 h6 =>
    ⟨A4, c4, B4, d4, C4, e4, by simp [scaleI], ⟨h3.1, hI.1, h3.2.1, h3.2.2⟩, ⟨h1, h6, by simpa [scaleI] using h4.1, h4.2⟩, ⟨h2, by simpa [scaleI] using h5.1, h5.2⟩⟩
  by_cases hk1 : i.kind = 1
  · have ek1 : (i.kind != 1) = false := by simp [hk1]
    have oc : i.cost = [] := (knap_ok hc.out hk1).cost
    have lv9 : (i.value.length : Int) = i.n := (knap_ok hc.out hk1).v
    have sv9 := (knap_ok hc.out hk1).sv
    replace hk1 := Lib.hid hk1
    replace lv9 := Lib.hid lv9
    replace sv9 := Lib.hid sv9
    have oc0 : i.cost.length = 0 := by rw [oc]; rfl
    replace oc := Lib.hid oc
    replace oc0 := Lib.hid oc0
    go_wp2_with (fail)
    go_loopw [9] (fun v9 wr => ∃ k : Nat, v9 = .int .i64 k ∧ k ≤ i.value.length ∧ Hid (OwI wr w5.heap.size B4 d4 (mulTo z k i.value)) ∧ Hid (Mod (fun b => bl B4 = some b) w7 wr)) (fun v9 _ => i.value.length - (intOf v9).toNat)
    case atStart => exact ⟨0, rfl, by omega, by rw [mulTo_zero]; exact P7.out.b, Mod.rf _⟩
    case round =>
      obtain ⟨wo, rfl⟩ : ∃ wo : World, wo = wr := ⟨_, rfl⟩
      obtain ⟨k, rfl, hk, ho, hm⟩ := hrel
      have bo := b7.out.mod hm.out (fun e => P7.out.b.ne b7.out (by decide) _ e rfl)
      by_cases hlt : k < i.value.length
      · have q1 : (k : Int) < (i.value.length : Int) := by omega
        obtain ⟨x, hx⟩ : ∃ x, Hid (i.value[k]? = some x) := ⟨i.value[k], List.getElem?_eq_getElem hlt⟩
        obtain ⟨g, x', hg, hgb, hgl, hc1, hf1, hx1, hs1⟩ := ho.out.at (k := k) (by rw [mulTo_len]; exact hlt)
        obtain rfl : x' = x := by
          have h := hx1.out
          rw [mulTo_at hx.out] at h
          exact (Option.some.inj h).symm
        have bdx := sv9.out x' (List.mem_of_getElem? hx.out)
        have O2 := Lib.hid (hs1.out (x' * z))
        rw [mulTo_set hx.out] at O2
        have M2 := Lib.hid (hm.out.set (p := ⟨g, k, none⟩) (.inl (by rw [hg]; rfl)) (.int .i64 (x' * z)))
        have s4 : wo.cell? ⟨gj, 4, none⟩ = some (.slice (some ⟨g, 0, none⟩) i.value.length d4) := by rw [← hg]; exact bo.cell 4
        obtain ⟨y, hy⟩ : ∃ y, Hid (x' * z = y) := ⟨_, rfl⟩
        have wx : IntKind.i64.wrap (x' * z) = y := (IntWalk.i64_in _ (by
          have h1 : 0 ≤ x' * z := Int.mul_nonneg bdx.1 (by omega)
          have h2 : x' * z ≤ x' * 50 := Int.mul_le_mul_of_nonneg_left hz1.2 bdx.1
          omega)).trans hy.out
        rw [hy.out] at O2 M2
        have hl9 : Hid (k + 1 ≤ i.value.length) := by
          have h9 : k + 1 ≤ i.value.length := hlt
          exact h9
        replace hx := Lib.hid hx
        clear hx1 hs1 ho hm bdx bo hg
        go_wp2_with (fail)
        refine wp_region_any (by kernel_rfl) ?_
        change wpAny _ _ _ _ _ _ _ (World.drew _)
        refine wpAny_T (i := 0) (op := Op.fieldAddr 25 (Operand.tmp 8) 4) (t := 0) (d := some 48) (v := ?_) rfl (by decide +kernel) (by decide +kernel) (by decide +kernel) (fun _ _ _ h => h) ?_ ?_
        case refine_2 => (intro _; unfold exec2; go_simp; try with_reducible rfl)
        try simp only [Act.put, List.setIfInBounds_toArray, List.set_cons_zero, List.set_cons_succ]
        refine wpAny_T (i := 2) (op := Op.move (Operand.tmp 9)) (t := 3) (d := some 50) (v := ?_) rfl (by decide +kernel) (by decide +kernel) (by decide +kernel) (fun _ _ _ h => h) ?_ ?_
        case refine_2 => (intro _; unfold exec2; go_simp; try with_reducible rfl)
        try simp only [Act.put, List.setIfInBounds_toArray, List.set_cons_zero, List.set_cons_succ]
        refine wpAny_T (i := 3) (op := Op.fieldAddr 25 (Operand.tmp 8) 4) (t := 0) (d := some 51) (v := ?_) rfl (by decide +kernel) (by decide +kernel) (by decide +kernel) (fun _ _ _ h => h) ?_ ?_
        case refine_2 => (intro _; unfold exec2; go_simp; try with_reducible rfl)
        try simp only [Act.put, List.setIfInBounds_toArray, List.set_cons_zero, List.set_cons_succ]
        refine wpAny_T (i := 5) (op := Op.move (Operand.tmp 9)) (t := 3) (d := some 53) (v := ?_) rfl (by decide +kernel) (by decide +kernel) (by decide +kernel) (fun _ _ _ h => h) ?_ ?_
        case refine_2 => (intro _; unfold exec2; go_simp; try with_reducible rfl)
        try simp only [Act.put, List.setIfInBounds_toArray, List.set_cons_zero, List.set_cons_succ]
        refine wpAny_T (i := 8) (op := Op.move (Operand.tmp 1)) (t := 3) (d := some 56) (v := ?_) rfl (by decide +kernel) (by decide +kernel) (by decide +kernel) (fun _ _ _ h => h) ?_ ?_
        case refine_2 => (intro _; unfold exec2; go_simp; try with_reducible rfl)
        try simp only [Act.put, List.setIfInBounds_toArray, List.set_cons_zero, List.set_cons_succ]
        refine wpAny_reads2 (n := 2) [(1, some 49), (4, some 52), (6, some 54), (7, some 55), (9, some 57)] (fun | 1 => .slice (some ⟨g, 0, none⟩) i.value.length d4 | 4 => .slice (some ⟨g, 0, none⟩) i.value.length d4 | 6 => .pointer (some ⟨g, k, none⟩) | 7 => .int .i64 x' | 9 => .int .i64 y | _ => undef) #[true, true, true, true, true, true, true, true, true, true, false, false] (by decide +kernel) ?_ ?_
        · intro pS hpm uS hD K hK
          simp only [List.mem_cons, List.not_mem_nil, or_false] at hpm
          rcases hpm with rfl | rfl | rfl | rfl | rfl
          · exact op_ld (T := 22) (x := Operand.tmp 48) (t := 22) (d := some 49) rfl (.pointer (some ⟨gj, 4, none⟩)) (by kernel_rfl) (.slice (some ⟨g, 0, none⟩) i.value.length d4) (by go_simp) hK
          · exact op_ld (T := 22) (x := Operand.tmp 51) (t := 22) (d := some 52) rfl (.pointer (some ⟨gj, 4, none⟩)) (by kernel_rfl) (.slice (some ⟨g, 0, none⟩) i.value.length d4) (by go_simp) hK
          · exact op_ix (T := 22) (x := Operand.tmp 52) (y := Operand.tmp 53) (t := 0) (d := some 54) rfl (.slice (some ⟨g, 0, none⟩) i.value.length d4) (.int .i64 k) (Eq.trans (b := uS 4) (by kernel_rfl) (hD 4 (depIn (by kernel_rfl)))) (by kernel_rfl) (.pointer (some ⟨g, k, none⟩)) (by go_simp) hK
          · exact op_ld (T := 3) (x := Operand.tmp 54) (t := 3) (d := some 55) rfl (.pointer (some ⟨g, k, none⟩)) (Eq.trans (b := uS 6) (by kernel_rfl) (hD 6 (depIn (by kernel_rfl)))) (.int .i64 x') (by go_simp) hK
          · (have e7 : uS 7 = .int .i64 x' := hD 7 (depIn (by kernel_rfl)); exact op_run (op := Op.binOp BinOp.mul 3 (Operand.tmp 55) (Operand.tmp 56) 3) (t := 3) (d := some 57) rfl (.int .i64 y) (by simp only [putAll, Act.put, List.setIfInBounds_toArray, List.set_cons_zero, List.set_cons_succ]; unfold exec2; go_simp; try simp only [e7]; try go_simp) hK)
        simp only [putAll, Act.put, List.setIfInBounds_toArray, List.set_cons_zero, List.set_cons_succ]
        refine wpAny_next 10 (by decide +kernel) (op_ix (T := 22) rfl (.slice (some ⟨g, 0, none⟩) i.value.length d4) (.int .i64 k) (by kernel_rfl) (by kernel_rfl) (.pointer (some ⟨g, k, none⟩)) (by go_simp) ?_)
        try simp only [Act.put, List.setIfInBounds_toArray, List.set_cons_zero, List.set_cons_succ]
        refine wpAny_next 11 (by decide +kernel) (op_st rfl (.pointer (some ⟨g, k, none⟩)) (.int .i64 y) (by kernel_rfl) (by kernel_rfl) (by go_simp; rfl) ?_)
        refine wpAny_done (by kernel_rfl) ?_ _
        go_simp
        go_wp2_with (fail)
        go_roundw
        case rel => exact ⟨k + 1, by go_num, hl9.out, O2.out.ext ((Ext.rf _).drew), M2.out.drew⟩
        case measure => (have h9 := hl9.out; simp [intOf]; omega)
      · have hke : k = i.value.length := by omega
        subst hke
        rw [mulTo_all] at ho
        have q1 : ¬ ((i.value.length : Int) < (i.value.length : Int)) := by omega
        have q2 : ¬ ((0 : Int) < (i.cost.length : Int)) := by have := oc0.out; omega
        have s4 : wo.cell? ⟨gj, 4, none⟩ = some (.slice B4 i.value.length d4) := bo.cell 4
        have s5 : wo.cell? ⟨gj, 5, none⟩ = some (.slice C4 i.cost.length e4) := bo.cell 5
        have Y : Hid (Ext w5 wo) := y7.out.mod hm.out (fun j hj e => by have := (P7.out.b.lt j e).1; omega)
        have bj := Lib.hid bo
        have RJ := Lib.hid (JW.out wo ho.out.read (by rw [oc.out]; exact .inl rfl) ⟨(P7.out.a.mod hm.out (fun g hg e => P7.out.dj g hg e)).read, P7.out.a.le.1, P7.out.a.le.2⟩ (by have := ho.out.le; simpa using this) P7.out.c.le (fun y hy => by
          obtain ⟨x, hx, rfl⟩ := List.mem_map.1 hy
          have bdx := sv9.out x hx
          have h1 : 0 ≤ x * z := Int.mul_nonneg bdx.1 (by omega)
          have h2 : x * z ≤ x * 50 := Int.mul_le_mul_of_nonneg_left hz1.2 bdx.1
          omega))
        clear ho hm bo
        go_wp2_with (fail)
        go_loopw [10] (fun v10 wr => v10 = .int .i64 0 ∧ wr = wo) (fun _ _ => 0)
        case atStart => exact ⟨rfl, rfl⟩
        case round =>
          obtain ⟨rfl, hwr⟩ := hrel
          have hwr' : wo = wr := (show wr = wo from hwr).symm
          clear hwr
          subst hwr'
          go_upto_region 18 with (fail)
          clear s4 s5 q1 q2
          have s0 : wo.cell? ⟨gj, 0, none⟩ = some (.int .i64 i.kind) := bj.out.cell 0
          have s1 : wo.cell? ⟨gj, 1, none⟩ = some (.int .i64 i.n) := bj.out.cell 1
          have s2 : wo.cell? ⟨gj, 2, none⟩ = some (.int .i64 i.cap) := bj.out.cell 2
          have s3 : wo.cell? ⟨gj, 3, none⟩ = some (.slice A4 i.weight.length c4) := bj.out.cell 3
          have s4 : wo.cell? ⟨gj, 4, none⟩ = some (.slice B4 i.value.length d4) := bj.out.cell 4
          have s5 : wo.cell? ⟨gj, 5, none⟩ = some (.slice C4 i.cost.length e4) := bj.out.cell 5
          go_wp2_with (fail)
          refine (CK.out _ _ RJ.out).mono ?_
          rintro e w8 ⟨rfl, x8⟩
          have Y8 := Lib.hid (Y.out.tr x8)
          have RJ8 := Lib.hid (RJ.out.ext x8)
          have bj8 := Lib.hid (bj.out.ext x8)
          obtain ⟨cs, hcs⟩ : ∃ cs, Hid (checkP (scaleI z i) = cs) := ⟨_, rfl⟩
          rw [hcs.out]
          clear s0 s1 s2 s3 s4 s5 x8 Y bj RJ
          go_upto_if 91 with (fail)
          go_cut [] (fun wx => Hid (Ext w5 wx))
          case first =>
            by_cases hc0 : cs = 0
            · have RT : rtakesP (scaleI z i) 0 = 0 := by
                unfold rtakesP
                rw [if_neg (by rw [hcs.out]; simpa using hc0), if_neg (by simp), if_neg]
                have e1 : (scaleI z i).n = i.n := rfl
                rintro (⟨h3, h4⟩ | ⟨h3, h4⟩) <;> omega
              have EX := Lib.hid (BJ.out _ _ RJ8.out (X5.out.tr Y8.out))
              rw [RT] at EX
              have e0 : (cs == 0) = true := by simpa using hc0
              replace hc0 := Lib.hid hc0
              have s0 : w8.cell? ⟨gj, 0, none⟩ = some (.int .i64 i.kind) := bj8.out.cell 0
              have s1 : w8.cell? ⟨gj, 1, none⟩ = some (.int .i64 i.n) := bj8.out.cell 1
              have s2 : w8.cell? ⟨gj, 2, none⟩ = some (.int .i64 i.cap) := bj8.out.cell 2
              have s3 : w8.cell? ⟨gj, 3, none⟩ = some (.slice A4 i.weight.length c4) := bj8.out.cell 3
              have s4 : w8.cell? ⟨gj, 4, none⟩ = some (.slice B4 i.value.length d4) := bj8.out.cell 4
              have s5 : w8.cell? ⟨gj, 5, none⟩ = some (.slice C4 i.cost.length e4) := bj8.out.cell 5
              clear RT
              go_wp2_with (fail)
              refine EX.out.mono ?_
              intro e w10 hp
              rcases hp with ⟨hne, -⟩ | ⟨-, A10, x10, c10, u, rfl, -, a10, -, -, x11⟩
              · exact absurd rfl hne
              obtain rfl : u = v * z := scale_ans (by omega) a9.out a10
              have Y10 := Lib.hid (Y8.out.tr x11)
              have e9 : (v * z != v * z) = false := by simp
              generalize x10.length = n10
              clear EX a10 x11 s0 s1 s2 s3 s4 s5
              go_wp2_with (fail)
              go_meet
              exact Y10
            · have e0 : (cs == 0) = false := by simpa using hc0
              replace hc0 := Lib.hid hc0
              go_wp2_with (fail)
              go_meet
              exact Y8
          case rest =>
          obtain ⟨w12, rfl⟩ : ∃ w12 : World, w12 = wc := ⟨_, rfl⟩
          have Y12 := hcut
          clear hcut Y8 bj8 RJ8 JW CK BJ
          have b12 := Lib.hid (b5.out.ext Y12.out)
          have P12 := Lib.hid (P5.out.ext Y12.out)
          have X12 := Lib.hid (X5.out.tr Y12.out)
          have s0 : w12.cell? ⟨w.heap.size, 0, none⟩ = some (.int .i64 i.kind) := b12.out.cell 0
          have s1 : w12.cell? ⟨w.heap.size, 1, none⟩ = some (.int .i64 i.n) := b12.out.cell 1
          have s2 : w12.cell? ⟨w.heap.size, 2, none⟩ = some (.int .i64 i.cap) := b12.out.cell 2
          by_cases hcap : 2147483647 ≤ i.cap
          · go_wp2_with (fail)
            go_ret
            exact ⟨rfl, X12.out⟩
          have ok9 := knap_ok hc.out hk1.out
          have n19 := ok9.n1
          have ow9 := ok9.w
          have oc9 := ok9.cap
          obtain ⟨g3, _, hg3, hg3b, hg3l, _⟩ := P12.out.a.at (k := 0) (by omega)
          obtain ⟨g4, _, hg4, hg4b, hg4l, _⟩ := P12.out.b.at (k := 0) (by have := lv9.out; omega)
          subst hg3 hg4
          have g34 : g3 ≠ g4 := fun e => P12.out.dj g3 rfl (by rw [e]; rfl)
          have wn : IntKind.i64.wrap (i.n + 1) = i.n + 1 := IntWalk.i64_in _ (by omega)
          have f1 := b12.out.free 1
          have b13 : Hid (Blk (w12.setCell ⟨w.heap.size, 1, none⟩ (.int .i64 (i.n + 1))) w.heap.size 25 #[.int .i64 i.kind, .int .i64 (i.n + 1), .int .i64 i.cap, .slice (some ⟨g3, 0, none⟩) i.weight.length c3, .slice (some ⟨g4, 0, none⟩) i.value.length d3, .slice C3 i.cost.length e3]) := b12.out.set 1 _
          have m13 : ModT w.heap.size [25] w12 (w12.setCell ⟨w.heap.size, 1, none⟩ (.int .i64 (i.n + 1))) := ModT.set w12 b12.out (by simp) (Nat.le_refl _) 1 _
          have P13 := Lib.hid (P12.out.modT m13 (by decide) (by decide))
          have X13 := Lib.hid (X12.out.modT m13 (Nat.le_refl _))
          clear m13
          go_upto_region 25 with (fail)
          generalize w12.setCell ⟨w.heap.size, 1, none⟩ (.int .i64 (i.n + 1)) = w13 at *
          clear s0 s1 s2 f1 b12 P12 X12 wn
          obtain ⟨y, hy⟩ : ∃ y, Hid (i.cap + 1 = y) := ⟨_, rfl⟩
          have wy : IntKind.i64.wrap (i.cap + 1) = y := (IntWalk.i64_in _ (by omega)).trans hy.out
          have z13 : w2.heap.size ≤ w13.heap.size := by have h1 := P13.out.a.lt g3 rfl; omega
          have lw9 : i.weight.length ≤ 1000000 := by omega
          have lv99 : i.value.length ≤ 1000000 := by omega
          have g3l : g3 < w13.heap.size := (P13.out.a.lt g3 rfl).2
          have g4l : g4 < w13.heap.size := (P13.out.b.lt g4 rfl).2
          have g3w : w.heap.size ≤ g3 := Nat.le_trans z2.out hg3b
          have g4w : w.heap.size ≤ g4 := Nat.le_trans z2.out hg4b
          have gne4 : w.heap.size ≠ g4 := fun e => P13.out.b.ne b13.out (by decide) g4 rfl e.symm
          have gne : w.heap.size ≠ g3 := fun e => P13.out.a.ne b13.out (by decide) g3 rfl e.symm
          replace wy := Lib.hid wy
          have hcap9 : Hid (i.cap < 2147483647) := by
            have h : i.cap < 2147483647 := by omega
            exact h
          clear hcap n19 ow9 oc9 ok9 hg3l hg4l
          refine wp_region_any (by kernel_rfl) ?_
          change wpAny _ _ _ _ _ _ _ (World.drew _)
          refine wpAny_T (i := 0) (op := Op.fieldAddr 25 (Operand.tmp 2) 3) (t := 0) (d := some 121) (v := ?_) rfl (by decide +kernel) (by decide +kernel) (by decide +kernel) (fun _ _ _ h => h) ?_ ?_
          case refine_2 => (intro _; unfold exec2; go_simp; try with_reducible rfl)
          try simp only [Act.put, List.setIfInBounds_toArray, List.set_cons_zero, List.set_cons_succ]
          refine wpAny_T (i := 2) (op := Op.fieldAddr 25 (Operand.tmp 2) 2) (t := 0) (d := some 123) (v := ?_) rfl (by decide +kernel) (by decide +kernel) (by decide +kernel) (fun _ _ _ h => h) ?_ ?_
          case refine_2 => (intro _; unfold exec2; go_simp; try with_reducible rfl)
          try simp only [Act.put, List.setIfInBounds_toArray, List.set_cons_zero, List.set_cons_succ]
          refine wpAny_T (i := 7) (op := Op.fieldAddr 25 (Operand.tmp 2) 4) (t := 0) (d := some 128) (v := ?_) rfl (by decide +kernel) (by decide +kernel) (by decide +kernel) (fun _ _ _ h => h) ?_ ?_
          case refine_2 => (intro _; unfold exec2; go_simp; try with_reducible rfl)
          try simp only [Act.put, List.setIfInBounds_toArray, List.set_cons_zero, List.set_cons_succ]
          refine wpAny_T (i := 9) (op := Op.move (Operand.tmp 1)) (t := 3) (d := some 130) (v := ?_) rfl (by decide +kernel) (by decide +kernel) (by decide +kernel) (fun _ _ _ h => h) ?_ ?_
          case refine_2 => (intro _; unfold exec2; go_simp; try with_reducible rfl)
          try simp only [Act.put, List.setIfInBounds_toArray, List.set_cons_zero, List.set_cons_succ]
          refine wpAny_core3 (n := 3) [(1, some 122), (3, some 124), (4, some 125), (5, some 126), (6, some 127), (8, some 129), (10, some 131), (11, some 132), (12, some 133)] (fun _ => []) (fun W => OwI W w2.heap.size (some ⟨g3, 0, none⟩) c3 i.weight ∧ OwI W w2.heap.size (some ⟨g4, 0, none⟩) d3 i.value ∧ Mod (fun b => b = g3 ∨ b = g4) w13 W)
            (VF (fun | 1 => some (.slice (some ⟨g3, 0, none⟩) i.weight.length c3) | 3 => some (.int .i64 i.cap) | 4 => some (.int .i64 y) | 8 => some (.slice (some ⟨g4, 0, none⟩) i.value.length d3) | 12 => some (.pointer (some ⟨w.heap.size, 3, none⟩)) | _ => none)
              (fun j v W => (j = 5 → ∃ h, v = .slice (some ⟨h, 0, none⟩) 1 1 ∧ Blk W h 3 #[.int .i64 y] ∧ w13.heap.size ≤ h) ∧ (j = 10 → ∃ h, v = .slice (some ⟨h, 0, none⟩) 1 1 ∧ Blk W h 3 #[.int .i64 z] ∧ w13.heap.size ≤ h) ∧ (j = 6 → ∃ A' c', v = .slice A' (i.weight.length + 1) c' ∧ OwI W w2.heap.size A' c' (i.weight ++ [y]) ∧ ∀ k, bl A' = some k → k = g3 ∨ w13.heap.size ≤ k) ∧ (j = 11 → ∃ A' c', v = .slice A' (i.value.length + 1) c' ∧ OwI W w2.heap.size A' c' (i.value ++ [z]) ∧ ∀ k, bl A' = some k → k = g4 ∨ w13.heap.size ≤ k)))
            (fun j W W' => (j ≠ 6 → j ≠ 11 → Ext W W') ∧ (j ≠ 11 → Mod (fun b => b = g3) W W') ∧ (j ≠ 6 → Mod (fun b => b = g4) W W') ∧ Mod (fun b => b = g3 ∨ b = g4) W W') #[true, true, true, true, true, true, true, true, true, true, true, true, true, false, false, false] (by decide +kernel) (by decide +kernel) ?_ ?_ ?_ ⟨P13.out.a.ext ((Ext.rf _).drew), P13.out.b.ext ((Ext.rf _).drew), (Mod.rf _).drew⟩
          · intro i' j v W W' hkp hv hs
            refine VF.stab1 (fun _ ⟨g5, g10, g6, g11⟩ => ?_) hv
            refine ⟨fun h => ?_, fun h => ?_, fun h => ?_, fun h => ?_⟩
            · obtain ⟨h', q1, q2, q3⟩ := g5 h
              exact ⟨h', q1, q2.mod hs.2.2.2 (by omega), q3⟩
            · obtain ⟨h', q1, q2, q3⟩ := g10 h
              exact ⟨h', q1, q2.mod hs.2.2.2 (by omega), q3⟩
            · by_cases hi : i' = 6
              · subst hi
                subst h
                exact absurd hkp (by decide +kernel)
              · obtain ⟨A', c', q1, q2, q3⟩ := g6 h
                exact ⟨A', c', q1, q2.mod (hs.2.2.1 hi) (fun k hk e => (q3 k hk).elim (fun h9 => g34 (h9.symm.trans e)) fun h9 => absurd (show w13.heap.size ≤ g4 from (show k = g4 from e) ▸ h9) (Nat.not_le.2 g4l)), q3⟩
            · by_cases hi : i' = 11
              · subst hi
                subst h
                exact absurd hkp (by decide +kernel)
              · obtain ⟨A', c', q1, q2, q3⟩ := g11 h
                exact ⟨A', c', q1, q2.mod (hs.2.1 hi) (fun k hk e => (q3 k hk).elim (fun h9 => g34 ((show k = g3 from e).symm.trans h9)) fun h9 => absurd (show w13.heap.size ≤ g3 from (show k = g3 from e) ▸ h9) (Nat.not_le.2 g3l)), q3⟩
          · intro pq hpm u W hRW hD K hK
            obtain ⟨oW, oX, mW⟩ := hRW
            have zW := mW.size
            have bW := b13.out.mod mW (by omega)
            have r2 : W.cell? ⟨w.heap.size, 2, none⟩ = some (.int .i64 i.cap) := bW.cell 2
            have r3 : W.cell? ⟨w.heap.size, 3, none⟩ = some (.slice (some ⟨g3, 0, none⟩) i.weight.length c3) := bW.cell 3
            have r4 : W.cell? ⟨w.heap.size, 4, none⟩ = some (.slice (some ⟨g4, 0, none⟩) i.value.length d3) := bW.cell 4
            have ID : ∀ (n : Nat) (W' : World), Ext W W' → (n ≠ 6 → n ≠ 11 → Ext W W') ∧ (n ≠ 11 → Mod (fun b => b = g3) W W') ∧ (n ≠ 6 → Mod (fun b => b = g4) W W') ∧ Mod (fun b => b = g3 ∨ b = g4) W W' := fun _ _ x => ⟨fun _ _ => x, fun _ => Mod.of_ext x, fun _ => Mod.of_ext x, Mod.of_ext x⟩
            simp only [List.mem_cons, List.not_mem_nil, or_false] at hpm
            rcases hpm with rfl | rfl | rfl | rfl | rfl | rfl | rfl | rfl | rfl
            · exact op_ld (T := 22) rfl (.pointer (some ⟨w.heap.size, 3, none⟩)) (by kernel_rfl) (.slice (some ⟨g3, 0, none⟩) i.weight.length c3) (by go_simp) (hK _ _ (VF.mk rfl) ⟨oW, oX, mW⟩ (ID 1 _ (Ext.rf _)))
            · exact op_ld (T := 3) rfl (.pointer (some ⟨w.heap.size, 2, none⟩)) (by kernel_rfl) (.int .i64 i.cap) (by go_simp) (hK _ _ (VF.mk rfl) ⟨oW, oX, mW⟩ (ID 3 _ (Ext.rf _)))
            · have h3 := (hD 3 (depIn (by kernel_rfl))).k rfl
              refine op_run rfl (.int .i64 y) (w' := W) ?_ (hK _ _ (VF.mk rfl) ⟨oW, oX, mW⟩ (ID 4 _ (Ext.rf _)))
              simp only [putAll, Act.put, List.setIfInBounds_toArray, List.set_cons_zero, List.set_cons_succ]
              unfold exec2
              rw [h3]
              go_simp
              rw [wy.out]
            · have h4 := (hD 4 (depIn (by kernel_rfl))).k rfl
              exact op_bs1 rfl (.int .i64 y) (Eq.trans (b := u 4) (by kernel_rfl) h4) _ (ibs1_run _ _) (hK _ _ (VF.mg rfl ⟨fun _ => ⟨_, rfl, .new rfl, zW⟩, (fun h => by cases h), (fun h => by cases h), (fun h => by cases h)⟩) ⟨oW.ext ((Ext.rf _).alloc _), oX.ext ((Ext.rf _).alloc _), mW.alloc _⟩ (ID 5 _ ((Ext.rf _).alloc _)))
            · have h1 := (hD 1 (depIn (by kernel_rfl))).k rfl
              obtain ⟨h', h5, b5', z5'⟩ := ((hD 5 (depIn (by kernel_rfl))).g rfl).1 rfl
              obtain ⟨A', c', w', hrun, o', ok', m', fr'⟩ := app1_keep W w2.heap.size 22 g3 c3 i.weight y h' oW b5' lw9 (by omega)
              exact op_app rfl (.slice (some ⟨g3, 0, none⟩) i.weight.length c3) (.slice (some ⟨h', 0, none⟩) 1 1) (Eq.trans (b := u 1) (by kernel_rfl) h1) (Eq.trans (b := u 5) (by kernel_rfl) h5) _ hrun (hK _ _ (VF.mg rfl ⟨(fun h => by cases h), (fun h => by cases h), (fun _ => ⟨A', c', rfl, o', fun k hk => (fr' k hk).imp id fun h => Nat.le_trans zW h⟩), (fun h => by cases h)⟩) ⟨ok', oX.mod m' (fun k hk e => by (have : g4 = k := by simpa [bl] using hk); omega), mW.tr (m'.mono fun _ _ h => .inl h)⟩ ⟨fun h => absurd rfl h, fun _ => m', fun h => absurd rfl h, m'.mono fun _ _ h => .inl h⟩)
            · exact op_ld (T := 22) rfl (.pointer (some ⟨w.heap.size, 4, none⟩)) (by kernel_rfl) (.slice (some ⟨g4, 0, none⟩) i.value.length d3) (by go_simp) (hK _ _ (VF.mk rfl) ⟨oW, oX, mW⟩ (ID 8 _ (Ext.rf _)))
            · exact op_bs1 rfl (.int .i64 z) (by kernel_rfl) _ (ibs1_run _ _) (hK _ _ (VF.mg rfl ⟨(fun h => by cases h), fun _ => ⟨_, rfl, .new rfl, zW⟩, (fun h => by cases h), (fun h => by cases h)⟩) ⟨oW.ext ((Ext.rf _).alloc _), oX.ext ((Ext.rf _).alloc _), mW.alloc _⟩ (ID 10 _ ((Ext.rf _).alloc _)))
            · have h1 := (hD 8 (depIn (by kernel_rfl))).k rfl
              obtain ⟨h', h5, b5', z5'⟩ := ((hD 10 (depIn (by kernel_rfl))).g rfl).2.1 rfl
              obtain ⟨A', c', w', hrun, o', ok', m', fr'⟩ := app1_keep W w2.heap.size 22 g4 d3 i.value z h' oX b5' lv99 (by omega)
              have oW2 := oW.mod m' (fun k hk e => by
                have : g3 = k := by simpa [bl] using hk
                omega)
              exact op_app rfl (.slice (some ⟨g4, 0, none⟩) i.value.length d3) (.slice (some ⟨h', 0, none⟩) 1 1) (Eq.trans (b := u 8) (by kernel_rfl) h1) (Eq.trans (b := u 10) (by kernel_rfl) h5) _ hrun (hK _ _ (VF.mg rfl ⟨(fun h => by cases h), (fun h => by cases h), (fun h => by cases h), (fun _ => ⟨A', c', rfl, o', fun k hk => (fr' k hk).imp id fun h => Nat.le_trans zW h⟩)⟩) ⟨oW2, ok', mW.tr (m'.mono fun _ _ h => .inr h)⟩ ⟨fun _ h => absurd rfl h, fun h => absurd rfl h, fun _ => m', m'.mono fun _ _ h => .inr h⟩)
            · exact op_fa (T := 25) (f := 3) rfl (.pointer (some ⟨w.heap.size, 0, none⟩)) (by kernel_rfl) (.pointer (some ⟨w.heap.size, 3, none⟩)) (by go_simp) (hK _ _ (VF.mk rfl) ⟨oW, oX, mW⟩ (ID 12 _ (Ext.rf _)))
          · intro u W hRW hV
            obtain ⟨-, -, mW⟩ := hRW
            obtain ⟨A', a', h6, oA, fA⟩ := ((hV (6, some 127) (by simp) rfl).g rfl).2.2.1 rfl
            obtain ⟨B', b', h11, oB, fB⟩ := ((hV (11, some 132) (by simp) rfl).g rfl).2.2.2 rfl
            have h12 := (hV (12, some 133) (by simp) rfl).k rfl
            simp only [putAll, h6, h11, h12]
            generalize u 1 = y1
            generalize u 3 = y3
            generalize u 4 = y4
            generalize u 5 = y5
            generalize u 8 = y8
            generalize u 10 = y10
            have bW := b13.out.mod mW (by omega)
            have XW := X13.out.mod mW (fun k hk e => by rcases e with e | e <;> (subst e; omega))
            have r3 : W.cell? ⟨w.heap.size, 3, none⟩ = some (.slice (some ⟨g3, 0, none⟩) i.weight.length c3) := bW.cell 3
            have k3 := bW.free 3
            have bW2 := bW.set 3 (.slice A' (i.weight.length + 1) a')
            have r4 : (W.setCell ⟨w.heap.size, 3, none⟩ (.slice A' (i.weight.length + 1) a')).cell? ⟨w.heap.size, 4, none⟩ = some (.slice (some ⟨g4, 0, none⟩) i.value.length d3) := bW2.cell 4
            have k4 := bW2.free 4
            have bN : Hid (Blk ((W.setCell ⟨w.heap.size, 3, none⟩ (.slice A' (i.weight.length + 1) a')).setCell ⟨w.heap.size, 4, none⟩ (.slice B' (i.value.length + 1) b')) w.heap.size 25 #[.int .i64 i.kind, .int .i64 (i.n + 1), .int .i64 i.cap, .slice A' (i.weight.length + 1) a', .slice B' (i.value.length + 1) b', .slice C3 i.cost.length e3]) := bW2.set 4 _
            have m1 : ModT w.heap.size [25] W (W.setCell ⟨w.heap.size, 3, none⟩ (.slice A' (i.weight.length + 1) a')) := ModT.set W bW (by simp) (Nat.le_refl _) 3 _
            have m2 : ModT w.heap.size [25] (W.setCell ⟨w.heap.size, 3, none⟩ (.slice A' (i.weight.length + 1) a')) ((W.setCell ⟨w.heap.size, 3, none⟩ (.slice A' (i.weight.length + 1) a')).setCell ⟨w.heap.size, 4, none⟩ (.slice B' (i.value.length + 1) b')) := ModT.set _ bW2 (by simp) (Nat.le_refl _) 4 _
            have OA := (oA.modT m1 (by decide)).modT m2 (by decide)
            have OB := (oB.modT m1 (by decide)).modT m2 (by decide)
            have XN := Lib.hid ((XW.modT m1 (Nat.le_refl _)).modT m2 (Nat.le_refl _))
            have ok9 := knap_ok hc.out hk1.out
            have okc := ok9.cap
            have okn := ok9.n2
            have hcm : checkP (moreI (i.cap + 1) z i) = 0 := more_check hc.out hk1.out (by omega) (by have := hcap9.out; omega) (by omega)
            have RM : Hid (RInst ((W.setCell ⟨w.heap.size, 3, none⟩ (.slice A' (i.weight.length + 1) a')).setCell ⟨w.heap.size, 4, none⟩ (.slice B' (i.value.length + 1) b')) [.int .i64 i.kind, .int .i64 (i.n + 1), .int .i64 i.cap, .slice A' (i.weight.length + 1) a', .slice B' (i.value.length + 1) b', .slice C3 i.cost.length e3] (moreI (i.cap + 1) z i)) := by
              have l1 := OA.le
              have l2 := OB.le
              rw [← hy.out] at OA l1
              simp only [List.length_append, List.length_singleton] at l1 l2
              refine ⟨A', a', B', b', C3, e3, by simp [moreI], ⟨OA.read, ?_, by simpa [moreI] using l1.1, l1.2⟩, ⟨OB.read, ?_, by simpa [moreI] using l2.1, l2.2⟩, ⟨?_, P13.out.c.le.1, P13.out.c.le.2⟩⟩
              · intro q hq
                rcases List.mem_append.1 hq with h | h
                · exact hI.1 q h
                · have := List.mem_singleton.1 h
                  omega
              · intro q hq
                rcases List.mem_append.1 hq with h | h
                · exact hI.2.1 q h
                · have := List.mem_singleton.1 h
                  omega
              · show RdE 1 RInts _ C3 i.cost
                rw [oc.out]
                exact .inl rfl
            have RT : rtakesP (moreI (i.cap + 1) z i) 0 = 0 := by
              unfold rtakesP
              rw [if_neg (by simpa using hcm), if_neg (by simp), if_neg]
              have e1 : (moreI (i.cap + 1) z i).n = i.n + 1 := rfl
              rintro (⟨h3, h4⟩ | ⟨h3, h4⟩) <;> omega
            have BXM := Lib.hid (best_ex (moreI (i.cap + 1) z i) _ _ RM.out (by simp only [moreI, List.length_append, List.length_singleton]; omega) (by simp only [moreI, List.length_append, List.length_singleton]; omega) (hT.ext XN.out))
            rw [RT] at BXM
            clear OA OB XW oA oB fA fB hV h6 h11 h12 m1 m2 bW bW2 mW RT hcm ok9 RM
            try simp only [Act.put, List.setIfInBounds_toArray, List.set_cons_zero, List.set_cons_succ]
            refine wpAny_next 13 (by decide +kernel) (op_st rfl (.pointer (some ⟨w.heap.size, 3, none⟩)) (.slice A' (i.weight.length + 1) a') (by kernel_rfl) (by kernel_rfl) (by go_simp; rfl) ?_)
            try simp only [Act.put, List.setIfInBounds_toArray, List.set_cons_zero, List.set_cons_succ]
            refine wpAny_T (i := 14) (op := Op.fieldAddr 25 (Operand.tmp 2) 4) (t := 0) (d := some 134) (v := ?_) rfl (by decide +kernel) (by decide +kernel) (by decide +kernel) (fun _ _ _ h => h) ?_ ?_
            case refine_2 => (intro _; unfold exec2; go_simp; try with_reducible rfl)
            try simp only [Act.put, List.setIfInBounds_toArray, List.set_cons_zero, List.set_cons_succ]
            refine wpAny_next 15 (by decide +kernel) (op_st rfl (.pointer (some ⟨w.heap.size, 4, none⟩)) (.slice B' (i.value.length + 1) b') (by kernel_rfl) (by kernel_rfl) (by go_simp; rfl) ?_)
            refine wpAny_done (by kernel_rfl) ?_ _
            generalize (W.setCell ⟨w.heap.size, 3, none⟩ (.slice A' (i.weight.length + 1) a')).setCell ⟨w.heap.size, 4, none⟩ (.slice B' (i.value.length + 1) b') = w14 at *
            clear r3 k3 r4 k4
            have t0 : w14.cell? ⟨w.heap.size, 0, none⟩ = some (.int .i64 i.kind) := bN.out.cell 0
            have t1 : w14.cell? ⟨w.heap.size, 1, none⟩ = some (.int .i64 (i.n + 1)) := bN.out.cell 1
            have t2 : w14.cell? ⟨w.heap.size, 2, none⟩ = some (.int .i64 i.cap) := bN.out.cell 2
            have t3 : w14.cell? ⟨w.heap.size, 3, none⟩ = some (.slice A' (i.weight.length + 1) a') := bN.out.cell 3
            have t4 : w14.cell? ⟨w.heap.size, 4, none⟩ = some (.slice B' (i.value.length + 1) b') := bN.out.cell 4
            have t5 : w14.cell? ⟨w.heap.size, 5, none⟩ = some (.slice C3 i.cost.length e3) := bN.out.cell 5
            have wvz : IntKind.i64.wrap (v + z) = v + z := IntWalk.i64_in _ (by omega)
            go_simp
            go_wp2_with (fail)
            refine BXM.out.mono ?_
            intro e w15 hp
            rcases hp with ⟨hne, -⟩ | ⟨-, A15, x15, c15, u', rfl, -, a15, -, -, x16⟩
            · exact absurd rfl hne
            obtain rfl : u' = v + z := more_ans hc.out hk1.out a9.out a15
            have XE := Lib.hid (XN.out.tr x16)
            have e9 : (v + z == v + z) = true := by simp
            generalize x15.length = n15
            clear BXM a15 x16 t0 t1 t2 t3 t4 t5
            go_wp2_with (fail)
            go_ret
            exact ⟨rfl, XE.out⟩
  · have ek1 : (i.kind != 1) = true := by simpa using hk1
    have sq := square_ok hc.out hk1
    have rok := rows_ok sq
    have ow : i.weight = [] := sq.w
    have ov : i.value = [] := sq.v
    have hin : i.n = (i.cost.length : Int) := sq.len.symm
    have n1 := rok.n1
    have num := Lib.hid (ends_num rok)
    obtain ⟨cb, g, cp, hC4, M7, hrows⟩ := MatS.of (n := i.cost.length) rfl (fun r hr => rok.row r hr) n1 P7.out.c P7.out.r P7.out.d
    have ov0 : ¬ ((0 : Int) < (i.value.length : Int)) := by rw [ov]; simp
    have SG : Hid (∀ W, Mod (fun b => ∃ a, a < i.cost.length ∧ b = g a) w7 W → Ext w5 W ∧ Blk W gj 25 #[.int .i64 i.kind, .int .i64 i.n, .int .i64 i.cap, .slice A4 i.weight.length c4, .slice B4 i.value.length d4, .slice C4 i.cost.length e4]) := fun W m => by
      refine ⟨y7.out.mod m (fun k hk e => ?_), b7.out.mod m (fun e => ?_)⟩
      · obtain ⟨a, h1, rfl⟩ := e
        have := (M7.row a h1).1
        omega
      · obtain ⟨a, h1, rfl⟩ := e
        obtain ⟨cur, hcur, _⟩ := (M7.row a h1).2.2
        exact Blk.ne b7.out hcur (by decide) rfl
    have START : Hid (MatS w7 w5.heap.size w7.heap.size cb e4 i.cost.length us4 g cp (fun r c => if r < 0 then costAt i.cost r c * z else costAt i.cost r c)) := M7.congr fun r c _ _ => by simp
    have s4 : w7.cell? ⟨gj, 4, none⟩ = some (.slice B4 i.value.length d4) := b7.out.cell 4
    replace ow := Lib.hid ow
    replace ov := Lib.hid ov
    replace hin := Lib.hid hin
    replace hk1 := Lib.hid hk1
    replace hC4 := Lib.hid hC4
    replace hrows := Lib.hid hrows
    clear M7 sq rok
    go_wp2_with (fail)
    go_loopw [9] (fun v9 wr => v9 = .int .i64 0 ∧ wr = w7) (fun _ _ => 0)
    case atStart => exact ⟨rfl, rfl⟩
    case round =>
      obtain ⟨rfl, hwr⟩ := hrel
      have hwr' : w7 = wr := (show wr = w7 from hwr).symm
      clear hwr
      subst hwr'
      go_wp2_with (fail)
      have eb1 : decide (0 < i.value.length) = false := by rw [ov.out]; rfl
      have eb2 : decide ((0 : Int) < (i.value.length : Int)) = false := by rw [ov.out]; rfl
      try rw [eb1]
      try rw [eb2]
      clear s4 ov0 eb1 eb2
      go_loopw [10] (fun v10 wr => ∃ a : Nat, v10 = .int .i64 a ∧ a ≤ i.cost.length ∧ Hid (MatS wr w5.heap.size w7.heap.size cb e4 i.cost.length us4 g cp (fun r c => if r < a then costAt i.cost r c * z else costAt i.cost r c)) ∧ Hid (Mod (fun b => ∃ a, a < i.cost.length ∧ b = g a) w7 wr)) (fun v10 _ => i.cost.length - (intOf v10).toNat)
      case atStart => exact ⟨0, rfl, by omega, START, Mod.rf _⟩
      case round =>
        clear START
        obtain ⟨wo, rfl⟩ : ∃ wo : World, wo = wr := ⟨_, rfl⟩
        obtain ⟨a', rfl, ha', MM, hm⟩ := hrel
        obtain ⟨Y0, bj0⟩ := SG.out wo hm.out
        have s5 : wo.cell? ⟨gj, 5, none⟩ = some (.slice C4 i.cost.length e4) := bj0.cell 5
        replace bj0 := Lib.hid bj0
        replace Y0 := Lib.hid Y0
        by_cases hlt : a' < i.cost.length
        · have q1 : (a' : Int) < (i.cost.length : Int) := by omega
          have INN : Hid (MatS wo w5.heap.size w7.heap.size cb e4 i.cost.length us4 g cp (fun r c => if r < a' ∨ (r = a' ∧ c < 0) then costAt i.cost r c * z else costAt i.cost r c)) := MM.out.congr fun r c _ _ => by simp
          go_wp2_with (fail)
          go_loopw [11] (fun v11 wr => ∃ b' : Nat, v11 = .int .i64 b' ∧ b' ≤ i.cost.length ∧ Hid (MatS wr w5.heap.size w7.heap.size cb e4 i.cost.length us4 g cp (fun r c => if r < a' ∨ (r = a' ∧ c < b') then costAt i.cost r c * z else costAt i.cost r c)) ∧ Hid (Mod (fun b => ∃ a, a < i.cost.length ∧ b = g a) w7 wr)) (fun v11 _ => i.cost.length - (intOf v11).toNat)
          case atStart => exact ⟨0, rfl, by omega, INN, hm⟩
          case round =>
            clear INN MM hm s5
            obtain ⟨wp, rfl⟩ : ∃ wp : World, wp = wr := ⟨_, rfl⟩
            obtain ⟨b', rfl, hb', MM, hm⟩ := hrel
            obtain ⟨Y1, bj1⟩ := SG.out wp hm.out
            have u1 : wp.cell? ⟨w.heap.size, 1, none⟩ = some (.int .i64 i.cost.length) := by rw [← hin.out]; exact (b5.out.ext Y1).cell 1
            by_cases hlt2 : b' < i.cost.length
            · have q2 : (b' : Int) < (i.cost.length : Int) := by omega
              have s5 : wp.cell? ⟨gj, 5, none⟩ = some (.slice (some ⟨cb, 0, none⟩) i.cost.length e4) := by rw [← hC4.out]; exact bj1.cell 5
              have k1 := MM.out.cell hlt
              have rw1 := (MM.out.row a' hlt).2.2
              have k2 := rw1.cell hlt2
              have kf := rw1.free b'
              simp only [Nat.lt_irrefl, and_false, or_false, if_false] at k2
              have bdx := num.out a' b' hlt hlt2
              have O2 := Lib.hid (MM.out.set hlt b' (costAt i.cost a' b' * z))
              have M2 := Lib.hid (hm.out.set (p := ⟨g a', b', none⟩) (.inl ⟨a', hlt, rfl⟩) (.int .i64 (costAt i.cost a' b' * z)))
              have wx : IntKind.i64.wrap (costAt i.cost a' b' * z) = costAt i.cost a' b' * z := IntWalk.i64_in _ (by
                have h1 : 0 ≤ costAt i.cost a' b' * z := Int.mul_nonneg bdx.1 (by omega)
                have h2 : costAt i.cost a' b' * z ≤ costAt i.cost a' b' * 50 := Int.mul_le_mul_of_nonneg_left hz1.2 bdx.1
                omega)
              have N2 : Hid (MatS (wp.setCell ⟨g a', b', none⟩ (.int .i64 (costAt i.cost a' b' * z))) w5.heap.size w7.heap.size cb e4 i.cost.length us4 g cp (fun r c => if r < a' ∨ (r = a' ∧ c < b' + 1) then costAt i.cost r c * z else costAt i.cost r c)) := O2.out.congr fun r c _ _ => by
                by_cases e : r = a' ∧ c = b'
                · obtain ⟨rfl, rfl⟩ := e
                  simp
                · simp only [if_neg e]
                  by_cases e2 : r < a' ∨ (r = a' ∧ c < b')
                  · rw [if_pos e2, if_pos (by omega)]
                  · rw [if_neg e2, if_neg (by omega)]
              obtain ⟨x, hx⟩ : ∃ x, Hid (costAt i.cost a' b' = x) := ⟨_, rfl⟩
              obtain ⟨y, hy⟩ : ∃ y, Hid (x * z = y) := ⟨_, rfl⟩
              rw [hx.out, hy.out] at N2 M2
              rw [hx.out] at k2 wx
              rw [hy.out] at wx
              obtain ⟨ga, hga⟩ : ∃ ga, Hid (g a' = ga) := ⟨_, rfl⟩
              obtain ⟨ca, hca⟩ : ∃ ca, Hid (cp a' = ca) := ⟨_, rfl⟩
              rw [hga.out] at k1 k2 kf N2 M2
              rw [hca.out] at k1
              have wxy : IntKind.i64.wrap (x * z) = y := by rw [hy.out]; exact wx
              have hl9 : Hid (b' + 1 ≤ i.cost.length) := by
                have h9 : b' + 1 ≤ i.cost.length := hlt2
                exact h9
              clear O2 rw1 bdx wx hm MM bj1 Y1
              go_wp2_with (fail)
              refine wp_region_any (by kernel_rfl) ?_
              change wpAny _ _ _ _ _ _ _ (World.drew _)
              refine wpAny_T (i := 0) (op := Op.fieldAddr 25 (Operand.tmp 8) 5) (t := 0) (d := some 72) (v := ?_) rfl (by decide +kernel) (by decide +kernel) (by decide +kernel) (fun _ _ _ h => h) ?_ ?_
              case refine_2 => (intro _; unfold exec2; go_simp; try with_reducible rfl)
              try simp only [Act.put, List.setIfInBounds_toArray, List.set_cons_zero, List.set_cons_succ]
              refine wpAny_T (i := 2) (op := Op.move (Operand.tmp 10)) (t := 3) (d := some 74) (v := ?_) rfl (by decide +kernel) (by decide +kernel) (by decide +kernel) (fun _ _ _ h => h) ?_ ?_
              case refine_2 => (intro _; unfold exec2; go_simp; try with_reducible rfl)
              try simp only [Act.put, List.setIfInBounds_toArray, List.set_cons_zero, List.set_cons_succ]
              refine wpAny_T (i := 5) (op := Op.move (Operand.tmp 11)) (t := 3) (d := some 77) (v := ?_) rfl (by decide +kernel) (by decide +kernel) (by decide +kernel) (fun _ _ _ h => h) ?_ ?_
              case refine_2 => (intro _; unfold exec2; go_simp; try with_reducible rfl)
              try simp only [Act.put, List.setIfInBounds_toArray, List.set_cons_zero, List.set_cons_succ]
              refine wpAny_T (i := 6) (op := Op.fieldAddr 25 (Operand.tmp 8) 5) (t := 0) (d := some 78) (v := ?_) rfl (by decide +kernel) (by decide +kernel) (by decide +kernel) (fun _ _ _ h => h) ?_ ?_
              case refine_2 => (intro _; unfold exec2; go_simp; try with_reducible rfl)
              try simp only [Act.put, List.setIfInBounds_toArray, List.set_cons_zero, List.set_cons_succ]
              refine wpAny_T (i := 8) (op := Op.move (Operand.tmp 10)) (t := 3) (d := some 80) (v := ?_) rfl (by decide +kernel) (by decide +kernel) (by decide +kernel) (fun _ _ _ h => h) ?_ ?_
              case refine_2 => (intro _; unfold exec2; go_simp; try with_reducible rfl)
              try simp only [Act.put, List.setIfInBounds_toArray, List.set_cons_zero, List.set_cons_succ]
              refine wpAny_T (i := 11) (op := Op.move (Operand.tmp 11)) (t := 3) (d := some 83) (v := ?_) rfl (by decide +kernel) (by decide +kernel) (by decide +kernel) (fun _ _ _ h => h) ?_ ?_
              case refine_2 => (intro _; unfold exec2; go_simp; try with_reducible rfl)
              try simp only [Act.put, List.setIfInBounds_toArray, List.set_cons_zero, List.set_cons_succ]
              refine wpAny_T (i := 14) (op := Op.move (Operand.tmp 1)) (t := 3) (d := some 86) (v := ?_) rfl (by decide +kernel) (by decide +kernel) (by decide +kernel) (fun _ _ _ h => h) ?_ ?_
              case refine_2 => (intro _; unfold exec2; go_simp; try with_reducible rfl)
              try simp only [Act.put, List.setIfInBounds_toArray, List.set_cons_zero, List.set_cons_succ]
              refine wpAny_reads2 (n := 2) [(1, some 73), (3, some 75), (4, some 76), (7, some 79), (9, some 81), (10, some 82), (12, some 84), (13, some 85), (15, some 87)] (fun | 1 => .slice (some ⟨cb, 0, none⟩) i.cost.length e4 | 3 => .pointer (some ⟨cb, a', none⟩) | 4 => .slice (some ⟨ga, 0, none⟩) i.cost.length ca | 7 => .slice (some ⟨cb, 0, none⟩) i.cost.length e4 | 9 => .pointer (some ⟨cb, a', none⟩) | 10 => .slice (some ⟨ga, 0, none⟩) i.cost.length ca | 12 => .pointer (some ⟨ga, b', none⟩) | 13 => .int .i64 x | 15 => .int .i64 y | _ => undef) #[true, true, true, true, true, true, true, true, true, true, true, true, true, true, true, true, false, false] (by decide +kernel) ?_ ?_
              · intro pS hpm uS hD K hK
                simp only [List.mem_cons, List.not_mem_nil, or_false] at hpm
                rcases hpm with rfl | rfl | rfl | rfl | rfl | rfl | rfl | rfl | rfl
                · exact op_ld (T := 23) (x := Operand.tmp 72) (t := 23) (d := some 73) rfl (.pointer (some ⟨gj, 5, none⟩)) (by kernel_rfl) (.slice (some ⟨cb, 0, none⟩) i.cost.length e4) (by go_simp) hK
                · exact op_ix (T := 23) (x := Operand.tmp 73) (y := Operand.tmp 74) (t := 0) (d := some 75) rfl (.slice (some ⟨cb, 0, none⟩) i.cost.length e4) (.int .i64 a') (Eq.trans (b := uS 1) (by kernel_rfl) (hD 1 (depIn (by kernel_rfl)))) (by kernel_rfl) (.pointer (some ⟨cb, a', none⟩)) (by go_simp) hK
                · exact op_ld (T := 22) (x := Operand.tmp 75) (t := 22) (d := some 76) rfl (.pointer (some ⟨cb, a', none⟩)) (Eq.trans (b := uS 3) (by kernel_rfl) (hD 3 (depIn (by kernel_rfl)))) (.slice (some ⟨ga, 0, none⟩) i.cost.length ca) (by go_simp) hK
                · exact op_ld (T := 23) (x := Operand.tmp 78) (t := 23) (d := some 79) rfl (.pointer (some ⟨gj, 5, none⟩)) (by kernel_rfl) (.slice (some ⟨cb, 0, none⟩) i.cost.length e4) (by go_simp) hK
                · exact op_ix (T := 23) (x := Operand.tmp 79) (y := Operand.tmp 80) (t := 0) (d := some 81) rfl (.slice (some ⟨cb, 0, none⟩) i.cost.length e4) (.int .i64 a') (Eq.trans (b := uS 7) (by kernel_rfl) (hD 7 (depIn (by kernel_rfl)))) (by kernel_rfl) (.pointer (some ⟨cb, a', none⟩)) (by go_simp) hK
                · exact op_ld (T := 22) (x := Operand.tmp 81) (t := 22) (d := some 82) rfl (.pointer (some ⟨cb, a', none⟩)) (Eq.trans (b := uS 9) (by kernel_rfl) (hD 9 (depIn (by kernel_rfl)))) (.slice (some ⟨ga, 0, none⟩) i.cost.length ca) (by go_simp) hK
                · exact op_ix (T := 22) (x := Operand.tmp 82) (y := Operand.tmp 83) (t := 0) (d := some 84) rfl (.slice (some ⟨ga, 0, none⟩) i.cost.length ca) (.int .i64 b') (Eq.trans (b := uS 10) (by kernel_rfl) (hD 10 (depIn (by kernel_rfl)))) (by kernel_rfl) (.pointer (some ⟨ga, b', none⟩)) (by go_simp) hK
                · exact op_ld (T := 3) (x := Operand.tmp 84) (t := 3) (d := some 85) rfl (.pointer (some ⟨ga, b', none⟩)) (Eq.trans (b := uS 12) (by kernel_rfl) (hD 12 (depIn (by kernel_rfl)))) (.int .i64 x) (by go_simp) hK
                · (have e13 : uS 13 = .int .i64 x := hD 13 (depIn (by kernel_rfl)); exact op_run (op := Op.binOp BinOp.mul 3 (Operand.tmp 85) (Operand.tmp 86) 3) (t := 3) (d := some 87) rfl (.int .i64 y) (by simp only [putAll, Act.put, List.setIfInBounds_toArray, List.set_cons_zero, List.set_cons_succ]; unfold exec2; go_simp; try simp only [e13]; try go_simp) hK)
              simp only [putAll, Act.put, List.setIfInBounds_toArray, List.set_cons_zero, List.set_cons_succ]
              refine wpAny_next 16 (by decide +kernel) (op_ix (T := 22) rfl (.slice (some ⟨ga, 0, none⟩) i.cost.length ca) (.int .i64 b') (by kernel_rfl) (by kernel_rfl) (.pointer (some ⟨ga, b', none⟩)) (by go_simp) ?_)
              try simp only [Act.put, List.setIfInBounds_toArray, List.set_cons_zero, List.set_cons_succ]
              refine wpAny_next 17 (by decide +kernel) (op_st rfl (.pointer (some ⟨ga, b', none⟩)) (.int .i64 y) (by kernel_rfl) (by kernel_rfl) (by go_simp; rfl) ?_)
              refine wpAny_done (by kernel_rfl) ?_ _
              go_simp
              go_wp2_with (fail)
              go_roundw
              case rel => exact ⟨b' + 1, by go_num, hl9.out, N2.out.ext ((Ext.rf _).drew), M2.out.drew⟩
              case measure => (have h9 := hl9.out; simp [intOf]; omega)
            · have hbe : b' = i.cost.length := by omega
              subst hbe
              have q2 : ¬ ((i.cost.length : Int) < (i.cost.length : Int)) := by omega
              have N2 : Hid (MatS wp w5.heap.size w7.heap.size cb e4 i.cost.length us4 g cp (fun r c => if r < a' + 1 then costAt i.cost r c * z else costAt i.cost r c)) := MM.out.congr fun r c hr hc => by
                by_cases e2 : r < a' + 1
                · rw [if_pos e2, if_pos (by omega)]
                · rw [if_neg e2, if_neg (by omega)]
              have hl9 : Hid (a' + 1 ≤ i.cost.length) := by
                have h9 : a' + 1 ≤ i.cost.length := hlt
                exact h9
              clear MM bj1 Y1
              go_wp2_with (fail)
              go_roundw
              case rel => exact ⟨a' + 1, by go_num, hl9.out, N2, hm⟩
              case measure => (have h9 := hl9.out; simp [intOf]; omega)
        · have hae : a' = i.cost.length := by omega
          subst hae
          have q1 : ¬ ((i.cost.length : Int) < (i.cost.length : Int)) := by omega
          have RD := MM.out.rd (fun r c hr hc => by
            have bdx := num.out r c hr hc
            have h1 : 0 ≤ costAt i.cost r c * z := Int.mul_nonneg bdx.1 (by omega)
            have h2 : costAt i.cost r c * z ≤ costAt i.cost r c * 50 := Int.mul_le_mul_of_nonneg_left hz1.2 bdx.1
            split <;> omega)
          have eR : (i.cost.map fun r => r.map (· * z)) = rowsF i.cost.length (fun r c => if r < i.cost.length then costAt i.cost r c * z else costAt i.cost r c) := by
            rw [scaled_rows hrows.out]
            unfold rowsF
            refine List.map_congr_left fun r hr => List.map_congr_left fun c _ => ?_
            have hr' := List.mem_range.1 hr
            simp [hr']
          rw [← eR, ← hC4.out] at RD
          have RJ := Lib.hid (JW.out wo (by rw [ov.out]; exact .inl rfl) RD ⟨by rw [ow.out]; exact .inl rfl, P7.out.a.le.1, P7.out.a.le.2⟩ P7.out.b.le P7.out.c.le (by rw [ov.out]; intro q hq; simp at hq))
          have bj := bj0
          have Y := Y0
          clear RD eR MM hm bj0 Y0
          go_upto_region 18 with (fail)
          clear s5 q1
          have s0 : wo.cell? ⟨gj, 0, none⟩ = some (.int .i64 i.kind) := bj.out.cell 0
          have s1 : wo.cell? ⟨gj, 1, none⟩ = some (.int .i64 i.n) := bj.out.cell 1
          have s2 : wo.cell? ⟨gj, 2, none⟩ = some (.int .i64 i.cap) := bj.out.cell 2
          have s3 : wo.cell? ⟨gj, 3, none⟩ = some (.slice A4 i.weight.length c4) := bj.out.cell 3
          have s4 : wo.cell? ⟨gj, 4, none⟩ = some (.slice B4 i.value.length d4) := bj.out.cell 4
          have s5 : wo.cell? ⟨gj, 5, none⟩ = some (.slice C4 i.cost.length e4) := bj.out.cell 5
          go_wp2_with (fail)
          refine (CK.out _ _ RJ.out).mono ?_
          rintro e w8 ⟨rfl, x8⟩
          have Y8 := Lib.hid (Y.out.tr x8)
          have RJ8 := Lib.hid (RJ.out.ext x8)
          have bj8 := Lib.hid (bj.out.ext x8)
          obtain ⟨cs, hcs⟩ : ∃ cs, Hid (checkP (scaleI z i) = cs) := ⟨_, rfl⟩
          rw [hcs.out]
          clear s0 s1 s2 s3 s4 s5 x8 Y bj RJ
          go_upto_if 91 with (fail)
          go_cut [] (fun wx => Hid (Ext w5 wx))
          case first =>
            by_cases hc0 : cs = 0
            · have RT : rtakesP (scaleI z i) 0 = 0 := by
                unfold rtakesP
                rw [if_neg (by rw [hcs.out]; simpa using hc0), if_neg (by simp), if_neg]
                have e1 : (scaleI z i).n = i.n := rfl
                rintro (⟨h3, h4⟩ | ⟨h3, h4⟩) <;> omega
              have EX := Lib.hid (BJ.out _ _ RJ8.out (X5.out.tr Y8.out))
              rw [RT] at EX
              have e0 : (cs == 0) = true := by simpa using hc0
              replace hc0 := Lib.hid hc0
              have s0 : w8.cell? ⟨gj, 0, none⟩ = some (.int .i64 i.kind) := bj8.out.cell 0
              have s1 : w8.cell? ⟨gj, 1, none⟩ = some (.int .i64 i.n) := bj8.out.cell 1
              have s2 : w8.cell? ⟨gj, 2, none⟩ = some (.int .i64 i.cap) := bj8.out.cell 2
              have s3 : w8.cell? ⟨gj, 3, none⟩ = some (.slice A4 i.weight.length c4) := bj8.out.cell 3
              have s4 : w8.cell? ⟨gj, 4, none⟩ = some (.slice B4 i.value.length d4) := bj8.out.cell 4
              have s5 : w8.cell? ⟨gj, 5, none⟩ = some (.slice C4 i.cost.length e4) := bj8.out.cell 5
              clear RT
              go_wp2_with (fail)
              refine EX.out.mono ?_
              intro e w10 hp
              rcases hp with ⟨hne, -⟩ | ⟨-, A10, x10, c10, u, rfl, -, a10, -, -, x11⟩
              · exact absurd rfl hne
              obtain rfl : u = v * z := scale_ans (by omega) a9.out a10
              have Y10 := Lib.hid (Y8.out.tr x11)
              have e9 : (v * z != v * z) = false := by simp
              generalize x10.length = n10
              clear EX a10 x11 s0 s1 s2 s3 s4 s5
              go_wp2_with (fail)
              go_meet
              exact Y10
            · have e0 : (cs == 0) = false := by simpa using hc0
              replace hc0 := Lib.hid hc0
              go_wp2_with (fail)
              go_meet
              exact Y8
          case rest =>
          obtain ⟨w12, rfl⟩ : ∃ w12 : World, w12 = wc := ⟨_, rfl⟩
          have Y12 := hcut
          clear hcut Y8 bj8 RJ8 JW CK BJ
          have b12 := Lib.hid (b5.out.ext Y12.out)
          have P12 := Lib.hid (P5.out.ext Y12.out)
          have X12 := Lib.hid (X5.out.tr Y12.out)
          have s0 : w12.cell? ⟨w.heap.size, 0, none⟩ = some (.int .i64 i.kind) := b12.out.cell 0
          have s1 : w12.cell? ⟨w.heap.size, 1, none⟩ = some (.int .i64 i.n) := b12.out.cell 1
          have s2 : w12.cell? ⟨w.heap.size, 2, none⟩ = some (.int .i64 i.cap) := b12.out.cell 2
          go_wp2_with (fail)
          go_ret
          exact ⟨rfl, X12.out⟩
theorem walk (vs : List Value) (i : InstP) (z0 : Int) (w : World) (hT : Tab w) (H : RInst w vs i) (_ : InstOk i) (hR : i.weight.length * 8 ≤ reachBytes ∧ i.value.length * 8 ≤ reachBytes) :
    Calls Tryd.prog 3 #[.agg (List.toArray vs), .int .i64 z0] w fun e w' => e = .returned (.bool true) ∧ Ext w w' := by
  have h47 := reachBytes_lt
  by_cases hf : fewP i = true
  · exact walk_yes i vs z0 w hT H hf
  · exact walk_no i vs z0 w H (by simp only [maxLen]; omega) (by simp only [maxLen]; omega) (by simp only [maxLen]; omega) (by simpa using hf)
set_option maxRecDepth 100000 in
theorem lifted (os : Os) (started : os.Started) (H : Type) (enc : TypeId × Value → H) :
    ReturnsInHanded {} Tryd.checked os 3 .any (fun w args => (Rows.kurganScalesSpec.pre enc Tryd.prog Tryd.f3 Rows.kurganScalesRow.domain false w args ∧ laidMetH Tryd.prog tabL w) ∧ sizedMet enc Tryd.prog Tryd.f3 (OpenSpec.ofChange Rows.kurganScalesSpec) false w args) (Rows.kurganScalesSpec.post enc Tryd.prog Tryd.f3 false true false false) := by
  refine returnsInHanded_of_change_and (C := Tryd.checked) (X := fun w _ => laidMetH Tryd.prog tabL w) (fun _ _ _ hh h => h.of_heap hh) own started (by kernel_rfl) Tryd.func3
    (ChangeSpec.witness_shaped (enc := enc) (C := Tryd.checked) (os := os) (X := fun w _ => laidMetH Tryd.prog tabL w) false (World.laidAll Tryd.prog os tabL) #[.agg #[.int .i64 0, .int .i64 0, .int .i64 0, .slice none 0 0, .slice none 0 0, .slice none 0 0], .int .i64 0] 8 (World.laidAll_os _ _ _)
      (World.shaped_of_ZipB (by kernel_rfl) (by kernel_rfl)) (by kernel_rfl) (by kernel_rfl) (by kernel_rfl)
      (by rw [MakeChecks.laidMetH_plain _ _ _ (by kernel_rfl)]; exact laidMet_laidAll _ (by kernel_rfl) (by kernel_rfl))) ?_
  intro W base args ds gs before hval0 hW _ hsz hL _
  have hval : ∀ (j : Nat) t v, Tryd.f3.params[j]? = some t → args[j]? = some v → Value.okWide Tryd.prog W .any base t v := hval0
  have hW' := hW
  obtain ⟨p, q, hA0, hV, rfl, hfz, hnd⟩ := hW
  have hA : DataW.TrodAll enc Tryd.prog W 0 (fun _ => true) true Tryd.f3.params.toList args.toList ds p := hA0
  rw [Tryd.params3] at hA hval hsz
  obtain ⟨v0, vs0, d0, ds0, p0, q0, hargs, rfl, rfl, h0, r0⟩ := trodAll_cons hA
  obtain ⟨v1, vs1, d1, ds1, p1, q1, rfl, rfl, rfl, h1, r1⟩ := trodAll_cons r0
  obtain ⟨rfl, rfl, rfl⟩ := trodAll_nil r1
  obtain rfl : args = #[v0, v1] := by cases args; simp_all
  obtain ⟨rfl, rfl⟩ := trodVars_none hV
  obtain ⟨y0, x0, rfl, hx0, ix0, sz0⟩ := open_InstS h0 (hval 0 _ v0 rfl rfl)
  have hR := sz0 reachBytes fun n hn => by
    have h := List.all_eq_true.1 hsz n (DataW.weights_mem_each (j := 0) (t := 25) (d := d0) rfl rfl n hn)
    simpa using h
  obtain ⟨x1, rfl, rfl, rfl, _⟩ := open_int Tryd.underlying3 (hval 1 _ v1 rfl rfl) h1
  refine (walk y0 x0 x1 W (tab_of_laid hL) hx0 ix0 hR).mono fun e W' ⟨he, hg⟩ => ?_
  subst he
  exact ⟨_, rfl, post_law hW' rfl rfl rfl rfl rfl (readable_of (by kernel_rfl)) hg⟩
theorem row : Rows.KurganScalesSaid :=
  OpenClaim.holds_of_wide 3 Tryd.f3 rfl rfl rfl rfl rfl rfl rfl ⟨rfl, rfl, rfl, rfl, rfl⟩ rfl rfl rfl rfl rfl (by kernel_rfl) Tryd.func3 (by kernel_rfl)
    (of_decide_eq_true (by kernel_rfl)) (by unfold Func.isWrapper; first | (rw [if_pos (by decide +kernel)]; kernel_rfl) | (rw [if_neg (by decide +kernel)]; exact ⟨rfl, rfl⟩))
    (fun os started H enc _ => lifted os started H enc)
theorem proved : Rows.KurganScalesCardSaid :=
  Claim7.holds_tied_plain_at .later [] [.data] true Rows.kurganScalesCard.stood.harness false row (fun _ h => by cases h) (by kernel_rfl) (fun _ h => by cases h) kurganScales_row_tie rfl ⟨rfl, rfl⟩ (by kernel_rfl) rfl
    (fun f fn hf hfn => by
      obtain rfl : f = 3 := Option.some.inj ((show Tryd.prog.funcNamed "kurgan/kurgantop.KurganScales" = some 3 by kernel_rfl).symm.trans hf) |>.symm
      obtain rfl : fn = Tryd.f3 := (Option.some.inj (Tryd.func3.symm.trans hfn)).symm
      exact ⟨by kernel_rfl, fun j t ht => by
        rw [Tryd.params3] at ht
        have hm : t ∈ [25, 3] := by simpa using Array.mem_of_getElem? ht
        have hall : ([25, 3].all fun u => !Tryd.prog.wantsStandIn u) = true := by kernel_rfl
        exact (show Tryd.prog.wantsStandIn t = false by simpa using List.all_eq_true.1 hall t hm)⟩)
    (by kernel_rfl)
end Go.Proofs.YtleckhbmciiooaaDoor.kurganScales
