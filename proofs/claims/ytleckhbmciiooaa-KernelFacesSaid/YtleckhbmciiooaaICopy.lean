/-
  The program's Copy of a problem: its rows copied.
-/
import Derived.Test.YtleckhbmciiooaaInstLaw
import Derived.Test.YtleckhbmciiooaaCore
namespace Go.Proofs.Ytleckhbmciiooaa
open Go.RowKit Go.ChangeShapes Go.WideShapes Go.ChangeAt Go.Deep

section
variable {P : Program} {ops : Array Oper} {i : Nat} {t : TypeId} {d : Option Tmp} {a : Act} {w w' : World} {K : Act → World → Prop} {Q : Exit → Act → World → Prop}
theorem op_fa {T : TypeId} {f : Nat} {x : Operand} (hi : opAt ops i = some (none, .fieldAddr T x f, t, d)) (p : Value) (hx : a.eval x = p) (v : Value) (hrun : (Instr.fieldAt T p f).run P w = .ok v w) (hK : K (a.put d v) w) : wpOp P ops Q i K a w :=
  op_run hi v (by simp [exec2, execOp, hx, hrun]) hK
end
def ICopyPost (i : InstP) (w : World) (e : Ending) (w' : World) : Prop := ∃ A3 c3 B3 d3 C cc us, e = .returned (.agg #[.int .i64 i.kind, .int .i64 i.n, .int .i64 i.cap, .slice A3 i.weight.length c3, .slice B3 i.value.length d3, .slice C i.cost.length cc]) ∧ OwV w' w.heap.size 22 1 C i.cost.length cc us ∧ RowsO w' w.heap.size us i.cost ∧ Ext w w'
set_option maxRecDepth 100000 in
set_option maxHeartbeats 4000000 in
theorem icopy_any (i : InstP) (vs : List Value) (w : World) (H : RInst w vs i) (lw : i.weight.length ≤ 1000000000) (lv : i.value.length ≤ 1000000000) (lc : i.cost.length ≤ 1000000) (lr : ∀ r ∈ i.cost, r.length ≤ 1000000000) :
    Calls Try.prog 134 #[.agg (List.toArray vs)] w (ICopyPost i w) := by
  obtain ⟨A, a, B, b, C, c, rfl, ⟨rA, iA, lA, mA⟩, ⟨rB, iB, lB, mB⟩, ⟨rC, lC, mC⟩⟩ := H
  obtain ⟨kind, nn, cap, xw, xv, co⟩ := i
  simp only at *
  obtain ⟨i0, hi, hz0, hz1, hz2⟩ := info_parts row_info
  replace hi := Lib.hid hi
  replace hz0 := Lib.hid hz0
  replace hz1 := Lib.hid hz1
  replace hz2 := Lib.hid hz2
  replace lr := Lib.hid lr
  have X : Ext w ((w.alloc (.cells #[.int .i64 kind, .int .i64 nn, .int .i64 cap, .slice A xw.length a, .slice B xv.length b, .slice C co.length c] 25)).alloc (.cells #[.int .i64 0, .int .i64 0, .int .i64 0, .slice none 0 0, .slice none 0 0, .slice none 0 0] 25)) := ((Ext.rf _).alloc _).alloc _
  have B1 : Blk ((w.alloc (.cells #[.int .i64 kind, .int .i64 nn, .int .i64 cap, .slice A xw.length a, .slice B xv.length b, .slice C co.length c] 25)).alloc (.cells #[.int .i64 0, .int .i64 0, .int .i64 0, .slice none 0 0, .slice none 0 0, .slice none 0 0] 25)) w.heap.size 25 #[.int .i64 kind, .int .i64 nn, .int .i64 cap, .slice A xw.length a, .slice B xv.length b, .slice C co.length c] := .alloc (.new rfl) _
  have B2 : Blk ((w.alloc (.cells #[.int .i64 kind, .int .i64 nn, .int .i64 cap, .slice A xw.length a, .slice B xv.length b, .slice C co.length c] 25)).alloc (.cells #[.int .i64 0, .int .i64 0, .int .i64 0, .slice none 0 0, .slice none 0 0, .slice none 0 0] 25)) (w.heap.size + 1) 25 #[.int .i64 0, .int .i64 0, .int .i64 0, .slice none 0 0, .slice none 0 0, .slice none 0 0] := .new (by simp)
  replace X := Lib.hid X
  replace B1 := Lib.hid B1
  replace B2 := Lib.hid B2
  replace rA := Lib.hid rA
  replace rB := Lib.hid rB
  replace rC := Lib.hid rC
  replace iA := Lib.hid iA
  replace iB := Lib.hid iB
  replace mA := Lib.hid mA
  replace mB := Lib.hid mB
  replace mC := Lib.hid mC
  go_enter Try.func134, Try.ntmps134
  go_wp2_with (fail)
  generalize (w.alloc (.cells #[.int .i64 kind, .int .i64 nn, .int .i64 cap, .slice A xw.length a, .slice B xv.length b, .slice C co.length c] 25)).alloc (.cells #[.int .i64 0, .int .i64 0, .int .i64 0, .slice none 0 0, .slice none 0 0, .slice none 0 0] 25) = wr at *
  have z1 := B1.out.lt
  have zw := X.out.size
  refine wp_region_any (by kernel_rfl) ?_
  change wpAny _ _ _ _ _ _ _ (World.drew _)
  refine wpAny_T (i := 0) (op := Op.fieldAddr 25 (Operand.tmp 1) 3) (t := 0) (d := some 6) (v := ?_) rfl (by decide +kernel) (by decide +kernel) (by decide +kernel) (fun _ _ _ h => h) ?_ ?_
  case refine_2 => (intro _; unfold exec2; go_simp; try with_reducible rfl)
  try simp only [Act.put, List.setIfInBounds_toArray, List.set_cons_zero, List.set_cons_succ]
  refine wpAny_T (i := 3) (op := Op.fieldAddr 25 (Operand.tmp 1) 4) (t := 0) (d := some 9) (v := ?_) rfl (by decide +kernel) (by decide +kernel) (by decide +kernel) (fun _ _ _ h => h) ?_ ?_
  case refine_2 => (intro _; unfold exec2; go_simp; try with_reducible rfl)
  try simp only [Act.put, List.setIfInBounds_toArray, List.set_cons_zero, List.set_cons_succ]
  refine wpAny_core2 (n := 3) [(1, some 7), (2, some 8), (4, some 10), (5, some 11), (6, some 12)] (Ext wr)
    (VF (fun | 1 => some (.slice A xw.length a) | 4 => some (.slice B xv.length b) | 6 => some (.pointer (some ⟨w.heap.size, 3, none⟩)) | _ => none)
      (fun j v W => (j = 2 → ∃ A' c', v = .slice A' xw.length c') ∧ (j = 5 → ∃ A' c', v = .slice A' xv.length c')))
    Ext #[true, true, true, true, true, true, true, false, false, false] (by decide +kernel) (VF.stab ?_) ?_ ?_ ((Ext.rf _).drew)
  · intro j v W W' _ h _
    exact h
  · intro pq hpm u w2 hRW hD K hK
    have b2 := B1.out.ext hRW
    have r3 : w2.cell? ⟨w.heap.size, 3, none⟩ = some (.slice A xw.length a) := b2.cell 3
    have r4 : w2.cell? ⟨w.heap.size, 4, none⟩ = some (.slice B xv.length b) := b2.cell 4
    have xe := X.out.tr hRW
    simp only [List.mem_cons, List.not_mem_nil, or_false] at hpm
    rcases hpm with rfl | rfl | rfl | rfl | rfl
    · exact op_ld (T := 22) rfl (.pointer (some ⟨w.heap.size, 3, none⟩)) (by kernel_rfl) (.slice A xw.length a) (by go_simp) (hK _ _ (VF.mk rfl) hRW (Ext.rf _))
    · refine op_call rfl #[.slice A xw.length a] (by go_simp) (Eq.trans (b := #[u 1]) (by kernel_rfl) (by rw [(hD 1 (depIn (by kernel_rfl))).k rfl])) _ (clone_any A a xw w2 (rA.out.ext xe) (by omega)) ?_
      rintro e w3 ⟨A3, c3, rfl, o3, x3⟩
      exact ⟨_, rfl, hK _ _ (VF.mg rfl ⟨fun _ => ⟨A3, c3, rfl⟩, (fun h => by cases h)⟩) (hRW.tr x3) x3⟩
    · exact op_ld (T := 22) rfl (.pointer (some ⟨w.heap.size, 4, none⟩)) (by kernel_rfl) (.slice B xv.length b) (by go_simp) (hK _ _ (VF.mk rfl) hRW (Ext.rf _))
    · refine op_call rfl #[.slice B xv.length b] (by go_simp) (Eq.trans (b := #[u 4]) (by kernel_rfl) (by rw [(hD 4 (depIn (by kernel_rfl))).k rfl])) _ (clone_any B b xv w2 (rB.out.ext xe) (by omega)) ?_
      rintro e w3 ⟨A3, c3, rfl, o3, x3⟩
      exact ⟨_, rfl, hK _ _ (VF.mg rfl ⟨(fun h => by cases h), fun _ => ⟨A3, c3, rfl⟩⟩) (hRW.tr x3) x3⟩
    · exact op_fa (T := 25) (f := 3) rfl (.pointer (some ⟨w.heap.size, 0, none⟩)) (by kernel_rfl) (.pointer (some ⟨w.heap.size, 3, none⟩)) (by go_simp) (hK _ _ (VF.mk rfl) hRW (Ext.rf _))
  · intro u w3 hRW hV
    have h1 := (hV (1, some 7) (by simp)).k rfl
    have h4 := (hV (4, some 10) (by simp)).k rfl
    obtain ⟨A3, c3, h2⟩ := ((hV (2, some 8) (by simp)).g rfl).1 rfl
    obtain ⟨B3, d3, h5⟩ := ((hV (5, some 11) (by simp)).g rfl).2 rfl
    have h6 := (hV (6, some 12) (by simp)).k rfl
    simp only [putAll, h1, h2, h4, h5, h6]
    have b1 := B1.out.ext hRW
    have b2 := B2.out.ext hRW
    have g3 : w3.cell? ⟨w.heap.size, 3, none⟩ = some (.slice A xw.length a) := b1.cell 3
    have k3 := b1.free 3
    have b1a := b1.set 3 (.slice A3 xw.length c3)
    have g4 : (w3.setCell ⟨w.heap.size, 3, none⟩ (.slice A3 xw.length c3)).cell? ⟨w.heap.size, 4, none⟩ = some (.slice B xv.length b) := b1a.cell 4
    have k4 := b1a.free 4
    have b1b := Lib.hid (b1a.set 4 (.slice B3 xv.length d3))
    have b2b := Lib.hid ((b2.far (p := ⟨w.heap.size, 3, none⟩) (by simp) (.slice A3 xw.length c3)).far (p := ⟨w.heap.size, 4, none⟩) (by simp) (.slice B3 xv.length d3))
    have Xb := Lib.hid (((X.out.tr hRW).setNew (p := ⟨w.heap.size, 3, none⟩) (Nat.le_refl _) (.slice A3 xw.length c3)).setNew (p := ⟨w.heap.size, 4, none⟩) (Nat.le_refl _) (.slice B3 xv.length d3))
    clear h1 h2 h4 h5 h6 hV
    try simp only [Act.put, List.setIfInBounds_toArray, List.set_cons_zero, List.set_cons_succ]
    refine wpAny_next 7 (by decide +kernel) (op_st rfl (.pointer (some ⟨w.heap.size, 3, none⟩)) (.slice A3 xw.length c3) (by kernel_rfl) (by kernel_rfl) (by go_simp; rfl) ?_)
    refine wpAny_T (i := 8) (op := Op.fieldAddr 25 (Operand.tmp 1) 4) (t := 0) (d := some 13) (v := ?_) rfl (by decide +kernel) (by decide +kernel) (by decide +kernel) (fun _ _ _ h => h) ?_ ?_
    case refine_2 => (intro _; unfold exec2; go_simp; try with_reducible rfl)
    try simp only [Act.put, List.setIfInBounds_toArray, List.set_cons_zero, List.set_cons_succ]
    refine wpAny_next 9 (by decide +kernel) (op_st rfl (.pointer (some ⟨w.heap.size, 4, none⟩)) (.slice B3 xv.length d3) (by kernel_rfl) (by kernel_rfl) (by go_simp; rfl) ?_)
    refine wpAny_done (by kernel_rfl) ?_ _
    clear g3 g4 k3 k4 b1 b2 b1a hRW
    generalize (w3.setCell ⟨w.heap.size, 3, none⟩ (.slice A3 xw.length c3)).setCell ⟨w.heap.size, 4, none⟩ (.slice B3 xv.length d3) = w4 at *
    clear w3
    have q5 : w4.cell? ⟨w.heap.size, 5, none⟩ = some (.slice C co.length c) := b1b.out.cell 5
    go_simp
    go_wp2_with (fail)
    have lct := Lib.hid lc
    have START : Hid (OwV w4 w.heap.size 22 1 none 0 0 [] ∧ RowsO w4 w.heap.size [] (co.take 0) ∧ Ext w w4 ∧ Blk w4 w.heap.size 25 #[.int .i64 kind, .int .i64 nn, .int .i64 cap, .slice A3 xw.length c3, .slice B3 xv.length d3, .slice C co.length c] ∧ Blk w4 (w.heap.size + 1) 25 #[.int .i64 0, .int .i64 0, .int .i64 0, .slice none 0 0, .slice none 0 0, .slice none 0 0]) := ⟨OwV.nil _ _ _ _, by simpa using RowsO.nil w4 w.heap.size, Xb.out, b1b.out, b2b.out⟩
    clear b1b b2b Xb q5
    go_loopw [3, 17] (fun v3 v17 wr => ∃ (k : Nat) (C' : Option Addr) (cc : Nat) (us : List Value), v17 = .int .i64 k ∧ v3 = .slice C' k cc ∧ k ≤ co.length ∧ Hid (OwV wr w.heap.size 22 1 C' k cc us ∧ RowsO wr w.heap.size us (co.take k) ∧ Ext w wr ∧ Blk wr w.heap.size 25 #[.int .i64 kind, .int .i64 nn, .int .i64 cap, .slice A3 xw.length c3, .slice B3 xv.length d3, .slice C co.length c] ∧ Blk wr (w.heap.size + 1) 25 #[.int .i64 0, .int .i64 0, .int .i64 0, .slice none 0 0, .slice none 0 0, .slice none 0 0])) (fun _ v17 _ => co.length - (intOf v17).toNat)
    case atStart => exact ⟨0, none, 0, [], rfl, rfl, by omega, START⟩
    case round =>
      obtain ⟨wo, rfl⟩ : ∃ wo : World, wo = wr := ⟨_, rfl⟩
      clear START
      obtain ⟨k, C', cc, us, rfl, rfl, hk, HH⟩ := hrel
      obtain ⟨oV, oR, Y, b1, b2⟩ := HH.out
      by_cases hlt : k < co.length
      · obtain ⟨b', off, D, row, d, rfl, zd, hcd, her, _, rrow, _, ld, md⟩ := (rC.out.ext Y (fun _ _ h => h.ext Y)).ints hlt
        have lrow := lr.out row (List.mem_of_getElem? her.out)
        have etk : Hid (co.take (k + 1) = co.take k ++ [row]) := by
          have h : co.take (k + 1) = co.take k ++ [row] := by rw [List.take_add_one, her.out]; rfl
          exact h
        have q1 : (k : Int) < (co.length : Int) := by omega
        replace oV := Lib.hid oV
        replace oR := Lib.hid oR
        replace Y := Lib.hid Y
        replace b1 := Lib.hid b1
        replace b2 := Lib.hid b2
        replace rrow := Lib.hid rrow
        clear HH her
        go_wp2_with (fail)
        refine (clone_any D d row _ rrow.out (by omega)).mono ?_
        rintro e w5 ⟨D2, e2, rfl, o5, x5⟩
        have oV5 := oV.out.ext x5
        have zw5 := Y.out.size
        go_wp2_with (at_builtin; refine wpl_app_v _ (e := 22) Try.underlying23 hi.out hz0.out hz1.out hz2.out (by simp [Value.cells]) (by omega) rfl _ _ rfl w.heap.size C' k cc us (some ⟨w5.heap.size, 0, none⟩) 1 1 [.slice D2 row.length e2] rfl rfl (oV5.ext ((Ext.rf _).alloc _)) (RdV.blk (.new (by simp))).rdC (by simp) (by simp [Value.oneCell']) (by simp only [maxLen]; omega) (by omega) (by have := x5.size; simp; omega) ?_; rintro C6 c6 w6 o6 g6 _)
        have M6 := (oV5.ext ((Ext.rf w5).alloc (.cells #[.slice D2 row.length e2] 22))).grownT g6
        have X6 : Ext wo (w5.alloc (.cells #[.slice D2 row.length e2] 22)) := x5.tr ((Ext.rf _).alloc _)
        have NEW : Hid (OwV w6 w.heap.size 22 1 C6 (k + 1) c6 (us ++ [.slice D2 row.length e2]) ∧ RowsO w6 w.heap.size (us ++ [.slice D2 row.length e2]) (co.take (k + 1)) ∧ Ext w w6 ∧ Blk w6 w.heap.size 25 #[.int .i64 kind, .int .i64 nn, .int .i64 cap, .slice A3 xw.length c3, .slice B3 xv.length d3, .slice (some ⟨b', off, none⟩) co.length c] ∧ Blk w6 (w.heap.size + 1) 25 #[.int .i64 0, .int .i64 0, .int .i64 0, .slice none 0 0, .slice none 0 0, .slice none 0 0]) := by
          refine ⟨o6, ?_, (Y.out.tr X6).modT M6 (Nat.le_refl _), (b1.out.ext X6).modT M6 (by decide), (b2.out.ext X6).modT M6 (by decide)⟩
          rw [etk.out]
          exact ((oR.out.ext X6).modT M6 (by decide)).snoc (((o5.more zw5).ext ((Ext.rf _).alloc _)).modT M6 (by decide))
        clear oV5 o5 x5 o6 g6 M6 X6 hcd
        go_wp2_with (fail)
        go_roundw
        case rel => exact ⟨k + 1, C6, c6, _, by go_num, rfl, by omega, NEW⟩
        case measure => simp [intOf]; omega
      · obtain rfl : k = co.length := by omega
        rw [List.take_length] at oR
        have c0 : wo.cell? ⟨w.heap.size, 0, none⟩ = some (.int .i64 kind) := b1.cell 0
        have c1 : wo.cell? ⟨w.heap.size, 1, none⟩ = some (.int .i64 nn) := b1.cell 1
        have c2 : wo.cell? ⟨w.heap.size, 2, none⟩ = some (.int .i64 cap) := b1.cell 2
        have c3' : wo.cell? ⟨w.heap.size, 3, none⟩ = some (.slice A3 xw.length c3) := b1.cell 3
        have c4 : wo.cell? ⟨w.heap.size, 4, none⟩ = some (.slice B3 xv.length d3) := b1.cell 4
        have c5 : wo.cell? ⟨w.heap.size, 5, none⟩ = some (.slice C co.length c) := b1.cell 5
        have k5 := b1.free 5
        have r0 : wo.cell? ⟨w.heap.size + 1, 0, none⟩ = some (.int .i64 0) := b2.cell 0
        have r1 : wo.cell? ⟨w.heap.size + 1, 1, none⟩ = some (.int .i64 0) := b2.cell 1
        have r2 : wo.cell? ⟨w.heap.size + 1, 2, none⟩ = some (.int .i64 0) := b2.cell 2
        have r3 : wo.cell? ⟨w.heap.size + 1, 3, none⟩ = some (.slice none 0 0) := b2.cell 3
        have r4 : wo.cell? ⟨w.heap.size + 1, 4, none⟩ = some (.slice none 0 0) := b2.cell 4
        have r5 : wo.cell? ⟨w.heap.size + 1, 5, none⟩ = some (.slice none 0 0) := b2.cell 5
        have f0 := b2.free 0
        have f1 := b2.free 1
        have f2 := b2.free 2
        have f3 := b2.free 3
        have f4 := b2.free 4
        have f5 := b2.free 5
        have m1 : ModT w.heap.size [25] wo (wo.setCell ⟨w.heap.size, 5, none⟩ (.slice C' co.length cc)) := ModT.set wo b1 (by simp) (Nat.le_refl _) 5 _
        have b2' := b2.far (p := ⟨w.heap.size, 5, none⟩) (by simp) (.slice C' co.length cc)
        have m2 := (set6 b2' (base := w.heap.size) (by omega) (.int .i64 kind) (.int .i64 nn) (.int .i64 cap) (.slice A3 xw.length c3) (.slice B3 xv.length d3) (.slice C' co.length cc)).2
        have F := Lib.hid (And.intro ((oV.modT m1 (by decide)).modT m2 (by decide)) (And.intro ((oR.modT m1 (by decide)).modT m2 (by decide)) ((Y.modT m1 (Nat.le_refl _)).modT m2 (Nat.le_refl _))))
        clear HH oV oR Y b1 b2 m1 m2 b2'
        go_wp2_with (fail)
        exact bodyPost_ret (v := .agg #[.int .i64 kind, .int .i64 nn, .int .i64 cap, .slice A3 xw.length c3, .slice B3 xv.length d3, .slice C' co.length cc]) (by simp [results, Try.results134, go_sem, *]) rfl ⟨A3, c3, B3, d3, C', cc, us, rfl, F.out.1, F.out.2.1, F.out.2.2⟩
end Go.Proofs.Ytleckhbmciiooaa
