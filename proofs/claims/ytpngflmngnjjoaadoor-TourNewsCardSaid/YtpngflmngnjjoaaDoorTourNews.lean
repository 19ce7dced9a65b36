/-
  TourNews: just of problems of its kind, in form, there is a kernel; of none nothing is told.
-/
import Derived.Test.YtpngflmngnjjoaaDoorTourLaw
import Derived.Test.YtpngflmngnjjoaaDoorRows
import Derived.Test.YtpngflmngnjjoaaDoorCards
import Derived.Test.YtpngflmngnjjoaaDoorTie
import Derived.Test.YtpngflmngnjjoaaDoorChecked
namespace Go.Proofs.YtpngflmngnjjoaaDoor.tourNews
open Go.RowKit Go.ChangeShapes Go.WideShapes Go.ChangeAt Go.Deep

set_option maxRecDepth 100000 in
set_option maxHeartbeats 4000000 in
theorem walk_no (i j : InstP) (hj : j = copyP i) (vs : List Value) (w : World) (hT : Tab w) (H : RInst w vs i) (err : Int) (he : err ≠ 0) (hn : ∀ (us : List Value) (W : World), RInst W us j → Calls Tryd.prog 33 #[.agg (List.toArray us)] W fun e w' => e = .returned (.tuple #[.pointer none, .int .i64 err]) ∧ Ext W w')
    (hw : err = checkP j ∨ checkP j = 0 ∧ j.kind ≠ 3 ∧ err = 14) :
    Calls Tryd.prog 9 #[.agg (List.toArray vs)] w fun e w' => e = .returned (.bool true) ∧ Ext w w' := by
  have CP := fun (W : World) (x : Ext w W) => copy_to hj vs W (H.ext x)
  have hI : InstInts j := hj ▸ H.ints.copy
  have RC := fun (us : List Value) (W : World) (h : RInst W us j) => rcheck_any j us W h
  clear hj
  obtain ⟨A, a, B, b, C, c, rfl, -, -, -⟩ := H
  have B1 : Hid (Blk (w.alloc (.cells #[.int .i64 i.kind, .int .i64 i.n, .int .i64 i.cap, .slice A i.weight.length a, .slice B i.value.length b, .slice C i.cost.length c] 25)) w.heap.size 25 #[.int .i64 i.kind, .int .i64 i.n, .int .i64 i.cap, .slice A i.weight.length a, .slice B i.value.length b, .slice C i.cost.length c]) := .new rfl
  have eb : (err == 0) = false := by simpa using he
  have eb' : (err != 0) = true := by simpa using he
  replace CP := Lib.hid CP
  replace hT := Lib.hid hT
  replace hn := Lib.hid hn
  replace RC := Lib.hid RC
  replace hw := Lib.hid hw
  replace he := Lib.hid he
  go_enter Tryd.func9, Tryd.ntmps9
  go_wp2_with (fail)
  refine (CP.out _ (by (repeat (first | assumption | exact Ext.rf _ | apply Ext.drew | apply Ext.drewN | apply Ext.alloc)))).mono ?_
  rintro e w2 ⟨us, rfl, O2, x2⟩
  obtain ⟨A3, l3, d3, A4, l4, d4, A5, l5, d5, rfl⟩ := O2.six
  have X2 := Ext.tr (a := w) (by (repeat (first | assumption | exact Ext.rf _ | apply Ext.drew | apply Ext.drewN | apply Ext.alloc))) x2
  have B2 := B1.out.ext x2
  obtain ⟨X3, B3, O3⟩ := put_copy B2 X2 O2
  have t0 : w2.cell? ⟨w.heap.size, 0, none⟩ = some (.int .i64 i.kind) := B2.cell 0
  have t1 : w2.cell? ⟨w.heap.size, 1, none⟩ = some (.int .i64 i.n) := B2.cell 1
  have t2 : w2.cell? ⟨w.heap.size, 2, none⟩ = some (.int .i64 i.cap) := B2.cell 2
  have t3 : w2.cell? ⟨w.heap.size, 3, none⟩ = some (.slice A i.weight.length a) := B2.cell 3
  have t4 : w2.cell? ⟨w.heap.size, 4, none⟩ = some (.slice B i.value.length b) := B2.cell 4
  have t5 : w2.cell? ⟨w.heap.size, 5, none⟩ = some (.slice C i.cost.length c) := B2.cell 5
  have f0 := B2.free 0
  have f1 := B2.free 1
  have f2 := B2.free 2
  have f3 := B2.free 3
  have f4 := B2.free 4
  have f5 := B2.free 5
  replace X2 := Lib.hid X2
  replace B2 := Lib.hid B2
  replace X3 := Lib.hid X3
  replace B3 := Lib.hid B3
  replace O3 := Lib.hid O3
  clear O2 x2
  go_wp2_with (fail)
  refine (hn.out _ _ (O3.out.rinst hI)).mono ?_
  rintro e w4 ⟨rfl, x4⟩
  have X4 := Lib.hid (X3.out.tr x4)
  have B4 := Lib.hid (B3.out.ext x4)
  have O4 := Lib.hid (O3.out.ext x4)
  clear t0 t1 t2 t3 t4 t5 f0 f1 f2 f3 f4 f5 x4 X3 B3 O3 X2 B2
  go_wp2_with (fail)
  refine (nonet_any _).mono ?_
  rintro e w5 ⟨rfl, x5⟩
  go_wp2_with (fail)
  refine (kidst_nil _ _).mono ?_
  rintro e w6 ⟨rfl, x6⟩
  go_wp2_with (fail)
  refine (nonet_any _).mono ?_
  rintro e w7 ⟨rfl, x7⟩
  go_wp2_with (fail)
  refine (boundt_nil _ _).mono ?_
  rintro e w8 ⟨rfl, x8⟩
  go_wp2_with (fail)
  refine (nonet_any _).mono ?_
  rintro e w9 ⟨rfl, x9⟩
  go_wp2_with (fail)
  refine (answert_nil _ _).mono ?_
  rintro e wa ⟨rfl, xa⟩
  have y := Lib.hid (Ext.tr (Ext.tr (Ext.tr (Ext.tr (Ext.tr x5 x6) x7) x8) x9) xa)
  have Xa := Lib.hid (X4.out.tr y.out)
  have Ba := Lib.hid (B4.out.ext y.out)
  have Oa := Lib.hid (O4.out.ext y.out)
  clear x5 x6 x7 x8 x9 xa X4 B4 O4
  have c0 : wa.cell? ⟨w.heap.size, 0, none⟩ = some (.int .i64 j.kind) := Ba.out.cell 0
  have c1 : wa.cell? ⟨w.heap.size, 1, none⟩ = some (.int .i64 j.n) := Ba.out.cell 1
  have c2 : wa.cell? ⟨w.heap.size, 2, none⟩ = some (.int .i64 j.cap) := Ba.out.cell 2
  have c3 : wa.cell? ⟨w.heap.size, 3, none⟩ = some (.slice A3 l3 d3) := Ba.out.cell 3
  have c4 : wa.cell? ⟨w.heap.size, 4, none⟩ = some (.slice A4 l4 d4) := Ba.out.cell 4
  have c5 : wa.cell? ⟨w.heap.size, 5, none⟩ = some (.slice A5 l5 d5) := Ba.out.cell 5
  go_wp2_with (fail)
  refine (RC.out _ _ (Oa.out.rinst hI)).mono ?_
  rintro e wc ⟨rfl, xc⟩
  have Xc := Lib.hid (Xa.out.tr xc)
  have HAS0 := Lib.hid (tours_any wc.drew (hT.out.ext Xc.out.drew))
  have k0 : wc.cell? ⟨w.heap.size, 0, none⟩ = some (.int .i64 j.kind) := (Ba.out.ext xc).cell 0
  clear c0 c1 c2 c3 c4 c5 xc
  rcases hw.out with hw1 | ⟨hw1, hw2, hw3⟩
  · rw [← hw1]
    clear hw1
    go_wp2_with (fail)
    refine wp_region_any (by kernel_rfl) ?_
    change wpAny _ _ _ _ _ _ _ (World.drew _)
    refine wpAny_next 0 (by decide +kernel) (op_call (f := 34) (xs := #[]) (ts := #[]) (t := 4) (d := some 43) rfl #[] (by go_simp) (by kernel_rfl) _ (HAS0.out) ?_)
    rintro e wd ⟨rfl, xd⟩
    refine ⟨_, rfl, ?_⟩
    try simp only [Act.put, List.setIfInBounds_toArray, List.set_cons_zero, List.set_cons_succ]
    refine wpAny_T (i := 1) (op := Op.move (Operand.tmp 43)) (t := 4) (d := some 44) (v := ?_) rfl (by decide +kernel) (by decide +kernel) (by decide +kernel) (fun _ _ _ h => h) ?_ ?_
    case refine_2 => (intro _; unfold exec2; go_simp; try with_reducible rfl)
    try simp only [Act.put, List.setIfInBounds_toArray, List.set_cons_zero, List.set_cons_succ]
    refine wpAny_G (i := 2) (op := Op.move (Operand.tmp 4)) (t := 29) (d := some 45) (g := (1, true)) (v := ?_) rfl (by decide +kernel) (by decide +kernel) (by decide +kernel) (fun _ _ _ h => h) (by kernel_rfl) ?_ ?_
    case refine_2 => (intro _; unfold exec2; go_simp; try with_reducible rfl)
    try simp only [Act.put, List.setIfInBounds_toArray, List.set_cons_zero, List.set_cons_succ]
    refine wpAny_G (i := 3) (op := Op.move (Operand.tmp 11)) (t := 29) (d := some 46) (g := (1, true)) (v := ?_) rfl (by decide +kernel) (by decide +kernel) (by decide +kernel) (fun _ _ _ h => h) (by kernel_rfl) ?_ ?_
    case refine_2 => (intro _; unfold exec2; go_simp; try with_reducible rfl)
    try simp only [Act.put, List.setIfInBounds_toArray, List.set_cons_zero, List.set_cons_succ]
    refine wpAny_G (i := 4) (op := Op.binOp BinOp.eql 29 (Operand.tmp 45) (Operand.tmp 46) 29) (t := 4) (d := some 47) (g := (1, true)) (v := ?_) rfl (by decide +kernel) (by decide +kernel) (by decide +kernel) (fun _ _ _ h => h) (by kernel_rfl) ?_ ?_
    case refine_2 => (intro _; unfold exec2; go_simp; try with_reducible rfl)
    try simp only [Act.put, List.setIfInBounds_toArray, List.set_cons_zero, List.set_cons_succ]
    refine wpAny_T (i := 5) (op := Op.pick (Operand.tmp 44) (Operand.tmp 47) (Operand.const (Value.bool false))) (t := 4) (d := some 48) (v := ?_) rfl (by decide +kernel) (by decide +kernel) (by decide +kernel) (fun _ _ _ h => h) ?_ ?_
    case refine_2 => (intro _; unfold exec2; go_simp; try with_reducible rfl)
    try simp only [Act.put, List.setIfInBounds_toArray, List.set_cons_zero, List.set_cons_succ]
    refine wpAny_T (i := 6) (op := Op.move (Operand.tmp 48)) (t := 4) (d := some 49) (v := ?_) rfl (by decide +kernel) (by decide +kernel) (by decide +kernel) (fun _ _ _ h => h) ?_ ?_
    case refine_2 => (intro _; unfold exec2; go_simp; try with_reducible rfl)
    try simp only [Act.put, List.setIfInBounds_toArray, List.set_cons_zero, List.set_cons_succ]
    refine wpAny_G (i := 7) (op := Op.move (Operand.tmp 3)) (t := 47) (d := some 50) (g := (6, true)) (v := ?_) rfl (by decide +kernel) (by decide +kernel) (by decide +kernel) (fun _ _ _ h => h) (by kernel_rfl) ?_ ?_
    case refine_2 => (intro _; unfold exec2; go_simp; try with_reducible rfl)
    try simp only [Act.put, List.setIfInBounds_toArray, List.set_cons_zero, List.set_cons_succ]
    refine wpAny_G (i := 8) (op := Op.binOp BinOp.neq 47 (Operand.tmp 50) (Operand.const (Value.pointer none)) 47) (t := 4) (d := some 51) (g := (6, true)) (v := ?_) rfl (by decide +kernel) (by decide +kernel) (by decide +kernel) (fun _ _ _ h => h) (by kernel_rfl) ?_ ?_
    case refine_2 => (intro _; unfold exec2; go_simp; try with_reducible rfl)
    try simp only [Act.put, List.setIfInBounds_toArray, List.set_cons_zero, List.set_cons_succ]
    refine wpAny_G (i := 9) (op := Op.move (Operand.tmp 4)) (t := 29) (d := some 52) (g := (6, true)) (v := ?_) rfl (by decide +kernel) (by decide +kernel) (by decide +kernel) (fun _ _ _ h => h) (by kernel_rfl) ?_ ?_
    case refine_2 => (intro _; unfold exec2; go_simp; try with_reducible rfl)
    try simp only [Act.put, List.setIfInBounds_toArray, List.set_cons_zero, List.set_cons_succ]
    refine wpAny_G (i := 10) (op := Op.binOp BinOp.eql 29 (Operand.tmp 52) (Operand.const (Value.int IntKind.i64 0)) 29) (t := 4) (d := some 53) (g := (6, true)) (v := ?_) rfl (by decide +kernel) (by decide +kernel) (by decide +kernel) (fun _ _ _ h => h) (by kernel_rfl) ?_ ?_
    case refine_2 => (intro _; unfold exec2; go_simp; try with_reducible rfl)
    try simp only [Act.put, List.setIfInBounds_toArray, List.set_cons_zero, List.set_cons_succ]
    refine wpAny_G (i := 11) (op := Op.binOp BinOp.eql 4 (Operand.tmp 51) (Operand.tmp 53) 4) (t := 4) (d := some 54) (g := (6, true)) (v := ?_) rfl (by decide +kernel) (by decide +kernel) (by decide +kernel) (fun _ _ _ h => h) (by kernel_rfl) ?_ ?_
    case refine_2 => (intro _; unfold exec2; go_simp; try with_reducible rfl)
    try simp only [Act.put, List.setIfInBounds_toArray, List.set_cons_zero, List.set_cons_succ]
    refine wpAny_T (i := 12) (op := Op.pick (Operand.tmp 49) (Operand.tmp 54) (Operand.const (Value.bool false))) (t := 4) (d := some 55) (v := ?_) rfl (by decide +kernel) (by decide +kernel) (by decide +kernel) (fun _ _ _ h => h) ?_ ?_
    case refine_2 => (intro _; unfold exec2; go_simp; try with_reducible rfl)
    try simp only [Act.put, List.setIfInBounds_toArray, List.set_cons_zero, List.set_cons_succ]
    refine wpAny_T (i := 13) (op := Op.move (Operand.tmp 55)) (t := 4) (d := some 56) (v := ?_) rfl (by decide +kernel) (by decide +kernel) (by decide +kernel) (fun _ _ _ h => h) ?_ ?_
    case refine_2 => (intro _; unfold exec2; go_simp; try with_reducible rfl)
    try simp only [Act.put, List.setIfInBounds_toArray, List.set_cons_zero, List.set_cons_succ]
    refine wpAny_G (i := 14) (op := Op.move (Operand.tmp 6)) (t := 29) (d := some 57) (g := (13, true)) (v := ?_) rfl (by decide +kernel) (by decide +kernel) (by decide +kernel) (fun _ _ _ h => h) (by kernel_rfl) ?_ ?_
    case refine_2 => (intro _; unfold exec2; go_simp; try with_reducible rfl)
    try simp only [Act.put, List.setIfInBounds_toArray, List.set_cons_zero, List.set_cons_succ]
    refine wpAny_G (i := 15) (op := Op.binOp BinOp.eql 29 (Operand.tmp 57) (Operand.const (Value.int IntKind.i64 1)) 29) (t := 4) (d := some 58) (g := (13, true)) (v := ?_) rfl (by decide +kernel) (by decide +kernel) (by decide +kernel) (fun _ _ _ h => h) (by kernel_rfl) ?_ ?_
    case refine_2 => (intro _; unfold exec2; go_simp; try with_reducible rfl)
    try simp only [Act.put, List.setIfInBounds_toArray, List.set_cons_zero, List.set_cons_succ]
    refine wpAny_T (i := 16) (op := Op.pick (Operand.tmp 56) (Operand.tmp 58) (Operand.const (Value.bool false))) (t := 4) (d := some 59) (v := ?_) rfl (by decide +kernel) (by decide +kernel) (by decide +kernel) (fun _ _ _ h => h) ?_ ?_
    case refine_2 => (intro _; unfold exec2; go_simp; try with_reducible rfl)
    try simp only [Act.put, List.setIfInBounds_toArray, List.set_cons_zero, List.set_cons_succ]
    refine wpAny_T (i := 17) (op := Op.move (Operand.tmp 59)) (t := 4) (d := some 60) (v := ?_) rfl (by decide +kernel) (by decide +kernel) (by decide +kernel) (fun _ _ _ h => h) ?_ ?_
    case refine_2 => (intro _; unfold exec2; go_simp; try with_reducible rfl)
    try simp only [Act.put, List.setIfInBounds_toArray, List.set_cons_zero, List.set_cons_succ]
    refine wpAny_G (i := 18) (op := Op.move (Operand.tmp 8)) (t := 29) (d := some 61) (g := (17, true)) (v := ?_) rfl (by decide +kernel) (by decide +kernel) (by decide +kernel) (fun _ _ _ h => h) (by kernel_rfl) ?_ ?_
    case refine_2 => (intro _; unfold exec2; go_simp; try with_reducible rfl)
    try simp only [Act.put, List.setIfInBounds_toArray, List.set_cons_zero, List.set_cons_succ]
    refine wpAny_G (i := 19) (op := Op.binOp BinOp.eql 29 (Operand.tmp 61) (Operand.const (Value.int IntKind.i64 1)) 29) (t := 4) (d := some 62) (g := (17, true)) (v := ?_) rfl (by decide +kernel) (by decide +kernel) (by decide +kernel) (fun _ _ _ h => h) (by kernel_rfl) ?_ ?_
    case refine_2 => (intro _; unfold exec2; go_simp; try with_reducible rfl)
    try simp only [Act.put, List.setIfInBounds_toArray, List.set_cons_zero, List.set_cons_succ]
    refine wpAny_T (i := 20) (op := Op.pick (Operand.tmp 60) (Operand.tmp 62) (Operand.const (Value.bool false))) (t := 4) (d := some 63) (v := ?_) rfl (by decide +kernel) (by decide +kernel) (by decide +kernel) (fun _ _ _ h => h) ?_ ?_
    case refine_2 => (intro _; unfold exec2; go_simp; try with_reducible rfl)
    try simp only [Act.put, List.setIfInBounds_toArray, List.set_cons_zero, List.set_cons_succ]
    refine wpAny_T (i := 21) (op := Op.move (Operand.tmp 63)) (t := 4) (d := some 64) (v := ?_) rfl (by decide +kernel) (by decide +kernel) (by decide +kernel) (fun _ _ _ h => h) ?_ ?_
    case refine_2 => (intro _; unfold exec2; go_simp; try with_reducible rfl)
    try simp only [Act.put, List.setIfInBounds_toArray, List.set_cons_zero, List.set_cons_succ]
    refine wpAny_G (i := 22) (op := Op.move (Operand.tmp 10)) (t := 29) (d := some 65) (g := (21, true)) (v := ?_) rfl (by decide +kernel) (by decide +kernel) (by decide +kernel) (fun _ _ _ h => h) (by kernel_rfl) ?_ ?_
    case refine_2 => (intro _; unfold exec2; go_simp; try with_reducible rfl)
    try simp only [Act.put, List.setIfInBounds_toArray, List.set_cons_zero, List.set_cons_succ]
    refine wpAny_G (i := 23) (op := Op.binOp BinOp.eql 29 (Operand.tmp 65) (Operand.const (Value.int IntKind.i64 1)) 29) (t := 4) (d := some 66) (g := (21, true)) (v := ?_) rfl (by decide +kernel) (by decide +kernel) (by decide +kernel) (fun _ _ _ h => h) (by kernel_rfl) ?_ ?_
    case refine_2 => (intro _; unfold exec2; go_simp; try with_reducible rfl)
    try simp only [Act.put, List.setIfInBounds_toArray, List.set_cons_zero, List.set_cons_succ]
    refine wpAny_T (i := 24) (op := Op.pick (Operand.tmp 64) (Operand.tmp 66) (Operand.const (Value.bool false))) (t := 4) (d := some 67) (v := ?_) rfl (by decide +kernel) (by decide +kernel) (by decide +kernel) (fun _ _ _ h => h) ?_ ?_
    case refine_2 => (intro _; unfold exec2; go_simp; try with_reducible rfl)
    try simp only [Act.put, List.setIfInBounds_toArray, List.set_cons_zero, List.set_cons_succ]
    refine wpAny_T (i := 25) (op := Op.move (Operand.tmp 67)) (t := 4) (d := some 68) (v := ?_) rfl (by decide +kernel) (by decide +kernel) (by decide +kernel) (fun _ _ _ h => h) ?_ ?_
    case refine_2 => (intro _; unfold exec2; go_simp; try with_reducible rfl)
    try simp only [Act.put, List.setIfInBounds_toArray, List.set_cons_zero, List.set_cons_succ]
    refine wpAny_next 26 (by decide +kernel) (op_callG (f := 37) (xs := #[]) (ts := #[]) (t := 47) (d := some 69) rfl (by kernel_rfl) #[] (by go_simp) (by kernel_rfl) _ (nonet_any _) ?_)
    rintro e we ⟨rfl, xe⟩
    refine ⟨_, rfl, ?_⟩
    try simp only [Act.put, List.setIfInBounds_toArray, List.set_cons_zero, List.set_cons_succ]
    refine wpAny_next 27 (by decide +kernel) (op_callG (f := 40) (xs := #[Operand.tmp 69]) (ts := #[47]) (t := 3) (d := some 70) rfl (by kernel_rfl) #[.pointer none] (by go_simp) (by kernel_rfl) _ (deptht_nil _) ?_)
    rintro e wf ⟨rfl, xf⟩
    refine ⟨_, rfl, ?_⟩
    try simp only [Act.put, List.setIfInBounds_toArray, List.set_cons_zero, List.set_cons_succ]
    refine wpAny_G (i := 28) (op := Op.binOp BinOp.eql 3 (Operand.tmp 70) (Operand.const (Value.int IntKind.i64 0)) 3) (t := 4) (d := some 71) (g := (25, true)) (v := ?_) rfl (by decide +kernel) (by decide +kernel) (by decide +kernel) (fun _ _ _ h => h) (by kernel_rfl) ?_ ?_
    case refine_2 => (intro _; unfold exec2; go_simp; try with_reducible rfl)
    try simp only [Act.put, List.setIfInBounds_toArray, List.set_cons_zero, List.set_cons_succ]
    refine wpAny_T (i := 29) (op := Op.pick (Operand.tmp 68) (Operand.tmp 71) (Operand.const (Value.bool false))) (t := 4) (d := some 72) (v := ?_) rfl (by decide +kernel) (by decide +kernel) (by decide +kernel) (fun _ _ _ h => h) ?_ ?_
    case refine_2 => (intro _; unfold exec2; go_simp; try with_reducible rfl)
    try simp only [Act.put, List.setIfInBounds_toArray, List.set_cons_zero, List.set_cons_succ]
    refine wpAny_T (i := 30) (op := Op.move (Operand.tmp 72)) (t := 4) (d := some 73) (v := ?_) rfl (by decide +kernel) (by decide +kernel) (by decide +kernel) (fun _ _ _ h => h) ?_ ?_
    case refine_2 => (intro _; unfold exec2; go_simp; try with_reducible rfl)
    try simp only [Act.put, List.setIfInBounds_toArray, List.set_cons_zero, List.set_cons_succ]
    refine wpAny_G (i := 31) (op := Op.move (Operand.tmp 4)) (t := 29) (d := some 74) (g := (30, true)) (v := ?_) rfl (by decide +kernel) (by decide +kernel) (by decide +kernel) (fun _ _ _ h => h) (by kernel_rfl) ?_ ?_
    case refine_2 => (intro _; unfold exec2; go_simp; try with_reducible rfl)
    try simp only [Act.put, List.setIfInBounds_toArray, List.set_cons_zero, List.set_cons_succ]
    refine wpAny_G (i := 32) (op := Op.binOp BinOp.neq 29 (Operand.tmp 74) (Operand.const (Value.int IntKind.i64 0)) 29) (t := 4) (d := some 75) (g := (30, true)) (v := ?_) rfl (by decide +kernel) (by decide +kernel) (by decide +kernel) (fun _ _ _ h => h) (by kernel_rfl) ?_ ?_
    case refine_2 => (intro _; unfold exec2; go_simp; try with_reducible rfl)
    try simp only [Act.put, List.setIfInBounds_toArray, List.set_cons_zero, List.set_cons_succ]
    refine wpAny_G (i := 33) (op := Op.move (Operand.tmp 75)) (t := 4) (d := some 76) (g := (30, true)) (v := ?_) rfl (by decide +kernel) (by decide +kernel) (by decide +kernel) (fun _ _ _ h => h) (by kernel_rfl) ?_ ?_
    case refine_2 => (intro _; unfold exec2; go_simp; try with_reducible rfl)
    try simp only [Act.put, List.setIfInBounds_toArray, List.set_cons_zero, List.set_cons_succ]
    refine wpAny_S (i := 34) (op := Op.move (Operand.tmp 3)) (t := 47) (d := some 77) (b := true) (g := (33, false)) rfl (by decide +kernel) (by decide +kernel) (by decide +kernel) (fun _ _ _ h => h) (by kernel_rfl) rfl ?_
    try simp only [Act.put, List.setIfInBounds_toArray, List.set_cons_zero, List.set_cons_succ]
    refine wpAny_S (i := 35) (op := Op.call { callee := Callee.value (Operand.func 40), args := #[Operand.tmp 77], argTypes := #[47] }) (t := 3) (d := some 78) (b := true) (g := (33, false)) rfl (by decide +kernel) (by decide +kernel) (by decide +kernel) (fun _ _ _ h => h) (by kernel_rfl) rfl ?_
    try simp only [Act.put, List.setIfInBounds_toArray, List.set_cons_zero, List.set_cons_succ]
    refine wpAny_S (i := 36) (op := Op.load 25 (Operand.tmp 1)) (t := 25) (d := some 79) (b := true) (g := (33, false)) rfl (by decide +kernel) (by decide +kernel) (by decide +kernel) (fun _ _ _ h => h) (by kernel_rfl) rfl ?_
    try simp only [Act.put, List.setIfInBounds_toArray, List.set_cons_zero, List.set_cons_succ]
    refine wpAny_S (i := 37) (op := Op.call { callee := Callee.value (Operand.func 41), args := #[Operand.tmp 79], argTypes := #[25] }) (t := 3) (d := some 80) (b := true) (g := (33, false)) rfl (by decide +kernel) (by decide +kernel) (by decide +kernel) (fun _ _ _ h => h) (by kernel_rfl) rfl ?_
    try simp only [Act.put, List.setIfInBounds_toArray, List.set_cons_zero, List.set_cons_succ]
    refine wpAny_S (i := 38) (op := Op.binOp BinOp.eql 3 (Operand.tmp 78) (Operand.tmp 80) 3) (t := 4) (d := some 81) (b := true) (g := (33, false)) rfl (by decide +kernel) (by decide +kernel) (by decide +kernel) (fun _ _ _ h => h) (by kernel_rfl) rfl ?_
    try simp only [Act.put, List.setIfInBounds_toArray, List.set_cons_zero, List.set_cons_succ]
    refine wpAny_G (i := 39) (op := Op.pick (Operand.tmp 76) (Operand.const (Value.bool true)) (Operand.tmp 81)) (t := 4) (d := some 82) (g := (30, true)) (v := ?_) rfl (by decide +kernel) (by decide +kernel) (by decide +kernel) (fun _ _ _ h => h) (by kernel_rfl) ?_ ?_
    case refine_2 => (intro _; unfold exec2; go_simp; try with_reducible rfl)
    try simp only [Act.put, List.setIfInBounds_toArray, List.set_cons_zero, List.set_cons_succ]
    refine wpAny_T (i := 40) (op := Op.pick (Operand.tmp 73) (Operand.tmp 82) (Operand.const (Value.bool false))) (t := 4) (d := some 83) (v := ?_) rfl (by decide +kernel) (by decide +kernel) (by decide +kernel) (fun _ _ _ h => h) ?_ ?_
    case refine_2 => (intro _; unfold exec2; go_simp; try with_reducible rfl)
    try simp only [Act.put, List.setIfInBounds_toArray, List.set_cons_zero, List.set_cons_succ]
    refine wpAny_T (i := 41) (op := Op.assign (Operand.tmp 83)) (t := 4) (d := some 2) (v := ?_) rfl (by decide +kernel) (by decide +kernel) (by decide +kernel) (fun _ _ _ h => h) ?_ ?_
    case refine_2 => (intro _; unfold exec2; go_simp; try with_reducible rfl)
    try simp only [Act.put, List.setIfInBounds_toArray, List.set_cons_zero, List.set_cons_succ]
    refine wpAny_done (by kernel_rfl) ?_ _
    go_simp
    go_wp2_with (fail)
    go_ret
    exact ⟨rfl, Ext.tr Xc.out (Ext.tr (Ext.tr (Ext.tr ((Ext.rf _).drew) xd) xe) xf)⟩
  · rw [hw1]
    have kb : (j.kind != 3) = true := by simpa using hw2
    subst hw3
    clear hw1 hw2
    go_wp2_with (fail)
    refine wp_region_any (by kernel_rfl) ?_
    change wpAny _ _ _ _ _ _ _ (World.drew _)
    refine wpAny_next 0 (by decide +kernel) (op_call (f := 34) (xs := #[]) (ts := #[]) (t := 4) (d := some 43) rfl #[] (by go_simp) (by kernel_rfl) _ (HAS0.out) ?_)
    rintro e wd ⟨rfl, xd⟩
    refine ⟨_, rfl, ?_⟩
    try simp only [Act.put, List.setIfInBounds_toArray, List.set_cons_zero, List.set_cons_succ]
    refine wpAny_T (i := 1) (op := Op.move (Operand.tmp 43)) (t := 4) (d := some 44) (v := ?_) rfl (by decide +kernel) (by decide +kernel) (by decide +kernel) (fun _ _ _ h => h) ?_ ?_
    case refine_2 => (intro _; unfold exec2; go_simp; try with_reducible rfl)
    try simp only [Act.put, List.setIfInBounds_toArray, List.set_cons_zero, List.set_cons_succ]
    refine wpAny_G (i := 2) (op := Op.move (Operand.tmp 4)) (t := 29) (d := some 45) (g := (1, true)) (v := ?_) rfl (by decide +kernel) (by decide +kernel) (by decide +kernel) (fun _ _ _ h => h) (by kernel_rfl) ?_ ?_
    case refine_2 => (intro _; unfold exec2; go_simp; try with_reducible rfl)
    try simp only [Act.put, List.setIfInBounds_toArray, List.set_cons_zero, List.set_cons_succ]
    refine wpAny_G (i := 3) (op := Op.move (Operand.tmp 11)) (t := 29) (d := some 46) (g := (1, true)) (v := ?_) rfl (by decide +kernel) (by decide +kernel) (by decide +kernel) (fun _ _ _ h => h) (by kernel_rfl) ?_ ?_
    case refine_2 => (intro _; unfold exec2; go_simp; try with_reducible rfl)
    try simp only [Act.put, List.setIfInBounds_toArray, List.set_cons_zero, List.set_cons_succ]
    refine wpAny_G (i := 4) (op := Op.binOp BinOp.eql 29 (Operand.tmp 45) (Operand.tmp 46) 29) (t := 4) (d := some 47) (g := (1, true)) (v := ?_) rfl (by decide +kernel) (by decide +kernel) (by decide +kernel) (fun _ _ _ h => h) (by kernel_rfl) ?_ ?_
    case refine_2 => (intro _; unfold exec2; go_simp; try with_reducible rfl)
    try simp only [Act.put, List.setIfInBounds_toArray, List.set_cons_zero, List.set_cons_succ]
    refine wpAny_T (i := 5) (op := Op.pick (Operand.tmp 44) (Operand.tmp 47) (Operand.const (Value.bool false))) (t := 4) (d := some 48) (v := ?_) rfl (by decide +kernel) (by decide +kernel) (by decide +kernel) (fun _ _ _ h => h) ?_ ?_
    case refine_2 => (intro _; unfold exec2; go_simp; try with_reducible rfl)
    try simp only [Act.put, List.setIfInBounds_toArray, List.set_cons_zero, List.set_cons_succ]
    refine wpAny_T (i := 6) (op := Op.move (Operand.tmp 48)) (t := 4) (d := some 49) (v := ?_) rfl (by decide +kernel) (by decide +kernel) (by decide +kernel) (fun _ _ _ h => h) ?_ ?_
    case refine_2 => (intro _; unfold exec2; go_simp; try with_reducible rfl)
    try simp only [Act.put, List.setIfInBounds_toArray, List.set_cons_zero, List.set_cons_succ]
    refine wpAny_G (i := 7) (op := Op.move (Operand.tmp 3)) (t := 47) (d := some 50) (g := (6, true)) (v := ?_) rfl (by decide +kernel) (by decide +kernel) (by decide +kernel) (fun _ _ _ h => h) (by kernel_rfl) ?_ ?_
    case refine_2 => (intro _; unfold exec2; go_simp; try with_reducible rfl)
    try simp only [Act.put, List.setIfInBounds_toArray, List.set_cons_zero, List.set_cons_succ]
    refine wpAny_G (i := 8) (op := Op.binOp BinOp.neq 47 (Operand.tmp 50) (Operand.const (Value.pointer none)) 47) (t := 4) (d := some 51) (g := (6, true)) (v := ?_) rfl (by decide +kernel) (by decide +kernel) (by decide +kernel) (fun _ _ _ h => h) (by kernel_rfl) ?_ ?_
    case refine_2 => (intro _; unfold exec2; go_simp; try with_reducible rfl)
    try simp only [Act.put, List.setIfInBounds_toArray, List.set_cons_zero, List.set_cons_succ]
    refine wpAny_G (i := 9) (op := Op.move (Operand.tmp 4)) (t := 29) (d := some 52) (g := (6, true)) (v := ?_) rfl (by decide +kernel) (by decide +kernel) (by decide +kernel) (fun _ _ _ h => h) (by kernel_rfl) ?_ ?_
    case refine_2 => (intro _; unfold exec2; go_simp; try with_reducible rfl)
    try simp only [Act.put, List.setIfInBounds_toArray, List.set_cons_zero, List.set_cons_succ]
    refine wpAny_G (i := 10) (op := Op.binOp BinOp.eql 29 (Operand.tmp 52) (Operand.const (Value.int IntKind.i64 0)) 29) (t := 4) (d := some 53) (g := (6, true)) (v := ?_) rfl (by decide +kernel) (by decide +kernel) (by decide +kernel) (fun _ _ _ h => h) (by kernel_rfl) ?_ ?_
    case refine_2 => (intro _; unfold exec2; go_simp; try with_reducible rfl)
    try simp only [Act.put, List.setIfInBounds_toArray, List.set_cons_zero, List.set_cons_succ]
    refine wpAny_G (i := 11) (op := Op.binOp BinOp.eql 4 (Operand.tmp 51) (Operand.tmp 53) 4) (t := 4) (d := some 54) (g := (6, true)) (v := ?_) rfl (by decide +kernel) (by decide +kernel) (by decide +kernel) (fun _ _ _ h => h) (by kernel_rfl) ?_ ?_
    case refine_2 => (intro _; unfold exec2; go_simp; try with_reducible rfl)
    try simp only [Act.put, List.setIfInBounds_toArray, List.set_cons_zero, List.set_cons_succ]
    refine wpAny_T (i := 12) (op := Op.pick (Operand.tmp 49) (Operand.tmp 54) (Operand.const (Value.bool false))) (t := 4) (d := some 55) (v := ?_) rfl (by decide +kernel) (by decide +kernel) (by decide +kernel) (fun _ _ _ h => h) ?_ ?_
    case refine_2 => (intro _; unfold exec2; go_simp; try with_reducible rfl)
    try simp only [Act.put, List.setIfInBounds_toArray, List.set_cons_zero, List.set_cons_succ]
    refine wpAny_T (i := 13) (op := Op.move (Operand.tmp 55)) (t := 4) (d := some 56) (v := ?_) rfl (by decide +kernel) (by decide +kernel) (by decide +kernel) (fun _ _ _ h => h) ?_ ?_
    case refine_2 => (intro _; unfold exec2; go_simp; try with_reducible rfl)
    try simp only [Act.put, List.setIfInBounds_toArray, List.set_cons_zero, List.set_cons_succ]
    refine wpAny_G (i := 14) (op := Op.move (Operand.tmp 6)) (t := 29) (d := some 57) (g := (13, true)) (v := ?_) rfl (by decide +kernel) (by decide +kernel) (by decide +kernel) (fun _ _ _ h => h) (by kernel_rfl) ?_ ?_
    case refine_2 => (intro _; unfold exec2; go_simp; try with_reducible rfl)
    try simp only [Act.put, List.setIfInBounds_toArray, List.set_cons_zero, List.set_cons_succ]
    refine wpAny_G (i := 15) (op := Op.binOp BinOp.eql 29 (Operand.tmp 57) (Operand.const (Value.int IntKind.i64 1)) 29) (t := 4) (d := some 58) (g := (13, true)) (v := ?_) rfl (by decide +kernel) (by decide +kernel) (by decide +kernel) (fun _ _ _ h => h) (by kernel_rfl) ?_ ?_
    case refine_2 => (intro _; unfold exec2; go_simp; try with_reducible rfl)
    try simp only [Act.put, List.setIfInBounds_toArray, List.set_cons_zero, List.set_cons_succ]
    refine wpAny_T (i := 16) (op := Op.pick (Operand.tmp 56) (Operand.tmp 58) (Operand.const (Value.bool false))) (t := 4) (d := some 59) (v := ?_) rfl (by decide +kernel) (by decide +kernel) (by decide +kernel) (fun _ _ _ h => h) ?_ ?_
    case refine_2 => (intro _; unfold exec2; go_simp; try with_reducible rfl)
    try simp only [Act.put, List.setIfInBounds_toArray, List.set_cons_zero, List.set_cons_succ]
    refine wpAny_T (i := 17) (op := Op.move (Operand.tmp 59)) (t := 4) (d := some 60) (v := ?_) rfl (by decide +kernel) (by decide +kernel) (by decide +kernel) (fun _ _ _ h => h) ?_ ?_
    case refine_2 => (intro _; unfold exec2; go_simp; try with_reducible rfl)
    try simp only [Act.put, List.setIfInBounds_toArray, List.set_cons_zero, List.set_cons_succ]
    refine wpAny_G (i := 18) (op := Op.move (Operand.tmp 8)) (t := 29) (d := some 61) (g := (17, true)) (v := ?_) rfl (by decide +kernel) (by decide +kernel) (by decide +kernel) (fun _ _ _ h => h) (by kernel_rfl) ?_ ?_
    case refine_2 => (intro _; unfold exec2; go_simp; try with_reducible rfl)
    try simp only [Act.put, List.setIfInBounds_toArray, List.set_cons_zero, List.set_cons_succ]
    refine wpAny_G (i := 19) (op := Op.binOp BinOp.eql 29 (Operand.tmp 61) (Operand.const (Value.int IntKind.i64 1)) 29) (t := 4) (d := some 62) (g := (17, true)) (v := ?_) rfl (by decide +kernel) (by decide +kernel) (by decide +kernel) (fun _ _ _ h => h) (by kernel_rfl) ?_ ?_
    case refine_2 => (intro _; unfold exec2; go_simp; try with_reducible rfl)
    try simp only [Act.put, List.setIfInBounds_toArray, List.set_cons_zero, List.set_cons_succ]
    refine wpAny_T (i := 20) (op := Op.pick (Operand.tmp 60) (Operand.tmp 62) (Operand.const (Value.bool false))) (t := 4) (d := some 63) (v := ?_) rfl (by decide +kernel) (by decide +kernel) (by decide +kernel) (fun _ _ _ h => h) ?_ ?_
    case refine_2 => (intro _; unfold exec2; go_simp; try with_reducible rfl)
    try simp only [Act.put, List.setIfInBounds_toArray, List.set_cons_zero, List.set_cons_succ]
    refine wpAny_T (i := 21) (op := Op.move (Operand.tmp 63)) (t := 4) (d := some 64) (v := ?_) rfl (by decide +kernel) (by decide +kernel) (by decide +kernel) (fun _ _ _ h => h) ?_ ?_
    case refine_2 => (intro _; unfold exec2; go_simp; try with_reducible rfl)
    try simp only [Act.put, List.setIfInBounds_toArray, List.set_cons_zero, List.set_cons_succ]
    refine wpAny_G (i := 22) (op := Op.move (Operand.tmp 10)) (t := 29) (d := some 65) (g := (21, true)) (v := ?_) rfl (by decide +kernel) (by decide +kernel) (by decide +kernel) (fun _ _ _ h => h) (by kernel_rfl) ?_ ?_
    case refine_2 => (intro _; unfold exec2; go_simp; try with_reducible rfl)
    try simp only [Act.put, List.setIfInBounds_toArray, List.set_cons_zero, List.set_cons_succ]
    refine wpAny_G (i := 23) (op := Op.binOp BinOp.eql 29 (Operand.tmp 65) (Operand.const (Value.int IntKind.i64 1)) 29) (t := 4) (d := some 66) (g := (21, true)) (v := ?_) rfl (by decide +kernel) (by decide +kernel) (by decide +kernel) (fun _ _ _ h => h) (by kernel_rfl) ?_ ?_
    case refine_2 => (intro _; unfold exec2; go_simp; try with_reducible rfl)
    try simp only [Act.put, List.setIfInBounds_toArray, List.set_cons_zero, List.set_cons_succ]
    refine wpAny_T (i := 24) (op := Op.pick (Operand.tmp 64) (Operand.tmp 66) (Operand.const (Value.bool false))) (t := 4) (d := some 67) (v := ?_) rfl (by decide +kernel) (by decide +kernel) (by decide +kernel) (fun _ _ _ h => h) ?_ ?_
    case refine_2 => (intro _; unfold exec2; go_simp; try with_reducible rfl)
    try simp only [Act.put, List.setIfInBounds_toArray, List.set_cons_zero, List.set_cons_succ]
    refine wpAny_T (i := 25) (op := Op.move (Operand.tmp 67)) (t := 4) (d := some 68) (v := ?_) rfl (by decide +kernel) (by decide +kernel) (by decide +kernel) (fun _ _ _ h => h) ?_ ?_
    case refine_2 => (intro _; unfold exec2; go_simp; try with_reducible rfl)
    try simp only [Act.put, List.setIfInBounds_toArray, List.set_cons_zero, List.set_cons_succ]
    refine wpAny_next 26 (by decide +kernel) (op_callG (f := 37) (xs := #[]) (ts := #[]) (t := 47) (d := some 69) rfl (by kernel_rfl) #[] (by go_simp) (by kernel_rfl) _ (nonet_any _) ?_)
    rintro e we ⟨rfl, xe⟩
    refine ⟨_, rfl, ?_⟩
    try simp only [Act.put, List.setIfInBounds_toArray, List.set_cons_zero, List.set_cons_succ]
    refine wpAny_next 27 (by decide +kernel) (op_callG (f := 40) (xs := #[Operand.tmp 69]) (ts := #[47]) (t := 3) (d := some 70) rfl (by kernel_rfl) #[.pointer none] (by go_simp) (by kernel_rfl) _ (deptht_nil _) ?_)
    rintro e wf ⟨rfl, xf⟩
    refine ⟨_, rfl, ?_⟩
    try simp only [Act.put, List.setIfInBounds_toArray, List.set_cons_zero, List.set_cons_succ]
    refine wpAny_G (i := 28) (op := Op.binOp BinOp.eql 3 (Operand.tmp 70) (Operand.const (Value.int IntKind.i64 0)) 3) (t := 4) (d := some 71) (g := (25, true)) (v := ?_) rfl (by decide +kernel) (by decide +kernel) (by decide +kernel) (fun _ _ _ h => h) (by kernel_rfl) ?_ ?_
    case refine_2 => (intro _; unfold exec2; go_simp; try with_reducible rfl)
    try simp only [Act.put, List.setIfInBounds_toArray, List.set_cons_zero, List.set_cons_succ]
    refine wpAny_T (i := 29) (op := Op.pick (Operand.tmp 68) (Operand.tmp 71) (Operand.const (Value.bool false))) (t := 4) (d := some 72) (v := ?_) rfl (by decide +kernel) (by decide +kernel) (by decide +kernel) (fun _ _ _ h => h) ?_ ?_
    case refine_2 => (intro _; unfold exec2; go_simp; try with_reducible rfl)
    try simp only [Act.put, List.setIfInBounds_toArray, List.set_cons_zero, List.set_cons_succ]
    refine wpAny_T (i := 30) (op := Op.move (Operand.tmp 72)) (t := 4) (d := some 73) (v := ?_) rfl (by decide +kernel) (by decide +kernel) (by decide +kernel) (fun _ _ _ h => h) ?_ ?_
    case refine_2 => (intro _; unfold exec2; go_simp; try with_reducible rfl)
    try simp only [Act.put, List.setIfInBounds_toArray, List.set_cons_zero, List.set_cons_succ]
    refine wpAny_G (i := 31) (op := Op.move (Operand.tmp 4)) (t := 29) (d := some 74) (g := (30, true)) (v := ?_) rfl (by decide +kernel) (by decide +kernel) (by decide +kernel) (fun _ _ _ h => h) (by kernel_rfl) ?_ ?_
    case refine_2 => (intro _; unfold exec2; go_simp; try with_reducible rfl)
    try simp only [Act.put, List.setIfInBounds_toArray, List.set_cons_zero, List.set_cons_succ]
    refine wpAny_G (i := 32) (op := Op.binOp BinOp.neq 29 (Operand.tmp 74) (Operand.const (Value.int IntKind.i64 0)) 29) (t := 4) (d := some 75) (g := (30, true)) (v := ?_) rfl (by decide +kernel) (by decide +kernel) (by decide +kernel) (fun _ _ _ h => h) (by kernel_rfl) ?_ ?_
    case refine_2 => (intro _; unfold exec2; go_simp; try with_reducible rfl)
    try simp only [Act.put, List.setIfInBounds_toArray, List.set_cons_zero, List.set_cons_succ]
    refine wpAny_G (i := 33) (op := Op.move (Operand.tmp 75)) (t := 4) (d := some 76) (g := (30, true)) (v := ?_) rfl (by decide +kernel) (by decide +kernel) (by decide +kernel) (fun _ _ _ h => h) (by kernel_rfl) ?_ ?_
    case refine_2 => (intro _; unfold exec2; go_simp; try with_reducible rfl)
    try simp only [Act.put, List.setIfInBounds_toArray, List.set_cons_zero, List.set_cons_succ]
    refine wpAny_S (i := 34) (op := Op.move (Operand.tmp 3)) (t := 47) (d := some 77) (b := true) (g := (33, false)) rfl (by decide +kernel) (by decide +kernel) (by decide +kernel) (fun _ _ _ h => h) (by kernel_rfl) rfl ?_
    try simp only [Act.put, List.setIfInBounds_toArray, List.set_cons_zero, List.set_cons_succ]
    refine wpAny_S (i := 35) (op := Op.call { callee := Callee.value (Operand.func 40), args := #[Operand.tmp 77], argTypes := #[47] }) (t := 3) (d := some 78) (b := true) (g := (33, false)) rfl (by decide +kernel) (by decide +kernel) (by decide +kernel) (fun _ _ _ h => h) (by kernel_rfl) rfl ?_
    try simp only [Act.put, List.setIfInBounds_toArray, List.set_cons_zero, List.set_cons_succ]
    refine wpAny_S (i := 36) (op := Op.load 25 (Operand.tmp 1)) (t := 25) (d := some 79) (b := true) (g := (33, false)) rfl (by decide +kernel) (by decide +kernel) (by decide +kernel) (fun _ _ _ h => h) (by kernel_rfl) rfl ?_
    try simp only [Act.put, List.setIfInBounds_toArray, List.set_cons_zero, List.set_cons_succ]
    refine wpAny_S (i := 37) (op := Op.call { callee := Callee.value (Operand.func 41), args := #[Operand.tmp 79], argTypes := #[25] }) (t := 3) (d := some 80) (b := true) (g := (33, false)) rfl (by decide +kernel) (by decide +kernel) (by decide +kernel) (fun _ _ _ h => h) (by kernel_rfl) rfl ?_
    try simp only [Act.put, List.setIfInBounds_toArray, List.set_cons_zero, List.set_cons_succ]
    refine wpAny_S (i := 38) (op := Op.binOp BinOp.eql 3 (Operand.tmp 78) (Operand.tmp 80) 3) (t := 4) (d := some 81) (b := true) (g := (33, false)) rfl (by decide +kernel) (by decide +kernel) (by decide +kernel) (fun _ _ _ h => h) (by kernel_rfl) rfl ?_
    try simp only [Act.put, List.setIfInBounds_toArray, List.set_cons_zero, List.set_cons_succ]
    refine wpAny_G (i := 39) (op := Op.pick (Operand.tmp 76) (Operand.const (Value.bool true)) (Operand.tmp 81)) (t := 4) (d := some 82) (g := (30, true)) (v := ?_) rfl (by decide +kernel) (by decide +kernel) (by decide +kernel) (fun _ _ _ h => h) (by kernel_rfl) ?_ ?_
    case refine_2 => (intro _; unfold exec2; go_simp; try with_reducible rfl)
    try simp only [Act.put, List.setIfInBounds_toArray, List.set_cons_zero, List.set_cons_succ]
    refine wpAny_T (i := 40) (op := Op.pick (Operand.tmp 73) (Operand.tmp 82) (Operand.const (Value.bool false))) (t := 4) (d := some 83) (v := ?_) rfl (by decide +kernel) (by decide +kernel) (by decide +kernel) (fun _ _ _ h => h) ?_ ?_
    case refine_2 => (intro _; unfold exec2; go_simp; try with_reducible rfl)
    try simp only [Act.put, List.setIfInBounds_toArray, List.set_cons_zero, List.set_cons_succ]
    refine wpAny_T (i := 41) (op := Op.assign (Operand.tmp 83)) (t := 4) (d := some 2) (v := ?_) rfl (by decide +kernel) (by decide +kernel) (by decide +kernel) (fun _ _ _ h => h) ?_ ?_
    case refine_2 => (intro _; unfold exec2; go_simp; try with_reducible rfl)
    try simp only [Act.put, List.setIfInBounds_toArray, List.set_cons_zero, List.set_cons_succ]
    refine wpAny_done (by kernel_rfl) ?_ _
    go_simp
    go_wp2_with (fail)
    go_ret
    exact ⟨rfl, Ext.tr Xc.out (Ext.tr (Ext.tr (Ext.tr ((Ext.rf _).drew) xd) xe) xf)⟩
set_option maxRecDepth 100000 in
set_option maxHeartbeats 4000000 in
theorem walk_yes (i j : InstP) (hj : j = copyP i) (vs : List Value) (w : World) (hT : Tab w) (H : RInst w vs i) (hc : checkP j = 0) (hk : j.kind = 3) :
    Calls Tryd.prog 9 #[.agg (List.toArray vs)] w fun e w' => e = .returned (.bool true) ∧ Ext w w' := by
  have hn := fun (us : List Value) (W : World) (h : RInst W us j) => newt_yes j us W h hc hk
  have HL : Hid ((j.cost.length : Int) = j.n) := (square_ok hc (by omega)).len
  have rok := rows_ok (square_ok hc (by omega))
  have HN : Hid (-1000000 ≤ j.n ∧ j.n ≤ 1000000) := by
    have h1 := HL.out
    have h2 := rok.n1
    have h3 := rok.n2
    have h : -1000000 ≤ j.n ∧ j.n ≤ 1000000 := by omega
    exact h
  have rn1 := rok.n1
  have rn2 := rok.n2
  clear rok
  have CP := fun (W : World) (x : Ext w W) => copy_to hj vs W (H.ext x)
  have hI : InstInts j := hj ▸ H.ints.copy
  have RC := fun (us : List Value) (W : World) (h : RInst W us j) => rcheck_any j us W h
  clear hj
  obtain ⟨A, a, B, b, C, c, rfl, -, -, -⟩ := H
  have B1 : Hid (Blk (w.alloc (.cells #[.int .i64 i.kind, .int .i64 i.n, .int .i64 i.cap, .slice A i.weight.length a, .slice B i.value.length b, .slice C i.cost.length c] 25)) w.heap.size 25 #[.int .i64 i.kind, .int .i64 i.n, .int .i64 i.cap, .slice A i.weight.length a, .slice B i.value.length b, .slice C i.cost.length c]) := .new rfl
  replace CP := Lib.hid CP
  replace hT := Lib.hid hT
  replace hn := Lib.hid hn
  replace RC := Lib.hid RC
  replace hc := Lib.hid hc
  replace hk := Lib.hid hk
  go_enter Tryd.func9, Tryd.ntmps9
  go_wp2_with (fail)
  refine (CP.out _ (by (repeat (first | assumption | exact Ext.rf _ | apply Ext.drew | apply Ext.drewN | apply Ext.alloc)))).mono ?_
  rintro e w2 ⟨us, rfl, O2, x2⟩
  obtain ⟨A3, l3, d3, A4, l4, d4, A5, l5, d5, rfl⟩ := O2.six
  have X2 := Ext.tr (a := w) (by (repeat (first | assumption | exact Ext.rf _ | apply Ext.drew | apply Ext.drewN | apply Ext.alloc))) x2
  have B2 := B1.out.ext x2
  obtain ⟨X3, B3, O3⟩ := put_copy B2 X2 O2
  have t0 : w2.cell? ⟨w.heap.size, 0, none⟩ = some (.int .i64 i.kind) := B2.cell 0
  have t1 : w2.cell? ⟨w.heap.size, 1, none⟩ = some (.int .i64 i.n) := B2.cell 1
  have t2 : w2.cell? ⟨w.heap.size, 2, none⟩ = some (.int .i64 i.cap) := B2.cell 2
  have t3 : w2.cell? ⟨w.heap.size, 3, none⟩ = some (.slice A i.weight.length a) := B2.cell 3
  have t4 : w2.cell? ⟨w.heap.size, 4, none⟩ = some (.slice B i.value.length b) := B2.cell 4
  have t5 : w2.cell? ⟨w.heap.size, 5, none⟩ = some (.slice C i.cost.length c) := B2.cell 5
  have f0 := B2.free 0
  have f1 := B2.free 1
  have f2 := B2.free 2
  have f3 := B2.free 3
  have f4 := B2.free 4
  have f5 := B2.free 5
  replace X2 := Lib.hid X2
  replace B2 := Lib.hid B2
  replace X3 := Lib.hid X3
  replace B3 := Lib.hid B3
  replace O3 := Lib.hid O3
  clear O2 x2
  go_wp2_with (fail)
  refine (hn.out _ _ (O3.out.rinst hI)).mono ?_
  rintro e w4 ⟨g, rfl, K4, x4⟩
  replace K4 := Lib.hid K4
  have X4 := Lib.hid (X3.out.tr x4)
  have B4 := Lib.hid (B3.out.ext x4)
  have O4 := Lib.hid (O3.out.ext x4)
  clear t0 t1 t2 t3 t4 t5 f0 f1 f2 f3 f4 f5 x4 X3 B3 O3 X2 B2
  go_wp2_with (fail)
  refine (nonet_any _).mono ?_
  rintro e w5 ⟨rfl, x5⟩
  go_wp2_with (fail)
  refine (kidst_nil _ _).mono ?_
  rintro e w6 ⟨rfl, x6⟩
  go_wp2_with (fail)
  refine (nonet_any _).mono ?_
  rintro e w7 ⟨rfl, x7⟩
  go_wp2_with (fail)
  refine (boundt_nil _ _).mono ?_
  rintro e w8 ⟨rfl, x8⟩
  go_wp2_with (fail)
  refine (nonet_any _).mono ?_
  rintro e w9 ⟨rfl, x9⟩
  go_wp2_with (fail)
  refine (answert_nil _ _).mono ?_
  rintro e wa ⟨rfl, xa⟩
  have y := Lib.hid (Ext.tr (Ext.tr (Ext.tr (Ext.tr (Ext.tr x5 x6) x7) x8) x9) xa)
  have Xa := Lib.hid (X4.out.tr y.out)
  have Ba := Lib.hid (B4.out.ext y.out)
  have Oa := Lib.hid (O4.out.ext y.out)
  clear x5 x6 x7 x8 x9 xa X4 B4 O4
  have c0 : wa.cell? ⟨w.heap.size, 0, none⟩ = some (.int .i64 j.kind) := Ba.out.cell 0
  have c1 : wa.cell? ⟨w.heap.size, 1, none⟩ = some (.int .i64 j.n) := Ba.out.cell 1
  have c2 : wa.cell? ⟨w.heap.size, 2, none⟩ = some (.int .i64 j.cap) := Ba.out.cell 2
  have c3 : wa.cell? ⟨w.heap.size, 3, none⟩ = some (.slice A3 l3 d3) := Ba.out.cell 3
  have c4 : wa.cell? ⟨w.heap.size, 4, none⟩ = some (.slice A4 l4 d4) := Ba.out.cell 4
  have c5 : wa.cell? ⟨w.heap.size, 5, none⟩ = some (.slice A5 l5 d5) := Ba.out.cell 5
  go_wp2_with (fail)
  refine (RC.out _ _ (Oa.out.rinst hI)).mono ?_
  rintro e wc ⟨rfl, xc⟩
  have Xc := Lib.hid (Xa.out.tr xc)
  have HAS := Lib.hid (fun (W : World) (x : Ext wc W) => tours_any W (hT.out.ext (Xc.out.tr x)))
  have Kc := Lib.hid ((K4.out.ext y.out).ext xc)
  have BC := Lib.hid (Ba.out.ext xc)
  have q0 : wc.cell? ⟨w.heap.size, 0, none⟩ = some (.int .i64 j.kind) := BC.out.cell 0
  have q1 : wc.cell? ⟨w.heap.size, 1, none⟩ = some (.int .i64 j.n) := BC.out.cell 1
  have q2 : wc.cell? ⟨w.heap.size, 2, none⟩ = some (.int .i64 j.cap) := BC.out.cell 2
  have q3 : wc.cell? ⟨w.heap.size, 3, none⟩ = some (.slice A3 l3 d3) := BC.out.cell 3
  have q4 : wc.cell? ⟨w.heap.size, 4, none⟩ = some (.slice A4 l4 d4) := BC.out.cell 4
  have q5 : wc.cell? ⟨w.heap.size, 5, none⟩ = some (.slice A5 l5 d5) := BC.out.cell 5
  have zb := BC.out.lt
  clear c0 c1 c2 c3 c4 c5 xc
  rw [hc.out]
  have kb : (j.kind != 3) = false := by rw [hk.out]; rfl
  have HD := Lib.hid (fun W (x : Ext wc W) => deptht_any W (Kc.out.ext x) rn1 rn2)
  have lb : ((j.cost.length : Int) - 1 == j.n - 1) = true := by rw [beq_iff_eq, HL.out]
  go_wp2_with (fail)
  go_region_held3 (fun w' => w'.cell? ⟨w.heap.size, 0, none⟩ = some (.int .i64 j.kind) ∧ w'.cell? ⟨w.heap.size, 1, none⟩ = some (.int .i64 j.n) ∧ w'.cell? ⟨w.heap.size, 2, none⟩ = some (.int .i64 j.cap) ∧ w'.cell? ⟨w.heap.size, 3, none⟩ = some (.slice A3 l3 d3) ∧ w'.cell? ⟨w.heap.size, 4, none⟩ = some (.slice A4 l4 d4) ∧ w'.cell? ⟨w.heap.size, 5, none⟩ = some (.slice A5 l5 d5)) (go_keep)
    (first
      | (go_at_call 34; refine (HAS.out _ (by (repeat (first | assumption | exact Ext.rf _ | apply Ext.drew | apply Ext.drewN | apply Ext.alloc)))).mono ?_; rintro e wd ⟨rfl, xd⟩; have yd := Ext.tr (a := wc) (by (repeat (first | assumption | exact Ext.rf _ | apply Ext.drew | apply Ext.drewN | apply Ext.alloc))) xd; have s0 := keepEL yd zb q0; have s1 := keepEL yd zb q1; have s2 := keepEL yd zb q2; have s3 := keepEL yd zb q3; have s4 := keepEL yd zb q4; have s5 := keepEL yd zb q5)
      | (go_at_call 37; refine (nonet_any _).mono ?_; rintro e we ⟨rfl, xe⟩; have ye := Ext.tr (a := wc) (by (repeat (first | assumption | exact Ext.rf _ | apply Ext.drew | apply Ext.drewN | apply Ext.alloc))) xe; have s0 := keepEL ye zb q0; have s1 := keepEL ye zb q1; have s2 := keepEL ye zb q2; have s3 := keepEL ye zb q3; have s4 := keepEL ye zb q4; have s5 := keepEL ye zb q5)
      | (go_at_call_of 40 (Value.pointer none); refine (deptht_nil _).mono ?_; rintro e wf ⟨rfl, xf⟩; have yf := Ext.tr (a := wc) (by (repeat (first | assumption | exact Ext.rf _ | apply Ext.drew | apply Ext.drewN | apply Ext.alloc))) xf; have s0 := keepEL yf zb q0; have s1 := keepEL yf zb q1; have s2 := keepEL yf zb q2; have s3 := keepEL yf zb q3; have s4 := keepEL yf zb q4; have s5 := keepEL yf zb q5)
      | (go_at_call_of 40 (Value.pointer (some ⟨g, 0, none⟩)); refine (HD.out _ (by (repeat (first | assumption | exact Ext.rf _ | apply Ext.drew | apply Ext.drewN | apply Ext.alloc)))).mono ?_; rintro e wg ⟨rfl, xg⟩; have yg := Ext.tr (a := wc) (by (repeat (first | assumption | exact Ext.rf _ | apply Ext.drew | apply Ext.drewN | apply Ext.alloc))) xg; have s0 := keepEL yg zb q0; have s1 := keepEL yg zb q1; have s2 := keepEL yg zb q2; have s3 := keepEL yg zb q3; have s4 := keepEL yg zb q4; have s5 := keepEL yg zb q5)
      | (go_at_call 41; refine (rdepth13_gen _ _ _ _ _ _ _ HN.out).mono ?_; rintro e wh ⟨rfl, xh⟩; have yh := Ext.tr (a := wc) (by (repeat (first | assumption | exact Ext.rf _ | apply Ext.drew | apply Ext.drewN | apply Ext.alloc))) xh; have s0 := keepEL yh zb q0; have s1 := keepEL yh zb q1; have s2 := keepEL yh zb q2; have s3 := keepEL yh zb q3; have s4 := keepEL yh zb q4; have s5 := keepEL yh zb q5))
  all_goals go_wp2
  all_goals go_ret
  all_goals exact ⟨rfl, Ext.tr Xc.out (by (repeat (first | assumption | exact Ext.rf _ | apply Ext.drew | apply Ext.drewN | apply Ext.alloc)))⟩
theorem walk (vs : List Value) (i : InstP) (w : World) (hT : Tab w) (H : RInst w vs i) (_ : InstOk i) :
    Calls Tryd.prog 9 #[.agg (List.toArray vs)] w fun e w' => e = .returned (.bool true) ∧ Ext w w' := by
  obtain ⟨l1, l2, _⟩ := copyP_lens i
  by_cases hc : checkP (copyP i) = 0
  · by_cases hk : (copyP i).kind = 3
    · exact walk_yes i (copyP i) rfl vs w hT H hc hk
    · exact walk_no i (copyP i) rfl vs w hT H 14 (by omega) (fun us W h => newt_kind (copyP i) us W h (by omega) (by omega) hc hk) (.inr ⟨hc, hk, rfl⟩)
  · exact walk_no i (copyP i) rfl vs w hT H (checkP (copyP i)) hc (fun us W h => newt_bad (copyP i) us W h (by omega) (by omega) hc) (.inl rfl)

set_option maxRecDepth 100000 in
theorem lifted (os : Os) (started : os.Started) (H : Type) (enc : TypeId × Value → H) :
    ReturnsInHanded {} Tryd.checked os 9 .any (fun w args => (Rows.tourNewsSpec.pre enc Tryd.prog Tryd.f9 Rows.tourNewsRow.domain false w args ∧ laidMetH Tryd.prog tabL w) ∧ sizedMet enc Tryd.prog Tryd.f9 (OpenSpec.ofChange Rows.tourNewsSpec) false w args) (Rows.tourNewsSpec.post enc Tryd.prog Tryd.f9 false true false false) := by
  refine returnsInHanded_of_change_and (C := Tryd.checked) (X := fun w _ => laidMetH Tryd.prog tabL w) (fun _ _ _ hh h => h.of_heap hh) own started (by kernel_rfl) Tryd.func9
    (ChangeSpec.witness_shaped (enc := enc) (C := Tryd.checked) (os := os) (X := fun w _ => laidMetH Tryd.prog tabL w) false (World.laidAll Tryd.prog os tabL) #[.agg #[.int .i64 0, .int .i64 0, .int .i64 0, .slice none 0 0, .slice none 0 0, .slice none 0 0]] 8 (World.laidAll_os _ _ _)
      (World.shaped_of_ZipB (by kernel_rfl) (by kernel_rfl)) (by kernel_rfl) (by kernel_rfl) (by kernel_rfl)
      (by rw [MakeChecks.laidMetH_plain _ _ _ (by kernel_rfl)]; exact laidMet_laidAll _ (by kernel_rfl) (by kernel_rfl))) ?_
  intro W base args ds gs before hval0 hW _ _ hL _
  have hval : ∀ (j : Nat) t v, Tryd.f9.params[j]? = some t → args[j]? = some v → Value.okWide Tryd.prog W .any base t v := hval0
  have hW' := hW
  obtain ⟨p, q, hA0, hV, rfl, hfz, hnd⟩ := hW
  have hA : DataW.TrodAll enc Tryd.prog W 0 (fun _ => true) true Tryd.f9.params.toList args.toList ds p := hA0
  rw [Tryd.params9] at hA hval
  obtain ⟨v0, vs0, d0, ds0, p0, q0, hargs, rfl, rfl, h0, r0⟩ := trodAll_cons hA
  obtain ⟨rfl, rfl, rfl⟩ := trodAll_nil r0
  obtain rfl : args = #[v0] := by cases args; simp_all
  obtain ⟨rfl, rfl⟩ := trodVars_none hV
  obtain ⟨y0, x0, rfl, hx0, ix0⟩ := open_Inst h0 (hval 0 _ v0 rfl rfl)
  refine (walk y0 x0 W (tab_of_laid hL) hx0 ix0).mono fun e W' ⟨he, hg⟩ => ?_
  subst he
  exact ⟨_, rfl, post_law hW' rfl rfl rfl rfl rfl (readable_of (by kernel_rfl)) hg⟩

theorem row : Rows.TourNewsSaid :=
  OpenClaim.holds_of_wide 9 Tryd.f9 rfl rfl rfl rfl rfl rfl rfl ⟨rfl, rfl, rfl, rfl, rfl⟩ rfl rfl rfl rfl rfl (by kernel_rfl) Tryd.func9 (by kernel_rfl)
    (of_decide_eq_true (by kernel_rfl)) (by unfold Func.isWrapper; first | (rw [if_pos (by decide +kernel)]; kernel_rfl) | (rw [if_neg (by decide +kernel)]; exact ⟨rfl, rfl⟩))
    (fun os started H enc _ => lifted os started H enc)
theorem proved : Rows.TourNewsCardSaid :=
  Claim7.holds_tied_plain_at .later [] [.data] true Rows.tourNewsCard.stood.harness false row (fun _ h => by cases h) (by kernel_rfl) (fun _ h => by cases h) tourNews_row_tie rfl ⟨rfl, rfl⟩ (by kernel_rfl) rfl
    (fun f fn hf hfn => by
      obtain rfl : f = 9 := Option.some.inj ((show Tryd.prog.funcNamed "kurgan/kurganlaw13.TourNews" = some 9 by kernel_rfl).symm.trans hf) |>.symm
      obtain rfl : fn = Tryd.f9 := (Option.some.inj (Tryd.func9.symm.trans hfn)).symm
      exact ⟨by kernel_rfl, fun j t ht => by
        rw [Tryd.params9] at ht
        have hm : t ∈ [25] := by simpa using Array.mem_of_getElem? ht
        have hall : ([25].all fun u => !Tryd.prog.wantsStandIn u) = true := by kernel_rfl
        exact (show Tryd.prog.wantsStandIn t = false by simpa using List.all_eq_true.1 hall t hm)⟩)
    (by kernel_rfl)
end Go.Proofs.YtpngflmngnjjoaaDoor.tourNews
