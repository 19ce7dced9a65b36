/-
  KernelFaces: of all problems Of tells the kernel of their kind, and what is behind its face is told by its kind alone.
-/
import Derived.Test.YtleckhbmciiooaaFaceB
import Derived.Test.YtleckhbmciiooaaFaceD
import Derived.Test.YtleckhbmciiooaaRows
import Derived.Test.YtleckhbmciiooaaChecked
namespace Go.Proofs.Ytleckhbmciiooaa.kernelFaces
open Go.RowKit Go.ChangeShapes Go.WideShapes Go.ChangeAt Go.Deep

set_option maxRecDepth 100000 in
set_option maxHeartbeats 4000000 in
theorem walk_no (i j : InstP) (hj : j = copyP i) (vs : List Value) (w : World) (H : RInst w vs i) (er : Int) (he : er ≠ 0) (her : checkP j = er) :
    Calls Try.prog 8 #[.agg (List.toArray vs)] w fun e w' => e = .returned (.bool true) ∧ Ext w w' := by
  obtain ⟨l1, l2, _⟩ := copyP_lens i
  rw [← hj] at l1 l2
  have OF := fun (us : List Value) (W : World) (h : RInst W us j) => of_no j us W h (by omega) (by omega) (by rw [her]; exact he)
  have RC := fun (us : List Value) (W : World) (h : RInst W us j) => rcheck_any j us W h
  rw [her] at OF RC
  have e0 : (er == 0) = false := by simpa using he
  have e1 : (er != 0) = true := by simpa using he
  clear l1 l2 her he
  have CP := fun (W : World) (x : Ext w W) => copy_to hj vs W (H.ext x)
  have hI : InstInts j := hj ▸ H.ints.copy
  clear hj
  obtain ⟨A, a, B, b, C, c, rfl, -, -, -⟩ := H
  have B1 : Hid (Blk (w.alloc (.cells #[.int .i64 i.kind, .int .i64 i.n, .int .i64 i.cap, .slice A i.weight.length a, .slice B i.value.length b, .slice C i.cost.length c] 25)) w.heap.size 25 #[.int .i64 i.kind, .int .i64 i.n, .int .i64 i.cap, .slice A i.weight.length a, .slice B i.value.length b, .slice C i.cost.length c]) := .new rfl
  replace CP := Lib.hid CP
  replace RC := Lib.hid RC
  replace OF := Lib.hid OF
  go_enter Try.func8, Try.ntmps8
  go_wp2_with (fail)
  refine (CP.out _ (by (repeat (first | assumption | exact Ext.rf _ | apply Ext.drew | apply Ext.drewN | apply Ext.alloc)))).mono ?_
  rintro e w2 ⟨us, rfl, O2, x2⟩
  obtain ⟨A3, l3, d3, A4, l4, d4, A5, l5, d5, rfl⟩ := O2.six
  have X2 := Ext.tr (a := w) (by (repeat (first | assumption | exact Ext.rf _ | apply Ext.drew | apply Ext.drewN | apply Ext.alloc))) x2
  have B2 := B1.out.ext x2
  obtain ⟨X3, B3, O3⟩ := put_copy B2 X2 O2
  have t0 : w2.cell? ⟨w.heap.size, 0, none⟩ = some (.int .i64 i.kind) := B2.cell 0
  have t1 : w2.cell? ⟨w.heap.size, 1, none⟩ = some (.int .i64 i.n) := B2.cell 1
  have t2 : w2.cell? ⟨w.heap.size, 2, none⟩ = some (.int .i64 i.cap) := B2.cell 2
  have t3 : w2.cell? ⟨w.heap.size, 3, none⟩ = some (.slice A i.weight.length a) := B2.cell 3
  have t4 : w2.cell? ⟨w.heap.size, 4, none⟩ = some (.slice B i.value.length b) := B2.cell 4
  have t5 : w2.cell? ⟨w.heap.size, 5, none⟩ = some (.slice C i.cost.length c) := B2.cell 5
  have f0 := B2.free 0
  have f1 := B2.free 1
  have f2 := B2.free 2
  have f3 := B2.free 3
  have f4 := B2.free 4
  have f5 := B2.free 5
  replace X3 := Lib.hid X3
  replace B3 := Lib.hid B3
  replace O3 := Lib.hid O3
  clear O2 x2 X2 B2
  go_upto_region 2 with (fail)
  generalize ((((((w2.setCell ⟨w.heap.size, 0, none⟩ (.int .i64 j.kind)).setCell ⟨w.heap.size, 1, none⟩ (.int .i64 j.n)).setCell ⟨w.heap.size, 2, none⟩ (.int .i64 j.cap)).setCell ⟨w.heap.size, 3, none⟩ (.slice A3 l3 d3)).setCell ⟨w.heap.size, 4, none⟩ (.slice A4 l4 d4)).setCell ⟨w.heap.size, 5, none⟩ (.slice A5 l5 d5)) = w3 at *
  clear t0 t1 t2 t3 t4 t5 f0 f1 f2 f3 f4 f5
  have t0 : w3.cell? ⟨w.heap.size, 0, none⟩ = some (.int .i64 j.kind) := B3.out.cell 0
  have t1 : w3.cell? ⟨w.heap.size, 1, none⟩ = some (.int .i64 j.n) := B3.out.cell 1
  have t2 : w3.cell? ⟨w.heap.size, 2, none⟩ = some (.int .i64 j.cap) := B3.out.cell 2
  have t3 : w3.cell? ⟨w.heap.size, 3, none⟩ = some (.slice A3 l3 d3) := B3.out.cell 3
  have t4 : w3.cell? ⟨w.heap.size, 4, none⟩ = some (.slice A4 l4 d4) := B3.out.cell 4
  have t5 : w3.cell? ⟨w.heap.size, 5, none⟩ = some (.slice A5 l5 d5) := B3.out.cell 5
  go_wp2_with (fail)
  refine (OF.out _ _ (O3.out.rinst hI)).mono ?_
  rintro e w4 ⟨rfl, x4⟩
  have X4 := Lib.hid (X3.out.tr x4)
  have B4 := Lib.hid (B3.out.ext x4)
  have O4 := Lib.hid (O3.out.ext x4)
  clear X3 B3 O3 x4 t0 t1 t2 t3 t4 t5
  have t0 : w4.cell? ⟨w.heap.size, 0, none⟩ = some (.int .i64 j.kind) := B4.out.cell 0
  have t1 : w4.cell? ⟨w.heap.size, 1, none⟩ = some (.int .i64 j.n) := B4.out.cell 1
  have t2 : w4.cell? ⟨w.heap.size, 2, none⟩ = some (.int .i64 j.cap) := B4.out.cell 2
  have t3 : w4.cell? ⟨w.heap.size, 3, none⟩ = some (.slice A3 l3 d3) := B4.out.cell 3
  have t4 : w4.cell? ⟨w.heap.size, 4, none⟩ = some (.slice A4 l4 d4) := B4.out.cell 4
  have t5 : w4.cell? ⟨w.heap.size, 5, none⟩ = some (.slice A5 l5 d5) := B4.out.cell 5
  go_wp2_with (fail)
  refine (RC.out _ _ (O4.out.rinst hI)).mono ?_
  rintro e w5 ⟨rfl, x5⟩
  have X5 := Lib.hid (X4.out.tr x5)
  have B5 := Lib.hid (B4.out.ext x5)
  clear X4 B4 O4 x5 t0 t1 t2 t3 t4 t5
  go_wp2_with (fail)
  refine (fkids_nil _ _).mono ?_
  rintro e w6 ⟨rfl, x6⟩
  have X6 := Lib.hid (X5.out.tr x6)
  have B6 := Lib.hid (B5.out.ext x6)
  clear X5 B5 x6
  go_wp2_with (fail)
  refine (fbound_nil _ _).mono ?_
  rintro e w7 ⟨rfl, x7⟩
  have X7 := Lib.hid (X6.out.tr x7)
  have B7 := Lib.hid (B6.out.ext x7)
  clear X6 B6 x7
  go_wp2_with (fail)
  refine (fanswer_nil _ _).mono ?_
  rintro e w8 ⟨rfl, x8⟩
  have X8 := Lib.hid (X7.out.tr x8)
  have B8 := Lib.hid (B7.out.ext x8)
  clear X7 B7 x8
  go_wp2_with (fail)
  refine (fdepth_nil _).mono ?_
  rintro e w9 ⟨rfl, x9⟩
  have X9 := Lib.hid (X8.out.tr x9)
  have B9 := Lib.hid (B8.out.ext x9)
  clear X8 B8 x9
  go_wp2_with (fail)
  refine (kernels_any _).mono ?_
  rintro e w10 ⟨rfl, x10⟩
  have X10 := Lib.hid (X9.out.tr x10)
  have B10 := Lib.hid (B9.out.ext x10)
  clear X9 B9 x10
  go_wp2_with (fail)
  refine (behind1_n _).mono ?_
  rintro e w11 ⟨rfl, x11⟩
  have X11 := Lib.hid (X10.out.tr x11)
  have B11 := Lib.hid (B10.out.ext x11)
  clear X10 B10 x11
  go_wp2_with (fail)
  refine (behind2_n _).mono ?_
  rintro e w12 ⟨rfl, x12⟩
  have X12 := Lib.hid (X11.out.tr x12)
  have B12 := Lib.hid (B11.out.ext x12)
  clear X11 B11 x12
  go_wp2_with (fail)
  refine (behind3_n _).mono ?_
  rintro e w13 ⟨rfl, x13⟩
  have X13 := Lib.hid (X12.out.tr x13)
  have B13 := Lib.hid (B12.out.ext x13)
  clear X12 B12 x13
  go_wp2_with (fail)
  refine (kindn_any _).mono ?_
  rintro e w14 ⟨rfl, x14⟩
  have X14 := Lib.hid (X13.out.tr x14)
  have B14 := Lib.hid (B13.out.ext x14)
  clear X13 B13 x14
  go_wp2_with (fail)
  go_ret
  exact ⟨rfl, X14.out⟩
set_option maxRecDepth 100000 in
set_option maxHeartbeats 4000000 in
theorem walk_1 (i j : InstP) (hj : j = copyP i) (vs : List Value) (w : World) (H : RInst w vs i) (hc : checkP j = 0) (hk : j.kind = 1) :
    Calls Try.prog 8 #[.agg (List.toArray vs)] w fun e w' => e = .returned (.bool true) ∧ Ext w w' := by
  have OF := fun (us : List Value) (W : World) (h : RInst W us j) => of_1 j us W h hc hk
  have RC := fun (us : List Value) (W : World) (h : RInst W us j) => rcheck_any j us W h
  rw [hc] at RC
  clear hc
  have CP := fun (W : World) (x : Ext w W) => copy_to hj vs W (H.ext x)
  have hI : InstInts j := hj ▸ H.ints.copy
  clear hj
  obtain ⟨A, a, B, b, C, c, rfl, -, -, -⟩ := H
  have B1 : Hid (Blk (w.alloc (.cells #[.int .i64 i.kind, .int .i64 i.n, .int .i64 i.cap, .slice A i.weight.length a, .slice B i.value.length b, .slice C i.cost.length c] 25)) w.heap.size 25 #[.int .i64 i.kind, .int .i64 i.n, .int .i64 i.cap, .slice A i.weight.length a, .slice B i.value.length b, .slice C i.cost.length c]) := .new rfl
  replace CP := Lib.hid CP
  replace RC := Lib.hid RC
  replace OF := Lib.hid OF
  replace hk := Lib.hid hk
  go_enter Try.func8, Try.ntmps8
  go_wp2_with (fail)
  refine (CP.out _ (by (repeat (first | assumption | exact Ext.rf _ | apply Ext.drew | apply Ext.drewN | apply Ext.alloc)))).mono ?_
  rintro e w2 ⟨us, rfl, O2, x2⟩
  obtain ⟨A3, l3, d3, A4, l4, d4, A5, l5, d5, rfl⟩ := O2.six
  have X2 := Ext.tr (a := w) (by (repeat (first | assumption | exact Ext.rf _ | apply Ext.drew | apply Ext.drewN | apply Ext.alloc))) x2
  have B2 := B1.out.ext x2
  obtain ⟨X3, B3, O3⟩ := put_copy B2 X2 O2
  have t0 : w2.cell? ⟨w.heap.size, 0, none⟩ = some (.int .i64 i.kind) := B2.cell 0
  have t1 : w2.cell? ⟨w.heap.size, 1, none⟩ = some (.int .i64 i.n) := B2.cell 1
  have t2 : w2.cell? ⟨w.heap.size, 2, none⟩ = some (.int .i64 i.cap) := B2.cell 2
  have t3 : w2.cell? ⟨w.heap.size, 3, none⟩ = some (.slice A i.weight.length a) := B2.cell 3
  have t4 : w2.cell? ⟨w.heap.size, 4, none⟩ = some (.slice B i.value.length b) := B2.cell 4
  have t5 : w2.cell? ⟨w.heap.size, 5, none⟩ = some (.slice C i.cost.length c) := B2.cell 5
  have f0 := B2.free 0
  have f1 := B2.free 1
  have f2 := B2.free 2
  have f3 := B2.free 3
  have f4 := B2.free 4
  have f5 := B2.free 5
  replace X3 := Lib.hid X3
  replace B3 := Lib.hid B3
  replace O3 := Lib.hid O3
  clear O2 x2 X2 B2
  go_upto_region 2 with (fail)
  generalize ((((((w2.setCell ⟨w.heap.size, 0, none⟩ (.int .i64 j.kind)).setCell ⟨w.heap.size, 1, none⟩ (.int .i64 j.n)).setCell ⟨w.heap.size, 2, none⟩ (.int .i64 j.cap)).setCell ⟨w.heap.size, 3, none⟩ (.slice A3 l3 d3)).setCell ⟨w.heap.size, 4, none⟩ (.slice A4 l4 d4)).setCell ⟨w.heap.size, 5, none⟩ (.slice A5 l5 d5)) = w3 at *
  clear t0 t1 t2 t3 t4 t5 f0 f1 f2 f3 f4 f5
  have t0 : w3.cell? ⟨w.heap.size, 0, none⟩ = some (.int .i64 j.kind) := B3.out.cell 0
  have t1 : w3.cell? ⟨w.heap.size, 1, none⟩ = some (.int .i64 j.n) := B3.out.cell 1
  have t2 : w3.cell? ⟨w.heap.size, 2, none⟩ = some (.int .i64 j.cap) := B3.out.cell 2
  have t3 : w3.cell? ⟨w.heap.size, 3, none⟩ = some (.slice A3 l3 d3) := B3.out.cell 3
  have t4 : w3.cell? ⟨w.heap.size, 4, none⟩ = some (.slice A4 l4 d4) := B3.out.cell 4
  have t5 : w3.cell? ⟨w.heap.size, 5, none⟩ = some (.slice A5 l5 d5) := B3.out.cell 5
  go_wp2_with (fail)
  refine (OF.out _ _ (O3.out.rinst hI)).mono ?_
  rintro e w4 ⟨⟨g, gk, base, rfl, FB, -⟩, x4⟩
  replace FB := Lib.hid FB
  have X4 := Lib.hid (X3.out.tr x4)
  have B4 := Lib.hid (B3.out.ext x4)
  have O4 := Lib.hid (O3.out.ext x4)
  clear X3 B3 O3 x4 t0 t1 t2 t3 t4 t5
  have t0 : w4.cell? ⟨w.heap.size, 0, none⟩ = some (.int .i64 j.kind) := B4.out.cell 0
  have t1 : w4.cell? ⟨w.heap.size, 1, none⟩ = some (.int .i64 j.n) := B4.out.cell 1
  have t2 : w4.cell? ⟨w.heap.size, 2, none⟩ = some (.int .i64 j.cap) := B4.out.cell 2
  have t3 : w4.cell? ⟨w.heap.size, 3, none⟩ = some (.slice A3 l3 d3) := B4.out.cell 3
  have t4 : w4.cell? ⟨w.heap.size, 4, none⟩ = some (.slice A4 l4 d4) := B4.out.cell 4
  have t5 : w4.cell? ⟨w.heap.size, 5, none⟩ = some (.slice A5 l5 d5) := B4.out.cell 5
  go_wp2_with (fail)
  refine (RC.out _ _ (O4.out.rinst hI)).mono ?_
  rintro e w5 ⟨rfl, x5⟩
  have X5 := Lib.hid (X4.out.tr x5)
  have B5 := Lib.hid (B4.out.ext x5)
  have F5 := Lib.hid (FB.out.ext x5)
  clear FB
  clear X4 B4 O4 x5 t0 t1 t2 t3 t4 t5
  go_wp2_with (fail)
  refine (fkids_nil _ _).mono ?_
  rintro e w6 ⟨rfl, x6⟩
  have X6 := Lib.hid (X5.out.tr x6)
  have B6 := Lib.hid (B5.out.ext x6)
  have F6 := Lib.hid (F5.out.ext x6)
  clear X5 B5 x6 F5
  go_wp2_with (fail)
  refine (fbound_nil _ _).mono ?_
  rintro e w7 ⟨rfl, x7⟩
  have X7 := Lib.hid (X6.out.tr x7)
  have B7 := Lib.hid (B6.out.ext x7)
  have F7 := Lib.hid (F6.out.ext x7)
  clear X6 B6 x7 F6
  go_wp2_with (fail)
  refine (fanswer_nil _ _).mono ?_
  rintro e w8 ⟨rfl, x8⟩
  have X8 := Lib.hid (X7.out.tr x8)
  have B8 := Lib.hid (B7.out.ext x8)
  have F8 := Lib.hid (F7.out.ext x8)
  clear X7 B7 x8 F7
  go_wp2_with (fail)
  refine (fdepth_nil _).mono ?_
  rintro e w9 ⟨rfl, x9⟩
  have X9 := Lib.hid (X8.out.tr x9)
  have B9 := Lib.hid (B8.out.ext x9)
  have F9 := Lib.hid (F8.out.ext x9)
  clear X8 B8 x9 F8
  go_wp2_with (fail)
  refine (kernels_any _).mono ?_
  rintro e w10 ⟨rfl, x10⟩
  have X10 := Lib.hid (X9.out.tr x10)
  have B10 := Lib.hid (B9.out.ext x10)
  have F10 := Lib.hid (F9.out.ext x10)
  clear X9 B9 x10 F9
  go_wp2_with (fail)
  refine (behind1_1 _ g gk F10.out).mono ?_
  rintro e w11 ⟨rfl, x11⟩
  have X11 := Lib.hid (X10.out.tr x11)
  have B11 := Lib.hid (B10.out.ext x11)
  have F11 := Lib.hid (F10.out.ext x11)
  clear X10 B10 x11 F10
  go_wp2_with (fail)
  refine (behind2_1 _ g gk F11.out).mono ?_
  rintro e w12 ⟨rfl, x12⟩
  have X12 := Lib.hid (X11.out.tr x12)
  have B12 := Lib.hid (B11.out.ext x12)
  have F12 := Lib.hid (F11.out.ext x12)
  clear X11 B11 x12 F11
  go_wp2_with (fail)
  refine (behind3_1 _ g gk F12.out).mono ?_
  rintro e w13 ⟨rfl, x13⟩
  have X13 := Lib.hid (X12.out.tr x13)
  have B13 := Lib.hid (B12.out.ext x13)
  have F13 := Lib.hid (F12.out.ext x13)
  clear X12 B12 x13 F12
  have t0 : w13.cell? ⟨w.heap.size, 0, none⟩ = some (.int .i64 1) := by rw [← hk.out]; exact B13.out.cell 0
  go_wp2_with (fail)
  refine (kind1_any _ g gk F13.out).mono ?_
  rintro e w14 ⟨rfl, x14⟩
  have X14 := Lib.hid (X13.out.tr x14)
  have B14 := Lib.hid (B13.out.ext x14)
  have F14 := Lib.hid (F13.out.ext x14)
  clear X13 B13 x14 F13
  go_wp2_with (fail)
  go_ret
  exact ⟨rfl, X14.out⟩
set_option maxRecDepth 100000 in
set_option maxHeartbeats 4000000 in
theorem walk_2 (i j : InstP) (hj : j = copyP i) (vs : List Value) (w : World) (H : RInst w vs i) (hc : checkP j = 0) (hk : j.kind = 2) :
    Calls Try.prog 8 #[.agg (List.toArray vs)] w fun e w' => e = .returned (.bool true) ∧ Ext w w' := by
  have OF := fun (us : List Value) (W : World) (h : RInst W us j) => of_2 j us W h hc hk
  have RC := fun (us : List Value) (W : World) (h : RInst W us j) => rcheck_any j us W h
  rw [hc] at RC
  clear hc
  have CP := fun (W : World) (x : Ext w W) => copy_to hj vs W (H.ext x)
  have hI : InstInts j := hj ▸ H.ints.copy
  clear hj
  obtain ⟨A, a, B, b, C, c, rfl, -, -, -⟩ := H
  have B1 : Hid (Blk (w.alloc (.cells #[.int .i64 i.kind, .int .i64 i.n, .int .i64 i.cap, .slice A i.weight.length a, .slice B i.value.length b, .slice C i.cost.length c] 25)) w.heap.size 25 #[.int .i64 i.kind, .int .i64 i.n, .int .i64 i.cap, .slice A i.weight.length a, .slice B i.value.length b, .slice C i.cost.length c]) := .new rfl
  replace CP := Lib.hid CP
  replace RC := Lib.hid RC
  replace OF := Lib.hid OF
  replace hk := Lib.hid hk
  go_enter Try.func8, Try.ntmps8
  go_wp2_with (fail)
  refine (CP.out _ (by (repeat (first | assumption | exact Ext.rf _ | apply Ext.drew | apply Ext.drewN | apply Ext.alloc)))).mono ?_
  rintro e w2 ⟨us, rfl, O2, x2⟩
  obtain ⟨A3, l3, d3, A4, l4, d4, A5, l5, d5, rfl⟩ := O2.six
  have X2 := Ext.tr (a := w) (by (repeat (first | assumption | exact Ext.rf _ | apply Ext.drew | apply Ext.drewN | apply Ext.alloc))) x2
  have B2 := B1.out.ext x2
  obtain ⟨X3, B3, O3⟩ := put_copy B2 X2 O2
  have t0 : w2.cell? ⟨w.heap.size, 0, none⟩ = some (.int .i64 i.kind) := B2.cell 0
  have t1 : w2.cell? ⟨w.heap.size, 1, none⟩ = some (.int .i64 i.n) := B2.cell 1
  have t2 : w2.cell? ⟨w.heap.size, 2, none⟩ = some (.int .i64 i.cap) := B2.cell 2
  have t3 : w2.cell? ⟨w.heap.size, 3, none⟩ = some (.slice A i.weight.length a) := B2.cell 3
  have t4 : w2.cell? ⟨w.heap.size, 4, none⟩ = some (.slice B i.value.length b) := B2.cell 4
  have t5 : w2.cell? ⟨w.heap.size, 5, none⟩ = some (.slice C i.cost.length c) := B2.cell 5
  have f0 := B2.free 0
  have f1 := B2.free 1
  have f2 := B2.free 2
  have f3 := B2.free 3
  have f4 := B2.free 4
  have f5 := B2.free 5
  replace X3 := Lib.hid X3
  replace B3 := Lib.hid B3
  replace O3 := Lib.hid O3
  clear O2 x2 X2 B2
  go_upto_region 2 with (fail)
  generalize ((((((w2.setCell ⟨w.heap.size, 0, none⟩ (.int .i64 j.kind)).setCell ⟨w.heap.size, 1, none⟩ (.int .i64 j.n)).setCell ⟨w.heap.size, 2, none⟩ (.int .i64 j.cap)).setCell ⟨w.heap.size, 3, none⟩ (.slice A3 l3 d3)).setCell ⟨w.heap.size, 4, none⟩ (.slice A4 l4 d4)).setCell ⟨w.heap.size, 5, none⟩ (.slice A5 l5 d5)) = w3 at *
  clear t0 t1 t2 t3 t4 t5 f0 f1 f2 f3 f4 f5
  have t0 : w3.cell? ⟨w.heap.size, 0, none⟩ = some (.int .i64 j.kind) := B3.out.cell 0
  have t1 : w3.cell? ⟨w.heap.size, 1, none⟩ = some (.int .i64 j.n) := B3.out.cell 1
  have t2 : w3.cell? ⟨w.heap.size, 2, none⟩ = some (.int .i64 j.cap) := B3.out.cell 2
  have t3 : w3.cell? ⟨w.heap.size, 3, none⟩ = some (.slice A3 l3 d3) := B3.out.cell 3
  have t4 : w3.cell? ⟨w.heap.size, 4, none⟩ = some (.slice A4 l4 d4) := B3.out.cell 4
  have t5 : w3.cell? ⟨w.heap.size, 5, none⟩ = some (.slice A5 l5 d5) := B3.out.cell 5
  go_wp2_with (fail)
  refine (OF.out _ _ (O3.out.rinst hI)).mono ?_
  rintro e w4 ⟨⟨g, gk, base, rfl, FB, -⟩, x4⟩
  replace FB := Lib.hid FB
  have X4 := Lib.hid (X3.out.tr x4)
  have B4 := Lib.hid (B3.out.ext x4)
  have O4 := Lib.hid (O3.out.ext x4)
  clear X3 B3 O3 x4 t0 t1 t2 t3 t4 t5
  have t0 : w4.cell? ⟨w.heap.size, 0, none⟩ = some (.int .i64 j.kind) := B4.out.cell 0
  have t1 : w4.cell? ⟨w.heap.size, 1, none⟩ = some (.int .i64 j.n) := B4.out.cell 1
  have t2 : w4.cell? ⟨w.heap.size, 2, none⟩ = some (.int .i64 j.cap) := B4.out.cell 2
  have t3 : w4.cell? ⟨w.heap.size, 3, none⟩ = some (.slice A3 l3 d3) := B4.out.cell 3
  have t4 : w4.cell? ⟨w.heap.size, 4, none⟩ = some (.slice A4 l4 d4) := B4.out.cell 4
  have t5 : w4.cell? ⟨w.heap.size, 5, none⟩ = some (.slice A5 l5 d5) := B4.out.cell 5
  go_wp2_with (fail)
  refine (RC.out _ _ (O4.out.rinst hI)).mono ?_
  rintro e w5 ⟨rfl, x5⟩
  have X5 := Lib.hid (X4.out.tr x5)
  have B5 := Lib.hid (B4.out.ext x5)
  have F5 := Lib.hid (FB.out.ext x5)
  clear FB
  clear X4 B4 O4 x5 t0 t1 t2 t3 t4 t5
  go_wp2_with (fail)
  refine (fkids_nil _ _).mono ?_
  rintro e w6 ⟨rfl, x6⟩
  have X6 := Lib.hid (X5.out.tr x6)
  have B6 := Lib.hid (B5.out.ext x6)
  have F6 := Lib.hid (F5.out.ext x6)
  clear X5 B5 x6 F5
  go_wp2_with (fail)
  refine (fbound_nil _ _).mono ?_
  rintro e w7 ⟨rfl, x7⟩
  have X7 := Lib.hid (X6.out.tr x7)
  have B7 := Lib.hid (B6.out.ext x7)
  have F7 := Lib.hid (F6.out.ext x7)
  clear X6 B6 x7 F6
  go_wp2_with (fail)
  refine (fanswer_nil _ _).mono ?_
  rintro e w8 ⟨rfl, x8⟩
  have X8 := Lib.hid (X7.out.tr x8)
  have B8 := Lib.hid (B7.out.ext x8)
  have F8 := Lib.hid (F7.out.ext x8)
  clear X7 B7 x8 F7
  go_wp2_with (fail)
  refine (fdepth_nil _).mono ?_
  rintro e w9 ⟨rfl, x9⟩
  have X9 := Lib.hid (X8.out.tr x9)
  have B9 := Lib.hid (B8.out.ext x9)
  have F9 := Lib.hid (F8.out.ext x9)
  clear X8 B8 x9 F8
  go_wp2_with (fail)
  refine (kernels_any _).mono ?_
  rintro e w10 ⟨rfl, x10⟩
  have X10 := Lib.hid (X9.out.tr x10)
  have B10 := Lib.hid (B9.out.ext x10)
  have F10 := Lib.hid (F9.out.ext x10)
  clear X9 B9 x10 F9
  go_wp2_with (fail)
  refine (behind1_2 _ g gk F10.out).mono ?_
  rintro e w11 ⟨rfl, x11⟩
  have X11 := Lib.hid (X10.out.tr x11)
  have B11 := Lib.hid (B10.out.ext x11)
  have F11 := Lib.hid (F10.out.ext x11)
  clear X10 B10 x11 F10
  go_wp2_with (fail)
  refine (behind2_2 _ g gk F11.out).mono ?_
  rintro e w12 ⟨rfl, x12⟩
  have X12 := Lib.hid (X11.out.tr x12)
  have B12 := Lib.hid (B11.out.ext x12)
  have F12 := Lib.hid (F11.out.ext x12)
  clear X11 B11 x12 F11
  go_wp2_with (fail)
  refine (behind3_2 _ g gk F12.out).mono ?_
  rintro e w13 ⟨rfl, x13⟩
  have X13 := Lib.hid (X12.out.tr x13)
  have B13 := Lib.hid (B12.out.ext x13)
  have F13 := Lib.hid (F12.out.ext x13)
  clear X12 B12 x13 F12
  have t0 : w13.cell? ⟨w.heap.size, 0, none⟩ = some (.int .i64 2) := by rw [← hk.out]; exact B13.out.cell 0
  go_wp2_with (fail)
  refine (kind2_any _ g gk F13.out).mono ?_
  rintro e w14 ⟨rfl, x14⟩
  have X14 := Lib.hid (X13.out.tr x14)
  have B14 := Lib.hid (B13.out.ext x14)
  have F14 := Lib.hid (F13.out.ext x14)
  clear X13 B13 x14 F13
  go_wp2_with (fail)
  go_ret
  exact ⟨rfl, X14.out⟩
set_option maxRecDepth 100000 in
set_option maxHeartbeats 4000000 in
theorem walk_3 (i j : InstP) (hj : j = copyP i) (vs : List Value) (w : World) (H : RInst w vs i) (hc : checkP j = 0) (hk : j.kind = 3) :
    Calls Try.prog 8 #[.agg (List.toArray vs)] w fun e w' => e = .returned (.bool true) ∧ Ext w w' := by
  have OF := fun (us : List Value) (W : World) (h : RInst W us j) => of_3 j us W h hc hk
  have RC := fun (us : List Value) (W : World) (h : RInst W us j) => rcheck_any j us W h
  rw [hc] at RC
  clear hc
  have CP := fun (W : World) (x : Ext w W) => copy_to hj vs W (H.ext x)
  have hI : InstInts j := hj ▸ H.ints.copy
  clear hj
  obtain ⟨A, a, B, b, C, c, rfl, -, -, -⟩ := H
  have B1 : Hid (Blk (w.alloc (.cells #[.int .i64 i.kind, .int .i64 i.n, .int .i64 i.cap, .slice A i.weight.length a, .slice B i.value.length b, .slice C i.cost.length c] 25)) w.heap.size 25 #[.int .i64 i.kind, .int .i64 i.n, .int .i64 i.cap, .slice A i.weight.length a, .slice B i.value.length b, .slice C i.cost.length c]) := .new rfl
  replace CP := Lib.hid CP
  replace RC := Lib.hid RC
  replace OF := Lib.hid OF
  replace hk := Lib.hid hk
  go_enter Try.func8, Try.ntmps8
  go_wp2_with (fail)
  refine (CP.out _ (by (repeat (first | assumption | exact Ext.rf _ | apply Ext.drew | apply Ext.drewN | apply Ext.alloc)))).mono ?_
  rintro e w2 ⟨us, rfl, O2, x2⟩
  obtain ⟨A3, l3, d3, A4, l4, d4, A5, l5, d5, rfl⟩ := O2.six
  have X2 := Ext.tr (a := w) (by (repeat (first | assumption | exact Ext.rf _ | apply Ext.drew | apply Ext.drewN | apply Ext.alloc))) x2
  have B2 := B1.out.ext x2
  obtain ⟨X3, B3, O3⟩ := put_copy B2 X2 O2
  have t0 : w2.cell? ⟨w.heap.size, 0, none⟩ = some (.int .i64 i.kind) := B2.cell 0
  have t1 : w2.cell? ⟨w.heap.size, 1, none⟩ = some (.int .i64 i.n) := B2.cell 1
  have t2 : w2.cell? ⟨w.heap.size, 2, none⟩ = some (.int .i64 i.cap) := B2.cell 2
  have t3 : w2.cell? ⟨w.heap.size, 3, none⟩ = some (.slice A i.weight.length a) := B2.cell 3
  have t4 : w2.cell? ⟨w.heap.size, 4, none⟩ = some (.slice B i.value.length b) := B2.cell 4
  have t5 : w2.cell? ⟨w.heap.size, 5, none⟩ = some (.slice C i.cost.length c) := B2.cell 5
  have f0 := B2.free 0
  have f1 := B2.free 1
  have f2 := B2.free 2
  have f3 := B2.free 3
  have f4 := B2.free 4
  have f5 := B2.free 5
  replace X3 := Lib.hid X3
  replace B3 := Lib.hid B3
  replace O3 := Lib.hid O3
  clear O2 x2 X2 B2
  go_upto_region 2 with (fail)
  generalize ((((((w2.setCell ⟨w.heap.size, 0, none⟩ (.int .i64 j.kind)).setCell ⟨w.heap.size, 1, none⟩ (.int .i64 j.n)).setCell ⟨w.heap.size, 2, none⟩ (.int .i64 j.cap)).setCell ⟨w.heap.size, 3, none⟩ (.slice A3 l3 d3)).setCell ⟨w.heap.size, 4, none⟩ (.slice A4 l4 d4)).setCell ⟨w.heap.size, 5, none⟩ (.slice A5 l5 d5)) = w3 at *
  clear t0 t1 t2 t3 t4 t5 f0 f1 f2 f3 f4 f5
  have t0 : w3.cell? ⟨w.heap.size, 0, none⟩ = some (.int .i64 j.kind) := B3.out.cell 0
  have t1 : w3.cell? ⟨w.heap.size, 1, none⟩ = some (.int .i64 j.n) := B3.out.cell 1
  have t2 : w3.cell? ⟨w.heap.size, 2, none⟩ = some (.int .i64 j.cap) := B3.out.cell 2
  have t3 : w3.cell? ⟨w.heap.size, 3, none⟩ = some (.slice A3 l3 d3) := B3.out.cell 3
  have t4 : w3.cell? ⟨w.heap.size, 4, none⟩ = some (.slice A4 l4 d4) := B3.out.cell 4
  have t5 : w3.cell? ⟨w.heap.size, 5, none⟩ = some (.slice A5 l5 d5) := B3.out.cell 5
  go_wp2_with (fail)
  refine (OF.out _ _ (O3.out.rinst hI)).mono ?_
  rintro e w4 ⟨⟨g, gk, base, rfl, FB, -⟩, x4⟩
  replace FB := Lib.hid FB
  have X4 := Lib.hid (X3.out.tr x4)
  have B4 := Lib.hid (B3.out.ext x4)
  have O4 := Lib.hid (O3.out.ext x4)
  clear X3 B3 O3 x4 t0 t1 t2 t3 t4 t5
  have t0 : w4.cell? ⟨w.heap.size, 0, none⟩ = some (.int .i64 j.kind) := B4.out.cell 0
  have t1 : w4.cell? ⟨w.heap.size, 1, none⟩ = some (.int .i64 j.n) := B4.out.cell 1
  have t2 : w4.cell? ⟨w.heap.size, 2, none⟩ = some (.int .i64 j.cap) := B4.out.cell 2
  have t3 : w4.cell? ⟨w.heap.size, 3, none⟩ = some (.slice A3 l3 d3) := B4.out.cell 3
  have t4 : w4.cell? ⟨w.heap.size, 4, none⟩ = some (.slice A4 l4 d4) := B4.out.cell 4
  have t5 : w4.cell? ⟨w.heap.size, 5, none⟩ = some (.slice A5 l5 d5) := B4.out.cell 5
  go_wp2_with (fail)
  refine (RC.out _ _ (O4.out.rinst hI)).mono ?_
  rintro e w5 ⟨rfl, x5⟩
  have X5 := Lib.hid (X4.out.tr x5)
  have B5 := Lib.hid (B4.out.ext x5)
  have F5 := Lib.hid (FB.out.ext x5)
  clear FB
  clear X4 B4 O4 x5 t0 t1 t2 t3 t4 t5
  go_wp2_with (fail)
  refine (fkids_nil _ _).mono ?_
  rintro e w6 ⟨rfl, x6⟩
  have X6 := Lib.hid (X5.out.tr x6)
  have B6 := Lib.hid (B5.out.ext x6)
  have F6 := Lib.hid (F5.out.ext x6)
  clear X5 B5 x6 F5
  go_wp2_with (fail)
  refine (fbound_nil _ _).mono ?_
  rintro e w7 ⟨rfl, x7⟩
  have X7 := Lib.hid (X6.out.tr x7)
  have B7 := Lib.hid (B6.out.ext x7)
  have F7 := Lib.hid (F6.out.ext x7)
  clear X6 B6 x7 F6
  go_wp2_with (fail)
  refine (fanswer_nil _ _).mono ?_
  rintro e w8 ⟨rfl, x8⟩
  have X8 := Lib.hid (X7.out.tr x8)
  have B8 := Lib.hid (B7.out.ext x8)
  have F8 := Lib.hid (F7.out.ext x8)
  clear X7 B7 x8 F7
  go_wp2_with (fail)
  refine (fdepth_nil _).mono ?_
  rintro e w9 ⟨rfl, x9⟩
  have X9 := Lib.hid (X8.out.tr x9)
  have B9 := Lib.hid (B8.out.ext x9)
  have F9 := Lib.hid (F8.out.ext x9)
  clear X8 B8 x9 F8
  go_wp2_with (fail)
  refine (kernels_any _).mono ?_
  rintro e w10 ⟨rfl, x10⟩
  have X10 := Lib.hid (X9.out.tr x10)
  have B10 := Lib.hid (B9.out.ext x10)
  have F10 := Lib.hid (F9.out.ext x10)
  clear X9 B9 x10 F9
  go_wp2_with (fail)
  refine (behind1_3 _ g gk F10.out).mono ?_
  rintro e w11 ⟨rfl, x11⟩
  have X11 := Lib.hid (X10.out.tr x11)
  have B11 := Lib.hid (B10.out.ext x11)
  have F11 := Lib.hid (F10.out.ext x11)
  clear X10 B10 x11 F10
  go_wp2_with (fail)
  refine (behind2_3 _ g gk F11.out).mono ?_
  rintro e w12 ⟨rfl, x12⟩
  have X12 := Lib.hid (X11.out.tr x12)
  have B12 := Lib.hid (B11.out.ext x12)
  have F12 := Lib.hid (F11.out.ext x12)
  clear X11 B11 x12 F11
  go_wp2_with (fail)
  refine (behind3_3 _ g gk F12.out).mono ?_
  rintro e w13 ⟨rfl, x13⟩
  have X13 := Lib.hid (X12.out.tr x13)
  have B13 := Lib.hid (B12.out.ext x13)
  have F13 := Lib.hid (F12.out.ext x13)
  clear X12 B12 x13 F12
  have t0 : w13.cell? ⟨w.heap.size, 0, none⟩ = some (.int .i64 3) := by rw [← hk.out]; exact B13.out.cell 0
  go_wp2_with (fail)
  refine (kind3_any _ g gk F13.out).mono ?_
  rintro e w14 ⟨rfl, x14⟩
  have X14 := Lib.hid (X13.out.tr x14)
  have B14 := Lib.hid (B13.out.ext x14)
  have F14 := Lib.hid (F13.out.ext x14)
  clear X13 B13 x14 F13
  go_wp2_with (fail)
  go_ret
  exact ⟨rfl, X14.out⟩
theorem walk (vs : List Value) (i : InstP) (w : World) (H : RInst w vs i) (_ : InstOk i) :
    Calls Try.prog 8 #[.agg (List.toArray vs)] w fun e w' => e = .returned (.bool true) ∧ Ext w w' := by
  by_cases hc : checkP (copyP i) = 0
  · have hk : (copyP i).kind = 1 ∨ (copyP i).kind = 2 ∨ (copyP i).kind = 3 := by
      have h := hc
      unfold checkP at h
      split at h
      · rename_i hs
        unfold sizeP at hs
        split at hs
        · exact .inl (by assumption)
        · split at hs
          · exact .inr (.inl (by assumption))
          · split at hs
            · exact .inr (.inr (by assumption))
            · cases hs
      · rename_i hs
        exact absurd h hs
    rcases hk with hk | hk | hk
    · exact walk_1 i (copyP i) rfl vs w H hc hk
    · exact walk_2 i (copyP i) rfl vs w H hc hk
    · exact walk_3 i (copyP i) rfl vs w H hc hk
  · exact walk_no i (copyP i) rfl vs w H _ hc rfl

set_option maxRecDepth 100000 in
theorem lifted (os : Os) (started : os.Started) (H : Type) (enc : TypeId × Value → H) :
    ReturnsInHanded {} Try.checked os 8 .any (Rows.kernelFacesSpec.pre6 enc Try.prog Try.f8 Rows.kernelFacesRow.domain false) (Rows.kernelFacesSpec.post enc Try.prog Try.f8 false true false false) := by
  refine returnsInHanded_of_change (C := Try.checked) own started (by kernel_rfl) Try.func8
    (ChangeSpec.witness6 (enc := enc) (C := Try.checked) false ⟨#[], #[.agg #[.int .i64 0, .int .i64 0, .int .i64 0, .slice none 0 0, .slice none 0 0, .slice none 0 0]], []⟩ 8 (by kernel_rfl) (by kernel_rfl) (by kernel_rfl) (by kernel_rfl)) ?_
  intro W base args ds gs before hval0 hW _ _
  have hval : ∀ (j : Nat) t v, Try.f8.params[j]? = some t → args[j]? = some v → Value.okWide Try.prog W .any base t v := hval0
  have hW' := hW
  obtain ⟨p, q, hA0, hV, rfl, hfz, hnd⟩ := hW
  have hA : DataW.TrodAll enc Try.prog W 0 (fun _ => true) true Try.f8.params.toList args.toList ds p := hA0
  rw [Try.params8] at hA hval
  obtain ⟨v0, vs0, d0, ds0, p0, q0, hargs, rfl, rfl, h0, r0⟩ := trodAll_cons hA
  obtain ⟨rfl, rfl, rfl⟩ := trodAll_nil r0
  obtain rfl : args = #[v0] := by cases args; simp_all
  obtain ⟨rfl, rfl⟩ := trodVars_none hV
  obtain ⟨y0, x0, rfl, hx0, ix0⟩ := open_Inst h0 (hval 0 _ v0 rfl rfl)
  refine (walk y0 x0 W hx0 ix0).mono fun e W' ⟨he, hg⟩ => ?_
  subst he
  exact ⟨_, rfl, post_law hW' rfl rfl rfl rfl rfl (readable_of (by kernel_rfl)) hg⟩

theorem proved : Rows.KernelFacesSaid :=
  OpenClaim.holds_of_wide 8 Try.f8 rfl rfl rfl rfl rfl rfl rfl ⟨rfl, rfl, rfl, rfl, rfl⟩ rfl rfl rfl rfl rfl (by kernel_rfl) Try.func8 (by kernel_rfl)
    (of_decide_eq_true (by kernel_rfl)) (by unfold Func.isWrapper; first | (rw [if_pos (by decide +kernel)]; kernel_rfl) | (rw [if_neg (by decide +kernel)]; exact ⟨rfl, rfl⟩))
    (fun os started H enc _ => lifted os started H enc)
end Go.Proofs.Ytleckhbmciiooaa.kernelFaces
