/-
  kernel: one face of three kernels: what Of answers; of which kind one is; of no kernel nothing is told.
-/
import Derived.Test.YtleckhbmciiooaaKnap3
import Derived.Test.YtleckhbmciiooaaAssignA
import Derived.Test.YtleckhbmciiooaaTourA
namespace Go.Proofs.Ytleckhbmciiooaa
open Go.RowKit Go.ChangeShapes Go.WideShapes Go.ChangeAt Go.Deep

/-- block g is a face: behind it a pointer of type T, to block gk -/
def FaceB (w : World) (g : Nat) (T : TypeId) (gk : Nat) : Prop := Blk w g 139 #[.iface T (.pointer (some ⟨gk, 0, none⟩))]
theorem FaceB.ext {w w' : World} {g gk : Nat} {T : TypeId} (h : FaceB w g T gk) (x : Ext w w') : FaceB w' g T gk := Blk.ext h x
set_option maxRecDepth 100000 in
set_option maxHeartbeats 1000000 in
theorem of_no (j : InstP) (vs : List Value) (w : World) (H : RInst w vs j) (lw : j.weight.length ≤ 1000000000) (lv : j.value.length ≤ 1000000000) (hc : checkP j ≠ 0) :
    Calls Try.prog 49 #[.agg (List.toArray vs)] w fun e w' => e = .returned (.tuple #[.pointer none, .int .i64 (checkP j)]) ∧ Ext w w' := by
  have C := fun (W : World) (x : Ext w W) => check_any j vs W (H.ext x) lw lv
  obtain ⟨A, a, B, b, D, d, rfl, -, -, -⟩ := H
  generalize checkP j = er at *
  have e1 : (er != 0) = true := by simpa using hc
  replace C := Lib.hid C
  clear hc
  go_enter Try.func49, Try.ntmps49
  go_wp2_with (fail)
  refine (C.out _ (by (repeat (first | assumption | exact Ext.rf _ | apply Ext.drew | apply Ext.drewN | apply Ext.alloc)))).mono ?_
  rintro e w1 ⟨rfl, x1⟩
  have X1 := Lib.hid (Ext.tr (a := w) (by (repeat (first | assumption | exact Ext.rf _ | apply Ext.drew | apply Ext.drewN | apply Ext.alloc))) x1)
  clear x1
  go_wp2_with (fail)
  go_ret2
  exact ⟨rfl, X1.out⟩
set_option maxRecDepth 100000 in
set_option maxHeartbeats 1000000 in
theorem of_1 (j : InstP) (vs : List Value) (w : World) (H : RInst w vs j) (hc : checkP j = 0) (hk : j.kind = 1) :
    Calls Try.prog 49 #[.agg (List.toArray vs)] w fun e w' => (∃ g gk base, e = .returned (.tuple #[.pointer (some ⟨g, 0, none⟩), .int .i64 0]) ∧ FaceB w' g 34 gk ∧ KernB w' base gk j.cap (ratioP j.value j.weight) (inOrder (ratioP j.value j.weight) j.weight) (inOrder (ratioP j.value j.weight) j.value) (sumsL (inOrder (ratioP j.value j.weight) j.value) 0)) ∧ Ext w w' := by
  have ok := knap_ok hc hk
  have C := fun (W : World) (x : Ext w W) => check_any j vs W (H.ext x) (by have := ok.w; have := ok.n2; omega) (by have := ok.v; have := ok.n2; omega)
  have NW := fun (W : World) (x : Ext w W) => new_yes j vs W (H.ext x) hc hk
  unfold NewPost at NW
  rw [hc] at C
  clear ok hc
  obtain ⟨kind, nn, cap, xw, xv, co⟩ := j
  obtain ⟨A, a, B, b, D, d, rfl, -, -, -⟩ := H
  simp only at *
  subst hk
  generalize ratioP xv xw = l at *
  generalize inOrder l xw = ws at *
  generalize inOrder l xv = us at *
  generalize sumsL us 0 = bs at *
  have B1 : Hid (Blk (w.alloc (.cells #[.int .i64 1, .int .i64 nn, .int .i64 cap, .slice A xw.length a, .slice B xv.length b, .slice D co.length d] 25)) w.heap.size 25 #[.int .i64 1, .int .i64 nn, .int .i64 cap, .slice A xw.length a, .slice B xv.length b, .slice D co.length d]) := .new rfl
  replace C := Lib.hid C
  replace NW := Lib.hid NW
  go_enter Try.func49, Try.ntmps49
  go_wp2_with (fail)
  refine (C.out _ (by (repeat (first | assumption | exact Ext.rf _ | apply Ext.drew | apply Ext.drewN | apply Ext.alloc)))).mono ?_
  rintro e w1 ⟨rfl, x1⟩
  have X1 := Lib.hid (Ext.tr (a := w) (by (repeat (first | assumption | exact Ext.rf _ | apply Ext.drew | apply Ext.drewN | apply Ext.alloc))) x1)
  have b1 := B1.out.ext x1
  have t0 : w1.cell? ⟨w.heap.size, 0, none⟩ = some (.int .i64 1) := b1.cell 0
  have t1 : w1.cell? ⟨w.heap.size, 1, none⟩ = some (.int .i64 nn) := b1.cell 1
  have t2 : w1.cell? ⟨w.heap.size, 2, none⟩ = some (.int .i64 cap) := b1.cell 2
  have t3 : w1.cell? ⟨w.heap.size, 3, none⟩ = some (.slice A xw.length a) := b1.cell 3
  have t4 : w1.cell? ⟨w.heap.size, 4, none⟩ = some (.slice B xv.length b) := b1.cell 4
  have t5 : w1.cell? ⟨w.heap.size, 5, none⟩ = some (.slice D co.length d) := b1.cell 5
  clear x1 B1 b1
  go_wp2_with (fail)
  refine (NW.out _ X1.out).mono ?_
  rintro e w2 ⟨gk, rfl, K2, x2⟩
  have X2 := Lib.hid (X1.out.tr x2)
  replace K2 := Lib.hid K2
  clear x2 t0 t1 t2 t3 t4 t5
  go_wp2_with (fail)
  go_ret2
  have xa : Ext w2 (w2.alloc (.cells #[.iface 34 (.pointer (some ⟨gk, 0, none⟩))] 139)) := (Ext.rf _).alloc _
  exact ⟨⟨w2.heap.size, gk, _, rfl, .new rfl, K2.out.ext xa⟩, X2.out.tr xa⟩
set_option maxRecDepth 100000 in
set_option maxHeartbeats 1000000 in
theorem of_2 (j : InstP) (vs : List Value) (w : World) (H : RInst w vs j) (hc : checkP j = 0) (hk : j.kind = 2) :
    Calls Try.prog 49 #[.agg (List.toArray vs)] w fun e w' => (∃ g gk base, e = .returned (.tuple #[.pointer (some ⟨g, 0, none⟩), .int .i64 0]) ∧ FaceB w' g 85 gk ∧ KernA w' base gk j.cost) ∧ Ext w w' := by
  have ok := square_ok hc (by omega)
  have C := fun (W : World) (x : Ext w W) => check_any j vs W (H.ext x) (by rw [ok.w]; simp) (by rw [ok.v]; simp)
  have NW := fun (W : World) (x : Ext w W) => newa_yes j vs W (H.ext x) hc hk
  unfold NewAPost at NW
  rw [hc] at C
  clear ok hc
  obtain ⟨kind, nn, cap, xw, xv, co⟩ := j
  obtain ⟨A, a, B, b, D, d, rfl, -, -, -⟩ := H
  simp only at *
  subst hk
  have B1 : Hid (Blk (w.alloc (.cells #[.int .i64 2, .int .i64 nn, .int .i64 cap, .slice A xw.length a, .slice B xv.length b, .slice D co.length d] 25)) w.heap.size 25 #[.int .i64 2, .int .i64 nn, .int .i64 cap, .slice A xw.length a, .slice B xv.length b, .slice D co.length d]) := .new rfl
  replace C := Lib.hid C
  replace NW := Lib.hid NW
  go_enter Try.func49, Try.ntmps49
  go_wp2_with (fail)
  refine (C.out _ (by (repeat (first | assumption | exact Ext.rf _ | apply Ext.drew | apply Ext.drewN | apply Ext.alloc)))).mono ?_
  rintro e w1 ⟨rfl, x1⟩
  have X1 := Lib.hid (Ext.tr (a := w) (by (repeat (first | assumption | exact Ext.rf _ | apply Ext.drew | apply Ext.drewN | apply Ext.alloc))) x1)
  have b1 := B1.out.ext x1
  have t0 : w1.cell? ⟨w.heap.size, 0, none⟩ = some (.int .i64 2) := b1.cell 0
  have t1 : w1.cell? ⟨w.heap.size, 1, none⟩ = some (.int .i64 nn) := b1.cell 1
  have t2 : w1.cell? ⟨w.heap.size, 2, none⟩ = some (.int .i64 cap) := b1.cell 2
  have t3 : w1.cell? ⟨w.heap.size, 3, none⟩ = some (.slice A xw.length a) := b1.cell 3
  have t4 : w1.cell? ⟨w.heap.size, 4, none⟩ = some (.slice B xv.length b) := b1.cell 4
  have t5 : w1.cell? ⟨w.heap.size, 5, none⟩ = some (.slice D co.length d) := b1.cell 5
  clear x1 B1 b1
  go_wp2_with (fail)
  refine (NW.out _ X1.out).mono ?_
  rintro e w2 ⟨gk, rfl, K2, x2⟩
  have X2 := Lib.hid (X1.out.tr x2)
  replace K2 := Lib.hid K2
  clear x2 t0 t1 t2 t3 t4 t5
  go_wp2_with (fail)
  go_ret2
  have xa : Ext w2 (w2.alloc (.cells #[.iface 85 (.pointer (some ⟨gk, 0, none⟩))] 139)) := (Ext.rf _).alloc _
  exact ⟨⟨w2.heap.size, gk, _, rfl, .new rfl, K2.out.ext xa⟩, X2.out.tr xa⟩
set_option maxRecDepth 100000 in
set_option maxHeartbeats 1000000 in
theorem of_3 (j : InstP) (vs : List Value) (w : World) (H : RInst w vs j) (hc : checkP j = 0) (hk : j.kind = 3) :
    Calls Try.prog 49 #[.agg (List.toArray vs)] w fun e w' => (∃ g gk base, e = .returned (.tuple #[.pointer (some ⟨g, 0, none⟩), .int .i64 0]) ∧ FaceB w' g 88 gk ∧ KernT w' base gk j.cost (mirP j.cost)) ∧ Ext w w' := by
  have ok := square_ok hc (by omega)
  have C := fun (W : World) (x : Ext w W) => check_any j vs W (H.ext x) (by rw [ok.w]; simp) (by rw [ok.v]; simp)
  have NW := fun (W : World) (x : Ext w W) => newt_yes j vs W (H.ext x) hc hk
  unfold NewTPost at NW
  rw [hc] at C
  clear ok hc
  obtain ⟨kind, nn, cap, xw, xv, co⟩ := j
  obtain ⟨A, a, B, b, D, d, rfl, -, -, -⟩ := H
  simp only at *
  subst hk
  generalize mirP co = mi at *
  have B1 : Hid (Blk (w.alloc (.cells #[.int .i64 3, .int .i64 nn, .int .i64 cap, .slice A xw.length a, .slice B xv.length b, .slice D co.length d] 25)) w.heap.size 25 #[.int .i64 3, .int .i64 nn, .int .i64 cap, .slice A xw.length a, .slice B xv.length b, .slice D co.length d]) := .new rfl
  replace C := Lib.hid C
  replace NW := Lib.hid NW
  go_enter Try.func49, Try.ntmps49
  go_wp2_with (fail)
  refine (C.out _ (by (repeat (first | assumption | exact Ext.rf _ | apply Ext.drew | apply Ext.drewN | apply Ext.alloc)))).mono ?_
  rintro e w1 ⟨rfl, x1⟩
  have X1 := Lib.hid (Ext.tr (a := w) (by (repeat (first | assumption | exact Ext.rf _ | apply Ext.drew | apply Ext.drewN | apply Ext.alloc))) x1)
  have b1 := B1.out.ext x1
  have t0 : w1.cell? ⟨w.heap.size, 0, none⟩ = some (.int .i64 3) := b1.cell 0
  have t1 : w1.cell? ⟨w.heap.size, 1, none⟩ = some (.int .i64 nn) := b1.cell 1
  have t2 : w1.cell? ⟨w.heap.size, 2, none⟩ = some (.int .i64 cap) := b1.cell 2
  have t3 : w1.cell? ⟨w.heap.size, 3, none⟩ = some (.slice A xw.length a) := b1.cell 3
  have t4 : w1.cell? ⟨w.heap.size, 4, none⟩ = some (.slice B xv.length b) := b1.cell 4
  have t5 : w1.cell? ⟨w.heap.size, 5, none⟩ = some (.slice D co.length d) := b1.cell 5
  clear x1 B1 b1
  go_wp2_with (fail)
  refine (NW.out _ X1.out).mono ?_
  rintro e w2 ⟨gk, rfl, K2, x2⟩
  have X2 := Lib.hid (X1.out.tr x2)
  replace K2 := Lib.hid K2
  clear x2 t0 t1 t2 t3 t4 t5
  go_wp2_with (fail)
  go_ret2
  have xa : Ext w2 (w2.alloc (.cells #[.iface 88 (.pointer (some ⟨gk, 0, none⟩))] 139)) := (Ext.rf _).alloc _
  exact ⟨⟨w2.heap.size, gk, _, rfl, .new rfl, K2.out.ext xa⟩, X2.out.tr xa⟩
theorem kindn_any (w : World) : Calls Try.prog 58 #[.pointer none] w fun e w' => e = .returned (.int .i64 0) ∧ Ext w w' := by
  go_enter Try.func58, Try.ntmps58
  go_wp2
  go_ret
  exact ⟨rfl, Ext.rf _⟩
set_option maxRecDepth 100000 in
theorem kind1_any (w : World) (g gk : Nat) (h : FaceB w g 34 gk) : Calls Try.prog 58 #[.pointer (some ⟨g, 0, none⟩)] w fun e w' => e = .returned (.int .i64 1) ∧ Ext w w' := by
  have c0 : w.cell? ⟨g, 0, none⟩ = some (.iface 34 (.pointer (some ⟨gk, 0, none⟩))) := Blk.cell h 0
  have as1 : ∀ (x : Value) (u : World), (Instr.typeAssert (.iface 34 x) 137 34 true).run Try.prog u = .ok (.tuple #[x, .bool true]) u := fun _ _ => by kernel_rfl
  go_enter Try.func58, Try.ntmps58
  go_wp2
  go_ret
  exact ⟨rfl, Ext.rf _⟩
set_option maxRecDepth 100000 in
theorem kind2_any (w : World) (g gk : Nat) (h : FaceB w g 85 gk) : Calls Try.prog 58 #[.pointer (some ⟨g, 0, none⟩)] w fun e w' => e = .returned (.int .i64 2) ∧ Ext w w' := by
  have c0 : w.cell? ⟨g, 0, none⟩ = some (.iface 85 (.pointer (some ⟨gk, 0, none⟩))) := Blk.cell h 0
  have as1 : ∀ (x : Value) (u : World), (Instr.typeAssert (.iface 85 x) 137 34 true).run Try.prog u = .ok (.tuple #[.pointer none, .bool false]) u := fun _ _ => by kernel_rfl
  have as2 : ∀ (x : Value) (u : World), (Instr.typeAssert (.iface 85 x) 137 85 true).run Try.prog u = .ok (.tuple #[x, .bool true]) u := fun _ _ => by kernel_rfl
  go_enter Try.func58, Try.ntmps58
  go_wp2
  go_ret
  exact ⟨rfl, Ext.rf _⟩
set_option maxRecDepth 100000 in
theorem kind3_any (w : World) (g gk : Nat) (h : FaceB w g 88 gk) : Calls Try.prog 58 #[.pointer (some ⟨g, 0, none⟩)] w fun e w' => e = .returned (.int .i64 3) ∧ Ext w w' := by
  have c0 : w.cell? ⟨g, 0, none⟩ = some (.iface 88 (.pointer (some ⟨gk, 0, none⟩))) := Blk.cell h 0
  have as1 : ∀ (x : Value) (u : World), (Instr.typeAssert (.iface 88 x) 137 34 true).run Try.prog u = .ok (.tuple #[.pointer none, .bool false]) u := fun _ _ => by kernel_rfl
  have as2 : ∀ (x : Value) (u : World), (Instr.typeAssert (.iface 88 x) 137 85 true).run Try.prog u = .ok (.tuple #[.pointer none, .bool false]) u := fun _ _ => by kernel_rfl
  have as3 : ∀ (x : Value) (u : World), (Instr.typeAssert (.iface 88 x) 137 88 true).run Try.prog u = .ok (.tuple #[x, .bool true]) u := fun _ _ => by kernel_rfl
  go_enter Try.func58, Try.ntmps58
  go_wp2
  go_ret
  exact ⟨rfl, Ext.rf _⟩
theorem fdepth_nil (w : World) : Calls Try.prog 53 #[.pointer none] w fun e w' => e = .returned (.int .i64 0) ∧ Ext w w' := by
  go_enter Try.func53, Try.ntmps53
  go_wp2
  go_ret
  exact ⟨rfl, Ext.rf _⟩
theorem fkids_nil (P : Value) (w : World) : Calls Try.prog 50 #[.pointer none, P] w fun e w' => e = .returned (.tuple #[.slice none 0 0, .int .i64 1]) ∧ Ext w w' := by
  go_enter Try.func50, Try.ntmps50
  go_wp2
  go_ret2
  exact ⟨rfl, Ext.rf _⟩
theorem fbound_nil (P : Value) (w : World) : Calls Try.prog 51 #[.pointer none, P] w fun e w' => e = .returned (.tuple #[.int .i64 0, .int .i64 1]) ∧ Ext w w' := by
  go_enter Try.func51, Try.ntmps51
  go_wp2
  go_ret2
  exact ⟨rfl, Ext.rf _⟩
theorem fanswer_nil (P : Value) (w : World) : Calls Try.prog 52 #[.pointer none, P] w fun e w' => e = .returned (.tuple #[.slice none 0 0, .int .i64 1]) ∧ Ext w w' := by
  go_enter Try.func52, Try.ntmps52
  go_wp2
  go_ret2
  exact ⟨rfl, Ext.rf _⟩
end Go.Proofs.Ytleckhbmciiooaa
