/-
  kernel: what is behind the face: an assertion that does not hold panics, and the deferred function takes it.
-/
import Derived.Test.YtleckhbmciiooaaFaceA
import Derived.Defers
import Derived.Recover
namespace Go.Proofs.Ytleckhbmciiooaa
open Go.RowKit Go.ChangeShapes Go.WideShapes Go.ChangeAt Go.Deep

theorem ofn_any (w : World) : Calls Try.prog 96 #[.pointer none] w fun e w' => e = .returned .nilIface ∧ Ext w w' := by
  go_enter Try.func96, Try.ntmps96
  go_wp2
  go_ret
  exact ⟨rfl, Ext.rf _⟩
set_option maxRecDepth 100000 in
theorem ofy_any (w : World) (g gk : Nat) (T : TypeId) (h : FaceB w g T gk) : Calls Try.prog 96 #[.pointer (some ⟨g, 0, none⟩)] w fun e w' => e = .returned (.iface T (.pointer (some ⟨gk, 0, none⟩))) ∧ Ext w w' := by
  have c0 : w.cell? ⟨g, 0, none⟩ = some (.iface T (.pointer (some ⟨gk, 0, none⟩))) := Blk.cell h 0
  go_enter Try.func96, Try.ntmps96
  go_wp2
  go_ret
  exact ⟨rfl, Ext.rf _⟩
theorem other_panicking (p : Addr) (u : TypeId) (pv : Value) (older : List PanicEntry) (w : World) (hc : w.cell? p = some (.int .i64 0)) (hz : w.frozen? p = false) :
    CallsD Try.prog 95 #[.pointer (some p)] (.panicking ({ v := .iface u pv, recovered := false } :: older)) w fun e u' w' =>
      e = .returned (.tuple #[]) ∧ u' = .panicking ({ v := .iface u pv, recovered := true } :: older) ∧ w' = w.setCell p (.int .i64 14) := by
  refine callsD_of_wpS Try.func95 rfl fun c₀ cs hu => ?_
  apply wpS_seq
  apply wpS_region
  simp [wpOpsS, go_sem, recoverD, hu, Try.ntmps95, Exit.thenS]
  refine wpS_cond (t := true) (by simp [Act.eval, Array.replicate]) ?_
  simp only [if_true]
  apply wpS_region
  simp [wpOpsS, go_sem, hc, hz, bodyPostS, results, Try.results95]
theorem other_idle (p : Addr) (w : World) :
    CallsD Try.prog 95 #[.pointer (some p)] .returning w fun e u' w' => e = .returned (.tuple #[]) ∧ u' = .returning ∧ w' = w := by
  refine callsD_of_wpS Try.func95 rfl fun c₀ cs hu => ?_
  apply wpS_seq
  apply wpS_region
  simp [wpOpsS, go_sem, recoverD, hu, Try.ntmps95, Exit.thenS]
  refine wpS_cond (t := false) (by simp [Act.eval, Array.replicate]) ?_
  simp only [Bool.false_eq_true, if_false]
  refine wpS_of_wp (wp_skip ?_)
  cases c₀
  simp_all [bodyPostS, results, Try.results95]
/-- an assertion that does not hold -/
def NotIt (x : Value) (T : TypeId) : Prop := ∃ u cs t, ∀ w : World, (Instr.typeAssert x 137 T false).run Try.prog w = .halt (.panic (.iface u (.pointer (some ⟨w.heap.size, 0, none⟩)))) (w.alloc (.cells cs t))
set_option maxRecDepth 100000 in
theorem notit_n1 : NotIt .nilIface 34 := ⟨Try.prog.rt.typeAssertionError, #[.pointer (some ⟨Try.prog.globals.size, 137, none⟩), .pointer none, .pointer (some ⟨Try.prog.globals.size, 34, none⟩), .string ByteArray.empty], _, fun w => by rfl⟩
set_option maxRecDepth 100000 in
theorem notit_n2 : NotIt .nilIface 85 := ⟨Try.prog.rt.typeAssertionError, #[.pointer (some ⟨Try.prog.globals.size, 137, none⟩), .pointer none, .pointer (some ⟨Try.prog.globals.size, 85, none⟩), .string ByteArray.empty], _, fun w => by rfl⟩
set_option maxRecDepth 100000 in
theorem notit_n3 : NotIt .nilIface 88 := ⟨Try.prog.rt.typeAssertionError, #[.pointer (some ⟨Try.prog.globals.size, 137, none⟩), .pointer none, .pointer (some ⟨Try.prog.globals.size, 88, none⟩), .string ByteArray.empty], _, fun w => by rfl⟩
set_option maxRecDepth 100000 in
theorem notit_12 (x : Value) : NotIt (.iface 34 x) 85 := ⟨Try.prog.rt.typeAssertionError, #[.pointer (some ⟨Try.prog.globals.size, 137, none⟩), .pointer (some ⟨Try.prog.globals.size, 34, none⟩), .pointer (some ⟨Try.prog.globals.size, 85, none⟩), .string ByteArray.empty], _, fun w => by rfl⟩
set_option maxRecDepth 100000 in
theorem notit_13 (x : Value) : NotIt (.iface 34 x) 88 := ⟨Try.prog.rt.typeAssertionError, #[.pointer (some ⟨Try.prog.globals.size, 137, none⟩), .pointer (some ⟨Try.prog.globals.size, 34, none⟩), .pointer (some ⟨Try.prog.globals.size, 88, none⟩), .string ByteArray.empty], _, fun w => by rfl⟩
set_option maxRecDepth 100000 in
theorem notit_21 (x : Value) : NotIt (.iface 85 x) 34 := ⟨Try.prog.rt.typeAssertionError, #[.pointer (some ⟨Try.prog.globals.size, 137, none⟩), .pointer (some ⟨Try.prog.globals.size, 85, none⟩), .pointer (some ⟨Try.prog.globals.size, 34, none⟩), .string ByteArray.empty], _, fun w => by rfl⟩
set_option maxRecDepth 100000 in
theorem notit_23 (x : Value) : NotIt (.iface 85 x) 88 := ⟨Try.prog.rt.typeAssertionError, #[.pointer (some ⟨Try.prog.globals.size, 137, none⟩), .pointer (some ⟨Try.prog.globals.size, 85, none⟩), .pointer (some ⟨Try.prog.globals.size, 88, none⟩), .string ByteArray.empty], _, fun w => by rfl⟩
set_option maxRecDepth 100000 in
theorem notit_31 (x : Value) : NotIt (.iface 88 x) 34 := ⟨Try.prog.rt.typeAssertionError, #[.pointer (some ⟨Try.prog.globals.size, 137, none⟩), .pointer (some ⟨Try.prog.globals.size, 88, none⟩), .pointer (some ⟨Try.prog.globals.size, 34, none⟩), .string ByteArray.empty], _, fun w => by rfl⟩
set_option maxRecDepth 100000 in
theorem notit_32 (x : Value) : NotIt (.iface 88 x) 85 := ⟨Try.prog.rt.typeAssertionError, #[.pointer (some ⟨Try.prog.globals.size, 137, none⟩), .pointer (some ⟨Try.prog.globals.size, 88, none⟩), .pointer (some ⟨Try.prog.globals.size, 85, none⟩), .string ByteArray.empty], _, fun w => by rfl⟩
set_option maxRecDepth 100000 in
theorem behind1_n (w : World) : Calls Try.prog 55 #[.pointer none] w fun e w' => e = .returned (.tuple #[.pointer none, .int .i64 14]) ∧ Ext w w' := by
  obtain ⟨u, cs, t, hN⟩ := notit_n1
  have B1 : Hid (Blk (w.alloc (.cells #[.int .i64 0] 28)) w.heap.size 28 #[.int .i64 0]) := .new rfl
  go_enter_defers Try.func55, Try.ntmps55
  go_wp2_with (fail)
  refine (ofn_any _).mono ?_
  rintro e w1 ⟨rfl, x1⟩
  have b1 := (B1.out.ext x1).alloc (.cells cs t)
  have c0 : (w1.alloc (.cells cs t)).cell? ⟨w.heap.size, 0, none⟩ = some (.int .i64 0) := b1.cell 0
  have f0 := b1.free 0
  have X1 := Lib.hid ((Ext.tr (a := w) (by (repeat (first | assumption | exact Ext.rf _ | apply Ext.drew | apply Ext.drewN | apply Ext.alloc))) x1).alloc (.cells cs t))
  have c1 : ((w1.alloc (.cells cs t)).setCell ⟨w.heap.size, 0, none⟩ (.int .i64 14)).cell? ⟨w.heap.size, 0, none⟩ = some (.int .i64 14) := (b1.set 0 (.int .i64 14)).cell 0
  clear x1 B1 b1
  go_wp2
  refine leaves_cons (f := 95) (args := #[.pointer (some ⟨w.heap.size, 0, none⟩)]) (by simp) (by simp [go_sem]) ?_
  refine (other_panicking ⟨w.heap.size, 0, none⟩ u _ [] _ c0 f0).mono ?_
  rintro e u' w2 ⟨rfl, rfl, rfl⟩
  simp [Leaves, settle, results, Try.results55, go_sem, c1]
  exact X1.out.setNew (p := ⟨w.heap.size, 0, none⟩) (Nat.le_refl _) _
set_option maxRecDepth 100000 in
theorem behind1_1 (w : World) (g gk : Nat) (h : FaceB w g 34 gk) : Calls Try.prog 55 #[.pointer (some ⟨g, 0, none⟩)] w fun e w' => e = .returned (.tuple #[.pointer (some ⟨gk, 0, none⟩), .int .i64 0]) ∧ Ext w w' := by
  have as0 : ∀ (x : Value) (u : World), (Instr.typeAssert (.iface 34 x) 137 34 false).run Try.prog u = .ok x u := fun _ _ => by kernel_rfl
  have B1 : Hid (Blk (w.alloc (.cells #[.int .i64 0] 28)) w.heap.size 28 #[.int .i64 0]) := .new rfl
  go_enter_defers Try.func55, Try.ntmps55
  go_wp2_with (fail)
  refine (ofy_any _ g gk _ (h.ext (by (repeat (first | assumption | exact Ext.rf _ | apply Ext.drew | apply Ext.drewN | apply Ext.alloc))))).mono ?_
  rintro e w1 ⟨rfl, x1⟩
  have b1 := B1.out.ext x1
  have c0 : w1.cell? ⟨w.heap.size, 0, none⟩ = some (.int .i64 0) := b1.cell 0
  have f0 := b1.free 0
  have X1 := Lib.hid (Ext.tr (a := w) (by (repeat (first | assumption | exact Ext.rf _ | apply Ext.drew | apply Ext.drewN | apply Ext.alloc))) x1)
  have c1 : (w1.setCell ⟨w.heap.size, 0, none⟩ (.int .i64 0)).cell? ⟨w.heap.size, 0, none⟩ = some (.int .i64 0) := (b1.set 0 (.int .i64 0)).cell 0
  clear x1 B1
  go_wp2
  refine leaves_cons (f := 95) (args := #[.pointer (some ⟨w.heap.size, 0, none⟩)]) (by simp) (by simp [go_sem]) ?_
  refine (other_idle ⟨w.heap.size, 0, none⟩ _).mono ?_
  rintro e u' w2 ⟨rfl, rfl, rfl⟩
  simp [Leaves, settle, results, Try.results55, go_sem, c0, c1]
  exact X1.out.setNew (p := ⟨w.heap.size, 0, none⟩) (Nat.le_refl _) _
set_option maxRecDepth 100000 in
theorem behind1_2 (w : World) (g gk : Nat) (h : FaceB w g 85 gk) : Calls Try.prog 55 #[.pointer (some ⟨g, 0, none⟩)] w fun e w' => e = .returned (.tuple #[.pointer none, .int .i64 14]) ∧ Ext w w' := by
  obtain ⟨u, cs, t, hN⟩ := notit_21 (.pointer (some ⟨gk, 0, none⟩))
  have B1 : Hid (Blk (w.alloc (.cells #[.int .i64 0] 28)) w.heap.size 28 #[.int .i64 0]) := .new rfl
  go_enter_defers Try.func55, Try.ntmps55
  go_wp2_with (fail)
  refine (ofy_any _ g gk _ (h.ext (by (repeat (first | assumption | exact Ext.rf _ | apply Ext.drew | apply Ext.drewN | apply Ext.alloc))))).mono ?_
  rintro e w1 ⟨rfl, x1⟩
  have b1 := (B1.out.ext x1).alloc (.cells cs t)
  have c0 : (w1.alloc (.cells cs t)).cell? ⟨w.heap.size, 0, none⟩ = some (.int .i64 0) := b1.cell 0
  have f0 := b1.free 0
  have X1 := Lib.hid ((Ext.tr (a := w) (by (repeat (first | assumption | exact Ext.rf _ | apply Ext.drew | apply Ext.drewN | apply Ext.alloc))) x1).alloc (.cells cs t))
  have c1 : ((w1.alloc (.cells cs t)).setCell ⟨w.heap.size, 0, none⟩ (.int .i64 14)).cell? ⟨w.heap.size, 0, none⟩ = some (.int .i64 14) := (b1.set 0 (.int .i64 14)).cell 0
  clear x1 B1 b1
  go_wp2
  refine leaves_cons (f := 95) (args := #[.pointer (some ⟨w.heap.size, 0, none⟩)]) (by simp) (by simp [go_sem]) ?_
  refine (other_panicking ⟨w.heap.size, 0, none⟩ u _ [] _ c0 f0).mono ?_
  rintro e u' w2 ⟨rfl, rfl, rfl⟩
  simp [Leaves, settle, results, Try.results55, go_sem, c1]
  exact X1.out.setNew (p := ⟨w.heap.size, 0, none⟩) (Nat.le_refl _) _
set_option maxRecDepth 100000 in
theorem behind1_3 (w : World) (g gk : Nat) (h : FaceB w g 88 gk) : Calls Try.prog 55 #[.pointer (some ⟨g, 0, none⟩)] w fun e w' => e = .returned (.tuple #[.pointer none, .int .i64 14]) ∧ Ext w w' := by
  obtain ⟨u, cs, t, hN⟩ := notit_31 (.pointer (some ⟨gk, 0, none⟩))
  have B1 : Hid (Blk (w.alloc (.cells #[.int .i64 0] 28)) w.heap.size 28 #[.int .i64 0]) := .new rfl
  go_enter_defers Try.func55, Try.ntmps55
  go_wp2_with (fail)
  refine (ofy_any _ g gk _ (h.ext (by (repeat (first | assumption | exact Ext.rf _ | apply Ext.drew | apply Ext.drewN | apply Ext.alloc))))).mono ?_
  rintro e w1 ⟨rfl, x1⟩
  have b1 := (B1.out.ext x1).alloc (.cells cs t)
  have c0 : (w1.alloc (.cells cs t)).cell? ⟨w.heap.size, 0, none⟩ = some (.int .i64 0) := b1.cell 0
  have f0 := b1.free 0
  have X1 := Lib.hid ((Ext.tr (a := w) (by (repeat (first | assumption | exact Ext.rf _ | apply Ext.drew | apply Ext.drewN | apply Ext.alloc))) x1).alloc (.cells cs t))
  have c1 : ((w1.alloc (.cells cs t)).setCell ⟨w.heap.size, 0, none⟩ (.int .i64 14)).cell? ⟨w.heap.size, 0, none⟩ = some (.int .i64 14) := (b1.set 0 (.int .i64 14)).cell 0
  clear x1 B1 b1
  go_wp2
  refine leaves_cons (f := 95) (args := #[.pointer (some ⟨w.heap.size, 0, none⟩)]) (by simp) (by simp [go_sem]) ?_
  refine (other_panicking ⟨w.heap.size, 0, none⟩ u _ [] _ c0 f0).mono ?_
  rintro e u' w2 ⟨rfl, rfl, rfl⟩
  simp [Leaves, settle, results, Try.results55, go_sem, c1]
  exact X1.out.setNew (p := ⟨w.heap.size, 0, none⟩) (Nat.le_refl _) _
set_option maxRecDepth 100000 in
theorem behind2_n (w : World) : Calls Try.prog 56 #[.pointer none] w fun e w' => e = .returned (.tuple #[.pointer none, .int .i64 14]) ∧ Ext w w' := by
  obtain ⟨u, cs, t, hN⟩ := notit_n2
  have B1 : Hid (Blk (w.alloc (.cells #[.int .i64 0] 28)) w.heap.size 28 #[.int .i64 0]) := .new rfl
  go_enter_defers Try.func56, Try.ntmps56
  go_wp2_with (fail)
  refine (ofn_any _).mono ?_
  rintro e w1 ⟨rfl, x1⟩
  have b1 := (B1.out.ext x1).alloc (.cells cs t)
  have c0 : (w1.alloc (.cells cs t)).cell? ⟨w.heap.size, 0, none⟩ = some (.int .i64 0) := b1.cell 0
  have f0 := b1.free 0
  have X1 := Lib.hid ((Ext.tr (a := w) (by (repeat (first | assumption | exact Ext.rf _ | apply Ext.drew | apply Ext.drewN | apply Ext.alloc))) x1).alloc (.cells cs t))
  have c1 : ((w1.alloc (.cells cs t)).setCell ⟨w.heap.size, 0, none⟩ (.int .i64 14)).cell? ⟨w.heap.size, 0, none⟩ = some (.int .i64 14) := (b1.set 0 (.int .i64 14)).cell 0
  clear x1 B1 b1
  go_wp2
  refine leaves_cons (f := 95) (args := #[.pointer (some ⟨w.heap.size, 0, none⟩)]) (by simp) (by simp [go_sem]) ?_
  refine (other_panicking ⟨w.heap.size, 0, none⟩ u _ [] _ c0 f0).mono ?_
  rintro e u' w2 ⟨rfl, rfl, rfl⟩
  simp [Leaves, settle, results, Try.results56, go_sem, c1]
  exact X1.out.setNew (p := ⟨w.heap.size, 0, none⟩) (Nat.le_refl _) _
set_option maxRecDepth 100000 in
theorem behind2_1 (w : World) (g gk : Nat) (h : FaceB w g 34 gk) : Calls Try.prog 56 #[.pointer (some ⟨g, 0, none⟩)] w fun e w' => e = .returned (.tuple #[.pointer none, .int .i64 14]) ∧ Ext w w' := by
  obtain ⟨u, cs, t, hN⟩ := notit_12 (.pointer (some ⟨gk, 0, none⟩))
  have B1 : Hid (Blk (w.alloc (.cells #[.int .i64 0] 28)) w.heap.size 28 #[.int .i64 0]) := .new rfl
  go_enter_defers Try.func56, Try.ntmps56
  go_wp2_with (fail)
  refine (ofy_any _ g gk _ (h.ext (by (repeat (first | assumption | exact Ext.rf _ | apply Ext.drew | apply Ext.drewN | apply Ext.alloc))))).mono ?_
  rintro e w1 ⟨rfl, x1⟩
  have b1 := (B1.out.ext x1).alloc (.cells cs t)
  have c0 : (w1.alloc (.cells cs t)).cell? ⟨w.heap.size, 0, none⟩ = some (.int .i64 0) := b1.cell 0
  have f0 := b1.free 0
  have X1 := Lib.hid ((Ext.tr (a := w) (by (repeat (first | assumption | exact Ext.rf _ | apply Ext.drew | apply Ext.drewN | apply Ext.alloc))) x1).alloc (.cells cs t))
  have c1 : ((w1.alloc (.cells cs t)).setCell ⟨w.heap.size, 0, none⟩ (.int .i64 14)).cell? ⟨w.heap.size, 0, none⟩ = some (.int .i64 14) := (b1.set 0 (.int .i64 14)).cell 0
  clear x1 B1 b1
  go_wp2
  refine leaves_cons (f := 95) (args := #[.pointer (some ⟨w.heap.size, 0, none⟩)]) (by simp) (by simp [go_sem]) ?_
  refine (other_panicking ⟨w.heap.size, 0, none⟩ u _ [] _ c0 f0).mono ?_
  rintro e u' w2 ⟨rfl, rfl, rfl⟩
  simp [Leaves, settle, results, Try.results56, go_sem, c1]
  exact X1.out.setNew (p := ⟨w.heap.size, 0, none⟩) (Nat.le_refl _) _
set_option maxRecDepth 100000 in
theorem behind2_2 (w : World) (g gk : Nat) (h : FaceB w g 85 gk) : Calls Try.prog 56 #[.pointer (some ⟨g, 0, none⟩)] w fun e w' => e = .returned (.tuple #[.pointer (some ⟨gk, 0, none⟩), .int .i64 0]) ∧ Ext w w' := by
  have as0 : ∀ (x : Value) (u : World), (Instr.typeAssert (.iface 85 x) 137 85 false).run Try.prog u = .ok x u := fun _ _ => by kernel_rfl
  have B1 : Hid (Blk (w.alloc (.cells #[.int .i64 0] 28)) w.heap.size 28 #[.int .i64 0]) := .new rfl
  go_enter_defers Try.func56, Try.ntmps56
  go_wp2_with (fail)
  refine (ofy_any _ g gk _ (h.ext (by (repeat (first | assumption | exact Ext.rf _ | apply Ext.drew | apply Ext.drewN | apply Ext.alloc))))).mono ?_
  rintro e w1 ⟨rfl, x1⟩
  have b1 := B1.out.ext x1
  have c0 : w1.cell? ⟨w.heap.size, 0, none⟩ = some (.int .i64 0) := b1.cell 0
  have f0 := b1.free 0
  have X1 := Lib.hid (Ext.tr (a := w) (by (repeat (first | assumption | exact Ext.rf _ | apply Ext.drew | apply Ext.drewN | apply Ext.alloc))) x1)
  have c1 : (w1.setCell ⟨w.heap.size, 0, none⟩ (.int .i64 0)).cell? ⟨w.heap.size, 0, none⟩ = some (.int .i64 0) := (b1.set 0 (.int .i64 0)).cell 0
  clear x1 B1
  go_wp2
  refine leaves_cons (f := 95) (args := #[.pointer (some ⟨w.heap.size, 0, none⟩)]) (by simp) (by simp [go_sem]) ?_
  refine (other_idle ⟨w.heap.size, 0, none⟩ _).mono ?_
  rintro e u' w2 ⟨rfl, rfl, rfl⟩
  simp [Leaves, settle, results, Try.results56, go_sem, c0, c1]
  exact X1.out.setNew (p := ⟨w.heap.size, 0, none⟩) (Nat.le_refl _) _
set_option maxRecDepth 100000 in
theorem behind2_3 (w : World) (g gk : Nat) (h : FaceB w g 88 gk) : Calls Try.prog 56 #[.pointer (some ⟨g, 0, none⟩)] w fun e w' => e = .returned (.tuple #[.pointer none, .int .i64 14]) ∧ Ext w w' := by
  obtain ⟨u, cs, t, hN⟩ := notit_32 (.pointer (some ⟨gk, 0, none⟩))
  have B1 : Hid (Blk (w.alloc (.cells #[.int .i64 0] 28)) w.heap.size 28 #[.int .i64 0]) := .new rfl
  go_enter_defers Try.func56, Try.ntmps56
  go_wp2_with (fail)
  refine (ofy_any _ g gk _ (h.ext (by (repeat (first | assumption | exact Ext.rf _ | apply Ext.drew | apply Ext.drewN | apply Ext.alloc))))).mono ?_
  rintro e w1 ⟨rfl, x1⟩
  have b1 := (B1.out.ext x1).alloc (.cells cs t)
  have c0 : (w1.alloc (.cells cs t)).cell? ⟨w.heap.size, 0, none⟩ = some (.int .i64 0) := b1.cell 0
  have f0 := b1.free 0
  have X1 := Lib.hid ((Ext.tr (a := w) (by (repeat (first | assumption | exact Ext.rf _ | apply Ext.drew | apply Ext.drewN | apply Ext.alloc))) x1).alloc (.cells cs t))
  have c1 : ((w1.alloc (.cells cs t)).setCell ⟨w.heap.size, 0, none⟩ (.int .i64 14)).cell? ⟨w.heap.size, 0, none⟩ = some (.int .i64 14) := (b1.set 0 (.int .i64 14)).cell 0
  clear x1 B1 b1
  go_wp2
  refine leaves_cons (f := 95) (args := #[.pointer (some ⟨w.heap.size, 0, none⟩)]) (by simp) (by simp [go_sem]) ?_
  refine (other_panicking ⟨w.heap.size, 0, none⟩ u _ [] _ c0 f0).mono ?_
  rintro e u' w2 ⟨rfl, rfl, rfl⟩
  simp [Leaves, settle, results, Try.results56, go_sem, c1]
  exact X1.out.setNew (p := ⟨w.heap.size, 0, none⟩) (Nat.le_refl _) _
set_option maxRecDepth 100000 in
theorem behind3_n (w : World) : Calls Try.prog 57 #[.pointer none] w fun e w' => e = .returned (.tuple #[.pointer none, .int .i64 14]) ∧ Ext w w' := by
  obtain ⟨u, cs, t, hN⟩ := notit_n3
  have B1 : Hid (Blk (w.alloc (.cells #[.int .i64 0] 28)) w.heap.size 28 #[.int .i64 0]) := .new rfl
  go_enter_defers Try.func57, Try.ntmps57
  go_wp2_with (fail)
  refine (ofn_any _).mono ?_
  rintro e w1 ⟨rfl, x1⟩
  have b1 := (B1.out.ext x1).alloc (.cells cs t)
  have c0 : (w1.alloc (.cells cs t)).cell? ⟨w.heap.size, 0, none⟩ = some (.int .i64 0) := b1.cell 0
  have f0 := b1.free 0
  have X1 := Lib.hid ((Ext.tr (a := w) (by (repeat (first | assumption | exact Ext.rf _ | apply Ext.drew | apply Ext.drewN | apply Ext.alloc))) x1).alloc (.cells cs t))
  have c1 : ((w1.alloc (.cells cs t)).setCell ⟨w.heap.size, 0, none⟩ (.int .i64 14)).cell? ⟨w.heap.size, 0, none⟩ = some (.int .i64 14) := (b1.set 0 (.int .i64 14)).cell 0
  clear x1 B1 b1
  go_wp2
  refine leaves_cons (f := 95) (args := #[.pointer (some ⟨w.heap.size, 0, none⟩)]) (by simp) (by simp [go_sem]) ?_
  refine (other_panicking ⟨w.heap.size, 0, none⟩ u _ [] _ c0 f0).mono ?_
  rintro e u' w2 ⟨rfl, rfl, rfl⟩
  simp [Leaves, settle, results, Try.results57, go_sem, c1]
  exact X1.out.setNew (p := ⟨w.heap.size, 0, none⟩) (Nat.le_refl _) _
set_option maxRecDepth 100000 in
theorem behind3_1 (w : World) (g gk : Nat) (h : FaceB w g 34 gk) : Calls Try.prog 57 #[.pointer (some ⟨g, 0, none⟩)] w fun e w' => e = .returned (.tuple #[.pointer none, .int .i64 14]) ∧ Ext w w' := by
  obtain ⟨u, cs, t, hN⟩ := notit_13 (.pointer (some ⟨gk, 0, none⟩))
  have B1 : Hid (Blk (w.alloc (.cells #[.int .i64 0] 28)) w.heap.size 28 #[.int .i64 0]) := .new rfl
  go_enter_defers Try.func57, Try.ntmps57
  go_wp2_with (fail)
  refine (ofy_any _ g gk _ (h.ext (by (repeat (first | assumption | exact Ext.rf _ | apply Ext.drew | apply Ext.drewN | apply Ext.alloc))))).mono ?_
  rintro e w1 ⟨rfl, x1⟩
  have b1 := (B1.out.ext x1).alloc (.cells cs t)
  have c0 : (w1.alloc (.cells cs t)).cell? ⟨w.heap.size, 0, none⟩ = some (.int .i64 0) := b1.cell 0
  have f0 := b1.free 0
  have X1 := Lib.hid ((Ext.tr (a := w) (by (repeat (first | assumption | exact Ext.rf _ | apply Ext.drew | apply Ext.drewN | apply Ext.alloc))) x1).alloc (.cells cs t))
  have c1 : ((w1.alloc (.cells cs t)).setCell ⟨w.heap.size, 0, none⟩ (.int .i64 14)).cell? ⟨w.heap.size, 0, none⟩ = some (.int .i64 14) := (b1.set 0 (.int .i64 14)).cell 0
  clear x1 B1 b1
  go_wp2
  refine leaves_cons (f := 95) (args := #[.pointer (some ⟨w.heap.size, 0, none⟩)]) (by simp) (by simp [go_sem]) ?_
  refine (other_panicking ⟨w.heap.size, 0, none⟩ u _ [] _ c0 f0).mono ?_
  rintro e u' w2 ⟨rfl, rfl, rfl⟩
  simp [Leaves, settle, results, Try.results57, go_sem, c1]
  exact X1.out.setNew (p := ⟨w.heap.size, 0, none⟩) (Nat.le_refl _) _
set_option maxRecDepth 100000 in
theorem behind3_2 (w : World) (g gk : Nat) (h : FaceB w g 85 gk) : Calls Try.prog 57 #[.pointer (some ⟨g, 0, none⟩)] w fun e w' => e = .returned (.tuple #[.pointer none, .int .i64 14]) ∧ Ext w w' := by
  obtain ⟨u, cs, t, hN⟩ := notit_23 (.pointer (some ⟨gk, 0, none⟩))
  have B1 : Hid (Blk (w.alloc (.cells #[.int .i64 0] 28)) w.heap.size 28 #[.int .i64 0]) := .new rfl
  go_enter_defers Try.func57, Try.ntmps57
  go_wp2_with (fail)
  refine (ofy_any _ g gk _ (h.ext (by (repeat (first | assumption | exact Ext.rf _ | apply Ext.drew | apply Ext.drewN | apply Ext.alloc))))).mono ?_
  rintro e w1 ⟨rfl, x1⟩
  have b1 := (B1.out.ext x1).alloc (.cells cs t)
  have c0 : (w1.alloc (.cells cs t)).cell? ⟨w.heap.size, 0, none⟩ = some (.int .i64 0) := b1.cell 0
  have f0 := b1.free 0
  have X1 := Lib.hid ((Ext.tr (a := w) (by (repeat (first | assumption | exact Ext.rf _ | apply Ext.drew | apply Ext.drewN | apply Ext.alloc))) x1).alloc (.cells cs t))
  have c1 : ((w1.alloc (.cells cs t)).setCell ⟨w.heap.size, 0, none⟩ (.int .i64 14)).cell? ⟨w.heap.size, 0, none⟩ = some (.int .i64 14) := (b1.set 0 (.int .i64 14)).cell 0
  clear x1 B1 b1
  go_wp2
  refine leaves_cons (f := 95) (args := #[.pointer (some ⟨w.heap.size, 0, none⟩)]) (by simp) (by simp [go_sem]) ?_
  refine (other_panicking ⟨w.heap.size, 0, none⟩ u _ [] _ c0 f0).mono ?_
  rintro e u' w2 ⟨rfl, rfl, rfl⟩
  simp [Leaves, settle, results, Try.results57, go_sem, c1]
  exact X1.out.setNew (p := ⟨w.heap.size, 0, none⟩) (Nat.le_refl _) _
set_option maxRecDepth 100000 in
theorem behind3_3 (w : World) (g gk : Nat) (h : FaceB w g 88 gk) : Calls Try.prog 57 #[.pointer (some ⟨g, 0, none⟩)] w fun e w' => e = .returned (.tuple #[.pointer (some ⟨gk, 0, none⟩), .int .i64 0]) ∧ Ext w w' := by
  have as0 : ∀ (x : Value) (u : World), (Instr.typeAssert (.iface 88 x) 137 88 false).run Try.prog u = .ok x u := fun _ _ => by kernel_rfl
  have B1 : Hid (Blk (w.alloc (.cells #[.int .i64 0] 28)) w.heap.size 28 #[.int .i64 0]) := .new rfl
  go_enter_defers Try.func57, Try.ntmps57
  go_wp2_with (fail)
  refine (ofy_any _ g gk _ (h.ext (by (repeat (first | assumption | exact Ext.rf _ | apply Ext.drew | apply Ext.drewN | apply Ext.alloc))))).mono ?_
  rintro e w1 ⟨rfl, x1⟩
  have b1 := B1.out.ext x1
  have c0 : w1.cell? ⟨w.heap.size, 0, none⟩ = some (.int .i64 0) := b1.cell 0
  have f0 := b1.free 0
  have X1 := Lib.hid (Ext.tr (a := w) (by (repeat (first | assumption | exact Ext.rf _ | apply Ext.drew | apply Ext.drewN | apply Ext.alloc))) x1)
  have c1 : (w1.setCell ⟨w.heap.size, 0, none⟩ (.int .i64 0)).cell? ⟨w.heap.size, 0, none⟩ = some (.int .i64 0) := (b1.set 0 (.int .i64 0)).cell 0
  clear x1 B1
  go_wp2
  refine leaves_cons (f := 95) (args := #[.pointer (some ⟨w.heap.size, 0, none⟩)]) (by simp) (by simp [go_sem]) ?_
  refine (other_idle ⟨w.heap.size, 0, none⟩ _).mono ?_
  rintro e u' w2 ⟨rfl, rfl, rfl⟩
  simp [Leaves, settle, results, Try.results57, go_sem, c0, c1]
  exact X1.out.setNew (p := ⟨w.heap.size, 0, none⟩) (Nat.le_refl _) _
end Go.Proofs.Ytleckhbmciiooaa
