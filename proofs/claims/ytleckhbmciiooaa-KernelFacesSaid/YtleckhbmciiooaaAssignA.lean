/-
  An assignment's kernel: New, Depth.
-/
import Derived.Test.YtleckhbmciiooaaAssignP
import Derived.Test.YtleckhbmciiooaaICopy
namespace Go.Proofs.Ytleckhbmciiooaa
open Go.RowKit Go.ChangeShapes Go.WideShapes Go.ChangeAt Go.Deep

/-- the kernel at g: the rows, of its own -/
def KernA (w : World) (base g : Nat) (rows : List (List Int)) : Prop := ∃ C c us, Blk w g 159 #[.slice C rows.length c] ∧ base ≤ g ∧ OwV w base 22 1 C rows.length c us ∧ RowsO w base us rows
theorem KernA.ext {w w' : World} {base g : Nat} {rows : List (List Int)} (h : KernA w base g rows) (x : Ext w w') : KernA w' base g rows := by
  obtain ⟨C, c, us, h1, h2, h3, h4⟩ := h
  exact ⟨C, c, us, h1.ext x, h2, h3.ext x, h4.ext x⟩
def NewAPost (i : InstP) (w : World) (e : Ending) (w' : World) : Prop := ∃ g, e = .returned (.tuple #[.pointer (some ⟨g, 0, none⟩), .int .i64 0]) ∧ KernA w' w.heap.size g i.cost ∧ Ext w w'
set_option maxRecDepth 100000 in
set_option maxHeartbeats 1000000 in
theorem newa_yes (i : InstP) (vs : List Value) (w : World) (H : RInst w vs i) (hc : checkP i = 0) (hk : i.kind = 2) :
    Calls Try.prog 92 #[.agg (List.toArray vs)] w (NewAPost i w) := by
  have ok := square_ok hc (by omega)
  have lw : i.weight.length ≤ 1000000000 := by rw [ok.w]; simp
  have lv : i.value.length ≤ 1000000000 := by rw [ok.v]; simp
  have CH := fun (W : World) (x : Ext w W) => check_any i vs W (H.ext x) lw lv
  rw [hc] at CH
  have CP := fun (W : World) (x : Ext w W) => icopy_any i vs W (H.ext x) lw lv (by have := ok.len; have := ok.n2; omega) (fun r hr => by have := ok.row r hr; have := ok.n2; omega)
  clear ok lw lv hc
  obtain ⟨kind, nn, cap, xw, xv, co⟩ := i
  obtain ⟨A, a, B, b, C, c, rfl, -, -, -⟩ := H
  simp only at *
  subst hk
  have B1 : Hid (Blk (w.alloc (.cells #[.int .i64 2, .int .i64 nn, .int .i64 cap, .slice A xw.length a, .slice B xv.length b, .slice C co.length c] 25)) w.heap.size 25 #[.int .i64 2, .int .i64 nn, .int .i64 cap, .slice A xw.length a, .slice B xv.length b, .slice C co.length c]) := .new rfl
  replace CH := Lib.hid CH
  replace CP := Lib.hid CP
  go_enter Try.func92, Try.ntmps92
  go_wp2_with (fail)
  refine (CH.out _ (by (repeat (first | assumption | exact Ext.rf _ | apply Ext.drew | apply Ext.drewN | apply Ext.alloc)))).mono ?_
  rintro e w1 ⟨rfl, x1⟩
  have X1 := Lib.hid (Ext.tr (a := w) (by (repeat (first | assumption | exact Ext.rf _ | apply Ext.drew | apply Ext.drewN | apply Ext.alloc))) x1)
  have BB := Lib.hid (B1.out.ext x1)
  clear x1
  have c0 : w1.cell? ⟨w.heap.size, 0, none⟩ = some (.int .i64 2) := BB.out.cell 0
  have c1 : w1.cell? ⟨w.heap.size, 1, none⟩ = some (.int .i64 nn) := BB.out.cell 1
  have c2 : w1.cell? ⟨w.heap.size, 2, none⟩ = some (.int .i64 cap) := BB.out.cell 2
  have c3 : w1.cell? ⟨w.heap.size, 3, none⟩ = some (.slice A xw.length a) := BB.out.cell 3
  have c4 : w1.cell? ⟨w.heap.size, 4, none⟩ = some (.slice B xv.length b) := BB.out.cell 4
  have c5 : w1.cell? ⟨w.heap.size, 5, none⟩ = some (.slice C co.length c) := BB.out.cell 5
  go_wp2_with (fail)
  refine (CP.out _ X1.out).mono ?_
  rintro e w2 ⟨A3, c3', B3, d3, C2, e2, us, rfl, oV, oR, x2⟩
  have zx := x2.size
  have z1 := X1.out.size
  have FIN : Hid (KernA (w2.alloc (.cells #[.slice C2 co.length e2] 159)) w.heap.size w2.heap.size co ∧ Ext w (w2.alloc (.cells #[.slice C2 co.length e2] 159))) :=
    ⟨⟨C2, e2, us, .new rfl, by omega, (oV.more z1).ext ((Ext.rf _).alloc _), (oR.more z1).ext ((Ext.rf _).alloc _)⟩, (X1.out.tr x2).alloc _⟩
  have fld : ∀ W, (Instr.field 25 (.agg #[.int .i64 2, .int .i64 nn, .int .i64 cap, .slice A3 xw.length c3', .slice B3 xv.length d3, .slice C2 co.length e2]) 5).run Try.prog W = .ok (.slice C2 co.length e2) W := fun _ => by kernel_rfl
  clear oV oR x2 c0 c1 c2 c3 c4 c5
  go_wp2_with (fail)
  go_ret2
  exact ⟨_, rfl, FIN.out.1, FIN.out.2⟩
set_option maxRecDepth 100000 in
theorem newa_bad (i : InstP) (vs : List Value) (w : World) (H : RInst w vs i) (lw : i.weight.length ≤ 1000000000) (lv : i.value.length ≤ 1000000000) (hc : checkP i ≠ 0) :
    Calls Try.prog 92 #[.agg (List.toArray vs)] w fun e w' => e = .returned (.tuple #[.pointer none, .int .i64 (checkP i)]) ∧ Ext w w' := by
  have CH := fun (W : World) (x : Ext w W) => check_any i vs W (H.ext x) lw lv
  have hb : (checkP i != 0) = true := by simpa using hc
  generalize checkP i = r at *
  obtain ⟨A, a, B, b, C, c, rfl, -, -, -⟩ := H
  replace CH := Lib.hid CH
  clear hc
  go_enter Try.func92, Try.ntmps92
  go_wp2_with (fail)
  refine (CH.out _ (by (repeat (first | assumption | exact Ext.rf _ | apply Ext.drew | apply Ext.drewN | apply Ext.alloc)))).mono ?_
  rintro e w1 ⟨rfl, x1⟩
  have X1 := Lib.hid (Ext.tr (a := w) (by (repeat (first | assumption | exact Ext.rf _ | apply Ext.drew | apply Ext.drewN | apply Ext.alloc))) x1)
  clear x1
  go_wp2_with (fail)
  go_ret2
  exact ⟨rfl, X1.out⟩
set_option maxRecDepth 100000 in
theorem newa_kind (i : InstP) (vs : List Value) (w : World) (H : RInst w vs i) (lw : i.weight.length ≤ 1000000000) (lv : i.value.length ≤ 1000000000) (hc : checkP i = 0) (hk : i.kind ≠ 2) :
    Calls Try.prog 92 #[.agg (List.toArray vs)] w fun e w' => e = .returned (.tuple #[.pointer none, .int .i64 14]) ∧ Ext w w' := by
  have CH := fun (W : World) (x : Ext w W) => check_any i vs W (H.ext x) lw lv
  rw [hc] at CH
  have hb : (i.kind != 2) = true := by simpa using hk
  clear hc hk
  obtain ⟨kind, nn, cap, xw, xv, co⟩ := i
  obtain ⟨A, a, B, b, C, c, rfl, -, -, -⟩ := H
  simp only at *
  replace CH := Lib.hid CH
  have B1 : Hid (Blk (w.alloc (.cells #[.int .i64 kind, .int .i64 nn, .int .i64 cap, .slice A xw.length a, .slice B xv.length b, .slice C co.length c] 25)) w.heap.size 25 #[.int .i64 kind, .int .i64 nn, .int .i64 cap, .slice A xw.length a, .slice B xv.length b, .slice C co.length c]) := .new rfl
  go_enter Try.func92, Try.ntmps92
  go_wp2_with (fail)
  refine (CH.out _ (by (repeat (first | assumption | exact Ext.rf _ | apply Ext.drew | apply Ext.drewN | apply Ext.alloc)))).mono ?_
  rintro e w1 ⟨rfl, x1⟩
  have X1 := Lib.hid (Ext.tr (a := w) (by (repeat (first | assumption | exact Ext.rf _ | apply Ext.drew | apply Ext.drewN | apply Ext.alloc))) x1)
  have c0 : w1.cell? ⟨w.heap.size, 0, none⟩ = some (.int .i64 kind) := (B1.out.ext x1).cell 0
  clear x1
  go_wp2_with (fail)
  go_ret2
  exact ⟨rfl, X1.out⟩
theorem deptha_any {base g : Nat} {rows : List (List Int)} (w : World) (H : KernA w base g rows) : Calls Try.prog 199 #[.pointer (some ⟨g, 0, none⟩)] w fun e w' => e = .returned (.int .i64 rows.length) ∧ Ext w w' := by
  obtain ⟨C, c, us, h1, -, -, -⟩ := H
  have c0 : w.cell? ⟨g, 0, none⟩ = some (.slice C rows.length c) := h1.cell 0
  go_enter Try.func199, Try.ntmps199
  go_wp2
  go_ret
  exact ⟨rfl, Ext.rf _⟩
theorem deptha_nil (w : World) : Calls Try.prog 199 #[.pointer none] w fun e w' => e = .returned (.int .i64 0) ∧ Ext w w' := by
  go_enter Try.func199, Try.ntmps199
  go_wp2
  go_ret
  exact ⟨rfl, Ext.rf _⟩
end Go.Proofs.Ytleckhbmciiooaa
