/-
  kernel: Depth through the face; how many beginnings three items of one weight have.
-/
import Derived.Test.YtleckhbmciiooaaFaceA
namespace Go.Proofs.Ytleckhbmciiooaa
open Go.RowKit Go.ChangeShapes Go.WideShapes Go.ChangeAt Go.Deep

set_option maxRecDepth 100000 in
theorem fdepth1_any {w : World} {g gk base : Nat} {cap : Int} {l : List Nat} {ws vs bs : List Int} (h : FaceB w g 34 gk) (K : KernB w base gk cap l ws vs bs) :
    Calls Try.prog 53 #[.pointer (some ⟨g, 0, none⟩)] w fun e w' => e = .returned (.int .i64 l.length) ∧ Ext w w' := by
  have c0 : w.cell? ⟨g, 0, none⟩ = some (.iface 34 (.pointer (some ⟨gk, 0, none⟩))) := Blk.cell h 0
  have hm : ∀ (x : Value) (u : World), (callMethod (.iface 34 x) "Depth" #[]).run Try.prog u = .ok (.enter 19 #[x]) u := fun _ _ => by kernel_rfl
  have D := Lib.hid (depth_any w K)
  go_enter Try.func53, Try.ntmps53
  go_wp2_with (fail)
  refine D.out.mono ?_
  rintro e w1 ⟨rfl, x1⟩
  go_wp2_with (fail)
  go_ret
  exact ⟨rfl, x1⟩
set_option maxRecDepth 100000 in
theorem asize_any (a : Int) (ha : 0 ≤ a) (hb : a ≤ 2147483647) (w : World) : Calls Try.prog 161 #[.int .i64 a] w fun e w' => e = .returned (.int .u64 a) ∧ Ext w w' := by
  have e2 : IntKind.u64.wrap a = a := by
    simp only [IntKind.wrap, IntKind.signed, IntKind.bits]
    simp
    omega
  have e1 : ¬ a < 0 := by omega
  go_enter Try.func161, Try.ntmps161
  go_wp2
  go_ret
  exact ⟨rfl, by (repeat (first | assumption | exact Ext.rf _ | apply Ext.drew | apply Ext.drewN | apply Ext.alloc))⟩
set_option maxRecDepth 100000 in
theorem asigned_any (a : Int) (ha : 0 ≤ a) (hb : a ≤ 9223372036854775807) (w : World) : Calls Try.prog 162 #[.bool false, .int .u64 a] w fun e w' => e = .returned (.tuple #[.int .i64 a, .bool true]) ∧ Ext w w' := by
  have e2 : IntKind.i64.wrap a = a := IntWalk.i64_in _ (by omega)
  have e1 : a ≤ 9223372036854775807 := hb
  go_enter Try.func162, Try.ntmps162
  go_wp2
  go_ret2
  exact ⟨rfl, by (repeat (first | assumption | exact Ext.rf _ | apply Ext.drew | apply Ext.drewN | apply Ext.alloc))⟩
set_option maxRecDepth 100000 in
theorem amul_any (a b : Int) (ha : 0 ≤ a) (ha' : a ≤ 2147483647) (hb : 0 ≤ b) (hb' : b ≤ 2147483647) (w : World) : Calls Try.prog 136 #[.int .i64 a, .int .i64 b] w fun e w' => e = .returned (.tuple #[.int .i64 (a * b), .bool true]) ∧ Ext w w' := by
  have MU := Lib.hid (fun (W : World) => mul64_any a b W ha ha' hb hb')
  have hab : 0 ≤ a * b := Int.mul_nonneg ha hb
  have hab2 : a * b ≤ 2147483647 * 2147483647 := Int.mul_le_mul ha' hb' hb (by omega)
  have e1 : ¬ a < 0 := by omega
  have e2 : ¬ b < 0 := by omega
  generalize a * b = ab at *
  go_enter Try.func136, Try.ntmps136
  go_wp2_with (fail)
  refine (asize_any a ha ha' _).mono ?_
  rintro e w1 ⟨rfl, x1⟩
  go_wp2_with (fail)
  refine (asize_any b hb hb' _).mono ?_
  rintro e w2 ⟨rfl, x2⟩
  go_wp2_with (fail)
  refine (MU.out _).mono ?_
  rintro e w3 ⟨rfl, x3⟩
  go_wp2_with (fail)
  refine (asigned_any ab hab (by omega) _).mono ?_
  rintro e w4 ⟨rfl, x4⟩
  have X4 := Lib.hid (Ext.tr (Ext.tr (Ext.tr x1 x2) x3) x4)
  clear x1 x2 x3 x4
  go_wp2_with (fail)
  go_ret2
  exact ⟨rfl, X4.out⟩
set_option maxRecDepth 100000 in
theorem aadd_any (a b : Int) (ha : 0 ≤ a) (ha' : a ≤ 2147483647) (hb : 0 ≤ b) (hb' : b ≤ 2147483647) (w : World) : Calls Try.prog 79 #[.int .i64 a, .int .i64 b] w fun e w' => e = .returned (.tuple #[.int .i64 (a + b), .bool true]) ∧ Ext w w' := by
  have wr : ∀ z : Int, 0 ≤ z → z ≤ 4294967294 → IntKind.u64.wrap z = z := fun z h1 h2 => by
    simp only [IntKind.wrap, IntKind.signed, IntKind.bits]
    simp
    omega
  have u1 := wr a ha (by omega)
  have u2 := wr b hb (by omega)
  have u3 := wr (a + b) (by omega) (by omega)
  have u4 : IntKind.i64.wrap (a + b) = a + b := IntWalk.i64_in _ (by omega)
  have e1 : ¬ a < 0 := by omega
  have e2 : ¬ b < 0 := by omega
  have e3 : ¬ a + b < 0 := by omega
  clear wr
  go_enter Try.func79, Try.ntmps79
  go_wp2
  go_ret2
  exact ⟨rfl, by (repeat (first | assumption | exact Ext.rf _ | apply Ext.drew | apply Ext.drewN | apply Ext.alloc))⟩
set_option maxRecDepth 100000 in
theorem aup_any (a b : Int) (ha : 0 ≤ a) (ha' : a ≤ 2147483647) (hb : 0 ≤ b) (hb' : b ≤ 2147483647) (w : World) : Calls Try.prog 137 #[.int .i64 a, .int .i64 b] w fun e w' => e = .returned (.int .i64 (a + b)) ∧ Ext w w' := by
  have e1 : ¬ a < 0 := by omega
  have e2 : ¬ b < 0 := by omega
  go_enter Try.func137, Try.ntmps137
  go_wp2_with (fail)
  refine (aadd_any a b ha ha' hb hb' _).mono ?_
  rintro e w1 ⟨rfl, x1⟩
  go_wp2_with (fail)
  go_ret
  exact ⟨rfl, x1⟩
end Go.Proofs.Ytleckhbmciiooaa
