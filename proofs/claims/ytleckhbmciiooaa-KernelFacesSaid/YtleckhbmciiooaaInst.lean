/-
  Problems (api.Instance): as an argument, what they read as; the document's cut and Copy.
-/
import Derived.Test.YtleckhbmciiooaaOpen
import Derived.Test.YtleckhbmciiooaaModT
import Derived.Test.YtleckhbmciiooaaStep
namespace Go.Proofs.Ytleckhbmciiooaa
open Go.RowKit Go.ChangeShapes Go.WideShapes Go.ChangeAt Go.Deep

structure InstP where
  kind : Int
  n : Int
  cap : Int
  weight : List Int
  value : List Int
  cost : List (List Int)
/-- the six cells of a problem -/
def RInst (w : World) (vs : List Value) (i : InstP) : Prop := ∃ (A : Option Addr) (a : Nat) (B : Option Addr) (b : Nat) (C : Option Addr) (c : Nat),
  vs = [.int .i64 i.kind, .int .i64 i.n, .int .i64 i.cap, .slice A i.weight.length a, .slice B i.value.length b, .slice C i.cost.length c] ∧
  (RdI w A i.weight ∧ Ints i.weight ∧ i.weight.length ≤ a ∧ a ≤ maxLen) ∧ (RdI w B i.value ∧ Ints i.value ∧ i.value.length ≤ b ∧ b ≤ maxLen) ∧ (RdE 1 RInts w C i.cost ∧ i.cost.length ≤ c ∧ c ≤ maxLen)
theorem RInst.ext {w w' : World} {vs : List Value} {i : InstP} (h : RInst w vs i) (x : Ext w w') : RInst w' vs i := by
  obtain ⟨A, a, B, b, C, c, rfl, ⟨h1, h2⟩, ⟨h3, h4⟩, ⟨h5, h6⟩⟩ := h
  exact ⟨A, a, B, b, C, c, rfl, ⟨h1.ext x, h2⟩, ⟨h3.ext x, h4⟩, ⟨h5.ext x fun _ _ h => h.ext x, h6⟩⟩
def InstOk (i : InstP) : Prop := (-9223372036854775808 ≤ i.kind ∧ i.kind ≤ 9223372036854775807) ∧ (-9223372036854775808 ≤ i.n ∧ i.n ≤ 9223372036854775807) ∧ (-9223372036854775808 ≤ i.cap ∧ i.cap ≤ 9223372036854775807)
section
variable {H : Type} {enc : TypeId × Value → H} {W : World}
theorem cells_inst : Try.prog.cellsOf 25 = 6 := by kernel_rfl
theorem cells_is : Try.prog.cellsOf 22 = 1 := by kernel_rfl
theorem cells_iss : Try.prog.cellsOf 23 = 1 := by kernel_rfl
set_option maxRecDepth 100000 in
theorem open_Inst {base : Nat} {v : Value} {d : DataW H} {p : List MemPlace} (hd : DataW.Trod enc Try.prog W 0 (fun _ => true) true 25 v d p) (hv : Value.okWide Try.prog W .any base 25 v) :
    ∃ vs i, v = .agg (List.toArray vs) ∧ RInst W vs i ∧ InstOk i := by
  obtain ⟨cs, rfl, hsz⟩ := okWide_struct Try.underlying25 hv
  rw [cells_inst] at hsz
  obtain ⟨l⟩ := cs
  match l, hsz with
  | [c0, c1, c2, c3, c4, c5], _ =>
    obtain ⟨fuel, h⟩ := hd
    obtain ⟨n0, y0, h0⟩ := field_at Try.underlying25 h 0 3 0 1 rfl cells_int
    obtain ⟨n1, y1, h1⟩ := field_at Try.underlying25 h 1 3 1 1 rfl cells_int
    obtain ⟨n2, y2, h2⟩ := field_at Try.underlying25 h 2 3 2 1 rfl cells_int
    obtain ⟨n3, y3, h3⟩ := field_at Try.underlying25 h 3 22 3 1 rfl cells_is
    obtain ⟨n4, y4, h4⟩ := field_at Try.underlying25 h 4 22 4 1 rfl cells_is
    obtain ⟨n5, y5, h5⟩ := field_at Try.underlying25 h 5 23 5 1 rfl cells_iss
    obtain ⟨x0, e0, b0⟩ := opens_int _ _ _ h0
    obtain ⟨x1, e1, b1⟩ := opens_int _ _ _ h1
    obtain ⟨x2, e2, b2⟩ := opens_int _ _ _ h2
    obtain ⟨l3, A3, a3, e3, r3⟩ := opens_ints _ _ _ h3
    obtain ⟨l4, A4, a4, e4, r4⟩ := opens_ints _ _ _ h4
    obtain ⟨A5, l5, a5, e5, r5⟩ := open_E Try.underlying23 cells_is (by omega) opens_ints h5
    injection e0 with e0
    injection e1 with e1
    injection e2 with e2
    injection e3 with e3
    injection e4 with e4
    injection e5 with e5
    subst e0 e1 e2 e3 e4 e5
    exact ⟨_, ⟨x0, x1, x2, l3, l4, l5⟩, rfl, ⟨A3, a3, A4, a4, A5, a5, rfl, r3, r4, r5⟩, b0, b1, b2⟩
end
end Go.Proofs.Ytleckhbmciiooaa
