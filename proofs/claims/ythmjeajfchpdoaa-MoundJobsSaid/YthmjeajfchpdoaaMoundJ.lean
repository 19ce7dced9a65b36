/-
  mound: the law's jobs as an argument.
-/
import Derived.Test.YthmjeajfchpdoaaOpen
namespace Go.Proofs.Ythmjeajfchpdoaa
open Go.RowKit Go.ChangeShapes Go.WideShapes Go.ChangeAt Go.Deep

/-- one call: what, an item, draws -/
structure JobP where
  what : Int
  key : Int
  id : Int
  draws : List Int
def RJob (w : World) (cs : List Value) (j : JobP) : Prop := ∃ A c, cs = [.int .i64 j.what, .int .i64 j.key, .int .i64 j.id, .slice A j.draws.length c] ∧ RdI w A j.draws ∧ Ints j.draws ∧ j.draws.length ≤ c ∧ c ≤ maxLen
theorem RJob.ext {w w' : World} {cs : List Value} {j : JobP} (h : RJob w cs j) (hb : Ext w w') : RJob w' cs j := by
  obtain ⟨A, c, h1, h2, h3⟩ := h
  exact ⟨A, c, h1, h2.ext hb, h3⟩
section
variable {H : Type} {enc : TypeId × Value → H} {W : World}
theorem cells_ref_item : Try.prog.cellsOf 73 = 2 := by kernel_rfl
theorem cells_job : Try.prog.cellsOf 75 = 4 := by kernel_rfl
theorem cells_ints : Try.prog.cellsOf 22 = 1 := by kernel_rfl
set_option maxRecDepth 100000 in
theorem opens_job : OpensAs enc W 75 RJob := fun fuel cs x h => by
  obtain ⟨hlen, _⟩ := field_of Try.underlying75 h
  rw [cells_job] at hlen
  match cs, hlen with
  | [c0, c1, c2, c3], _ =>
    obtain ⟨n0, y0, h0⟩ := field_at Try.underlying75 h 0 3 0 1 rfl cells_int
    obtain ⟨n1, y1, h1⟩ := field_at Try.underlying75 h 1 73 1 2 rfl cells_ref_item
    obtain ⟨n2, y2, h2⟩ := field_at Try.underlying75 h 2 22 3 1 rfl cells_ints
    obtain ⟨m0, z0, g0⟩ := field_at Try.underlying73 h1 0 3 0 1 rfl cells_int
    obtain ⟨m1, z1, g1⟩ := field_at Try.underlying73 h1 1 3 1 1 rfl cells_int
    obtain ⟨x0, e0, b0⟩ := opens_int _ _ _ h0
    obtain ⟨x1, e1, b1⟩ := opens_int _ _ _ g0
    obtain ⟨x2, e2, b2⟩ := opens_int _ _ _ g1
    obtain ⟨l, A, c, e3, r1, r2, r3⟩ := opens_ints _ _ _ h2
    injection e0 with e0
    injection e1 with e1
    injection e2 with e2
    injection e3 with e3
    subst e0 e1 e2 e3
    exact ⟨⟨x0, x1, x2, l⟩, A, c, rfl, r1, r2, r3⟩
set_option maxRecDepth 100000 in
theorem open_RdJob {base : Nat} {v : Value} {d : DataW H} {p : List MemPlace} (hd : DataW.Trod enc Try.prog W 0 (fun _ => true) true 67 v d p) (hv : Value.okWide Try.prog W .any base 67 v) :
    ∃ A xs c, v = .slice A xs.length c ∧ RdE 4 RJob W A xs ∧ xs.length ≤ c ∧ c ≤ maxLen := open_E' Try.underlying67 cells_job (by omega) opens_job hd hv
end
end Go.Proofs.Ythmjeajfchpdoaa
