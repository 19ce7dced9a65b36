/-
  One number of the costs in memory.
-/
import Derived.Test.YtleckhbmciiooaaCostP
import Derived.Test.YtleckhbmciiooaaCheckE
namespace Go.Proofs.Ytleckhbmciiooaa
open Go.RowKit Go.ChangeShapes Go.WideShapes Go.ChangeAt Go.Deep

/-- one number of the ways' costs, in memory -/
theorem cost_at {w : World} {D : Option Addr} {co : List (List Int)} (rok : RowsOk co) (hC : RdE 1 RInts w D co) {r c : Nat} (hr : r < co.length) (hc : c < co.length) :
    ∃ cb cof rb ro d', D = some ⟨cb, cof, none⟩ ∧ w.cell? ⟨cb, cof + r, none⟩ = some (.slice (some ⟨rb, ro, none⟩) co.length d') ∧ w.cell? ⟨rb, ro + c, none⟩ = some (.int .i64 (costAt co r c)) := by
  obtain ⟨cb, cof, D', row, d', rfl, zb, cD, er, _, rD, iD, ld, md⟩ := hC.ints hr
  have lrow := rok.row row (List.mem_of_getElem? er.out)
  obtain ⟨rb, ro, x, rfl, zx, cx, ex, _⟩ := rD.at (k := c) (by omega)
  refine ⟨cb, cof, rb, ro, d', rfl, by rw [cD, lrow], ?_⟩
  rw [cx]
  unfold costAt
  rw [getD_some er.out, getD_some ex.out]
theorem cost_in {w : World} {cb cof : Nat} {co : List (List Int)} (rok : RowsOk co) (hC : RdE 1 RInts w (some ⟨cb, cof, none⟩) co) {r c : Nat} (hr : r < co.length) (hc : c < co.length) :
    ∃ rb ro d', w.cell? ⟨cb, cof + r, none⟩ = some (.slice (some ⟨rb, ro, none⟩) co.length d') ∧ w.cell? ⟨rb, ro + c, none⟩ = some (.int .i64 (costAt co r c)) := by
  obtain ⟨cb', cof', rb, ro, d', h, h1, h2⟩ := cost_at rok hC hr hc
  obtain ⟨rfl, rfl⟩ : cb = cb' ∧ cof = cof' := by simpa using h
  exact ⟨rb, ro, d', h1, h2⟩
theorem ends_num {rows : List (List Int)} (ok : RowsOk rows) (a b : Nat) (ha : a < rows.length) (hb : b < rows.length) : 0 ≤ costAt rows a b ∧ costAt rows a b ≤ 2147483647 := by
  have e1 : rows[a]? = some rows[a] := List.getElem?_eq_getElem ha
  have e2 := ok.row _ (List.getElem_mem ha)
  have e3 : (rows[a])[b]? = some (rows[a])[b] := List.getElem?_eq_getElem (by omega)
  unfold costAt
  rw [getD_some e1, getD_some e3]
  exact ok.num _ (List.getElem_mem ha) _ (List.getElem_mem _)
end Go.Proofs.Ytleckhbmciiooaa
