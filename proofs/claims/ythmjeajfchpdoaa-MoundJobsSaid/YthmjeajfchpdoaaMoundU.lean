/-
  mound: below which block the lists lie.
-/
import Derived.Test.YthmjeajfchpdoaaMoundE
namespace Go.Proofs.Ythmjeajfchpdoaa
open Go.RowKit Go.ChangeShapes Go.WideShapes Go.ChangeAt

/-- every list of the mound g that holds something lies in a block below top -/
def Und (w : World) (g top : Nat) : Prop := ∀ hh n c, w.cell? ⟨g, 0, none⟩ = some (.slice (some ⟨hh, 0, none⟩) n c) → ∀ cs, Blk w hh 82 cs → ∀ (i b off m d : Nat), cs[i]? = some (.slice (some ⟨b, off, none⟩) m d) → m ≠ 0 → b < top

theorem Und.of {w : World} {base g : Nat} {ls : Ls} {sz : Int} (H : MoundRep w base g ls sz) : Und w g w.heap.size := by
  obtain ⟨h, hb, _, _, hH⟩ := H
  intro hh n c hc cs hcs i b off m d hi hm
  have c0 := hb.cell 0
  rw [hc] at c0
  simp at c0
  obtain ⟨rfl, _, _⟩ := c0
  obtain ⟨cs', hb', hs, hcc⟩ := hH
  obtain rfl := Blk.same hcs hb'
  have hlt : i < ls.length := by have := (Array.getElem?_eq_some_iff.1 hi).1; omega
  obtain ⟨A, c', h1, h2, h3⟩ := hcc i _ (List.getElem?_eq_getElem hlt)
  rw [hi] at h1
  simp at h1
  obtain ⟨rfl, h4, rfl⟩ := h1
  refine h2.lt ?_ b rfl
  intro h5
  have := flat_len ls[i]
  rw [h5] at this
  simp at this
  omega

theorem Und.ext {w w' : World} {base g top : Nat} {ls : Ls} {sz : Int} (U : Und w g top) (H : MoundRep w base g ls sz) (hx : Ext w w') : Und w' g top := by
  obtain ⟨h, hb, _, _, hH⟩ := H
  intro hh n c hc cs hcs i b off m d hi hm
  have c0 := (hb.ext hx).cell 0
  rw [hc] at c0
  simp at c0
  obtain ⟨rfl, rfl, rfl⟩ := c0
  obtain ⟨cs', hb', _, _⟩ := hH
  obtain rfl := Blk.same hcs (hb'.ext hx)
  exact U hh _ _ (by rw [hb.cell]; rfl) _ hb' i b off m d hi hm

theorem Und.swap {w : World} {g hh top n i k : Nat} {v : Value} {cs : Array Value} {VA VB : Value} (U : Und w g top) (hb : Blk w g 101 #[.slice (some ⟨hh, 0, none⟩) n n, v]) (hcs : Blk w hh 82 cs) (hA : cs[i]? = some VA) (hB : cs[k]? = some VB) :
    Und ((w.setCell ⟨hh, i, none⟩ VB).setCell ⟨hh, k, none⟩ VA) g top := by
  have hne : g ≠ hh := Blk.ne hb hcs (by decide)
  intro h' n' c' hc cs' hcs' j b off m d hj hm
  have c0 := ((hb.far (p := ⟨hh, i, none⟩) hne VB).far (p := ⟨hh, k, none⟩) hne VA).cell 0
  rw [hc] at c0
  simp at c0
  obtain ⟨rfl, rfl, rfl⟩ := c0
  obtain rfl := Blk.same hcs' ((hcs.set i VB).set k VA)
  have hu := U h' _ _ (by rw [hb.cell]; rfl) _ hcs
  rw [Array.getElem?_setIfInBounds, Array.getElem?_setIfInBounds] at hj
  split at hj
  · split at hj
    · injection hj with hj
      subst hj
      exact hu i b off m d hA hm
    · cases hj
  · split at hj
    · split at hj
      · injection hj with hj
        subst hj
        exact hu k b off m d hB hm
      · cases hj
    · exact hu j b off m d hj hm

theorem MoundRep.aside {w : World} {base g top z : Nat} {ls : Ls} {sz : Int} {zs : Array Value} (H : MoundRep w base g ls sz) (U : Und w g top) (hz : top ≤ z) (hb0 : Blk w z 61 zs) (i : Nat) (u : Value) : MoundRep (w.setCell ⟨z, i, none⟩ u) base g ls sz := by
  obtain ⟨h, hb, hbg, hbh, hH⟩ := H
  obtain ⟨cs, hc, hs, hcc⟩ := hH
  have h1 : g ≠ z := Blk.ne hb hb0 (by decide)
  have h2 : h ≠ z := Blk.ne hc hb0 (by decide)
  have hu := U h _ _ (by rw [hb.cell]; rfl) _ hc
  refine ⟨h, hb.far h1 u, hbg, hbh, cs, hc.far h2 u, hs, fun j l hl => ?_⟩
  obtain ⟨A, c, k1, k2, k3⟩ := hcc j l hl
  refine ⟨A, c, k1, ?_, k3⟩
  cases l with
  | nil => exact .inl rfl
  | cons p l =>
    refine k2.keep fun b hb1 => ?_
    rcases k2.form (by simp [flat_cons]) with ⟨b', off, rfl, _, _⟩
    simp [bl] at hb1
    subst hb1
    have := hu j b' off _ c k1 (by simp)
    exact Below.heap_setCell w ⟨z, i, none⟩ u b' (by show b' ≠ z; omega)
end Go.Proofs.Ythmjeajfchpdoaa
