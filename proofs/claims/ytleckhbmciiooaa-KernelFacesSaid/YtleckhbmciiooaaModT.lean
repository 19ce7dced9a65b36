/-
  What a call turns, told by the element types of the blocks that it may write.
-/
import Derived.Test.YtleckhbmciiooaaGen
namespace Go.Proofs.Ytleckhbmciiooaa
open Go.RowKit Go.ChangeShapes Go.WideShapes Go.ChangeAt

def ofT (w : World) (base : Nat) (ts : List TypeId) (k : Nat) : Prop := base ≤ k ∧ ∃ cs t, w.heap[k]? = some (.cells cs t (0, 0)) ∧ t ∈ ts
/-- what was there is as it was, but for blocks from base on of these element types -/
def ModT (base : Nat) (ts : List TypeId) (w w' : World) : Prop := Mod (ofT w base ts) w w'
section
variable {base : Nat} {ts : List TypeId} {w w' w2 : World}
theorem ModT.rf (w : World) : ModT base ts w w := Mod.rf w
theorem ModT.of_ext (h : Ext w w') : ModT base ts w w' := Mod.of_ext h
theorem ModT.tr (h : ModT base ts w w') (k : ModT base ts w' w2) : ModT base ts w w2 := by
  refine Mod.tr' h k fun i hi hs => ?_
  by_cases ho : ofT w base ts i
  · exact ho
  · obtain ⟨hb, cs, t, hc, ht⟩ := hs
    exact ⟨hb, cs, t, (h.block i hi ho).symm.trans hc, ht⟩
theorem ModT.ext (h : ModT base ts w w') (k : Ext w' w2) : ModT base ts w w2 := h.tr (.of_ext k)
theorem ModT.set (w : World) {g : Nat} {t : TypeId} {cs : Array Value} (hg : Blk w g t cs) (ht : t ∈ ts) (hb : base ≤ g) (i : Nat) (u : Value) : ModT base ts w (w.setCell ⟨g, i, none⟩ u) :=
  Mod.set (p := ⟨g, i, none⟩) (Mod.rf w) (.inl ⟨hb, cs, t, hg, ht⟩) u
theorem ModT.size (h : ModT base ts w w') : w.heap.size ≤ w'.heap.size := Mod.size h
theorem ModT.more {ts' : List TypeId} {base' : Nat} (h : ModT base ts w w') (hb : base' ≤ base) (ht : ∀ t ∈ ts, t ∈ ts') : ModT base' ts' w w' :=
  Mod.mono h fun _ _ ⟨h1, cs, t, h2, h3⟩ => ⟨Nat.le_trans hb h1, cs, t, h2, ht t h3⟩
theorem Ext.modT {w0 : World} (h : Ext w0 w) (k : ModT base ts w w') (hb : w0.heap.size ≤ base) : Ext w0 w' := h.mod k fun _ hk hs => by have := hs.1; omega
theorem Blk.modT {g : Nat} {t : TypeId} {cs : Array Value} (h : Blk w g t cs) (k : ModT base ts w w') (ht : t ∉ ts) : Blk w' g t cs :=
  h.mod k fun hs => by
    obtain ⟨_, cs', t', h1, h2⟩ := hs
    rw [h] at h1
    injection h1 with h1
    injection h1 with _ h1
    subst h1
    exact ht h2
theorem RdV.modT {e : TypeId} {A : Option Addr} {vs : List Value} (h : RdV w e A vs) (k : ModT base ts w w') (ht : e ∉ ts) : RdV w' e A vs :=
  h.mod k fun b cur hb hs => by
    obtain ⟨_, cs', t', h1, h2⟩ := hs
    rw [hb] at h1
    injection h1 with h1
    injection h1 with _ h1
    subst h1
    exact ht h2
theorem OwI.modT {base' : Nat} {A : Option Addr} {c : Nat} {xs : List Int} (h : OwI w base' A c xs) (k : ModT base ts w w') (ht : 3 ∉ ts) : OwI w' base' A c xs :=
  h.keep fun g hg => by
    rcases h.cases with ⟨rfl, rfl, rfl⟩ | ⟨g', cur, rfl, hb', hh, _⟩
    · simp [bl] at hg
    · simp [bl] at hg
      subst hg
      exact k.block g' (Array.getElem?_eq_some_iff.1 hh).1 fun hs => by
        obtain ⟨_, cs', t', h1, h2⟩ := hs
        rw [hh] at h1
        injection h1 with h1
        injection h1 with _ h1
        subst h1
        exact ht h2
theorem OwV.modT {base' : Nat} {e : TypeId} {size n c : Nat} {A : Option Addr} {vs : List Value} (h : OwV w base' e size A n c vs) (k : ModT base ts w w') (ht : e ∉ ts) : OwV w' base' e size A n c vs :=
  h.keep fun g hg => by
    rcases h.cases with ⟨rfl, rfl, rfl, rfl⟩ | ⟨g', cur, rfl, hb', hh, _⟩
    · simp [bl] at hg
    · simp [bl] at hg
      subst hg
      exact k.block g' (Array.getElem?_eq_some_iff.1 hh).1 fun hs => by
        obtain ⟨_, cs', t', h1, h2⟩ := hs
        rw [hh] at h1
        injection h1 with h1
        injection h1 with _ h1
        subst h1
        exact ht h2
theorem RdI.modT {A : Option Addr} {xs : List Int} (h : RdI w A xs) (k : ModT base ts w w') (hb : ∀ b, bl A = some b → b < base) : RdI w' A xs := by
  rcases h with rfl | ⟨b, off, rfl, hlt, hc⟩
  · exact .inl rfl
  · refine .inr ⟨b, off, rfl, Nat.lt_of_lt_of_le hlt k.size, fun j x hj => ?_⟩
    have h1 := hb b rfl
    rw [← hc j x hj]
    exact World.cell?_of_block (k.block b hlt fun hs => by have := hs.1; omega)
end
end Go.Proofs.Ytleckhbmciiooaa
