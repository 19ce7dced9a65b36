/-
  Arguments opened: slices of whatever elements, each of so many cells, that read as a word says.
-/
import Derived.Test.YtleckhbmciiooaaOwn
namespace Go.Proofs.Ytleckhbmciiooaa
open Go.RowKit Go.ChangeShapes Go.WideShapes Go.ChangeAt Go.Deep

/-- the slice with head A: each element lies in so many cells, which read as R says -/
def RdE {α : Type} (size : Nat) (R : World → List Value → α → Prop) (w : World) (A : Option Addr) (xs : List α) : Prop :=
  xs = [] ∨ ∃ b off, A = some ⟨b, off, none⟩ ∧ b < w.heap.size ∧ ∀ i x, xs[i]? = some x → ∃ cs : List Value, R w cs x ∧ cs.length = size ∧ ∀ j v, cs[j]? = some v → w.cell? ⟨b, off + i * size + j, none⟩ = some v
section
variable {α : Type} {size : Nat} {R : World → List Value → α → Prop} {w w' : World} {A : Option Addr} {xs : List α}
theorem RdE.ext (h : RdE size R w A xs) (hb : Ext w w') (hR : ∀ cs x, R w cs x → R w' cs x) : RdE size R w' A xs := by
  rcases h with rfl | ⟨b, off, rfl, hlt, hc⟩
  · exact .inl rfl
  · refine .inr ⟨b, off, rfl, Nat.lt_of_lt_of_le hlt hb.size, fun i x hi => ?_⟩
    obtain ⟨cs, h1, h2, h3⟩ := hc i x hi
    exact ⟨cs, hR _ _ h1, h2, fun j v hj => by rw [hb.cell hlt]; exact h3 j v hj⟩
theorem RdE.at (h : RdE size R w A xs) {i : Nat} (hi : i < xs.length) : ∃ b off cs x, A = some ⟨b, off, none⟩ ∧ b < w.heap.size ∧ R w cs x ∧ cs.length = size ∧ (∀ j v, cs[j]? = some v → w.cell? ⟨b, off + i * size + j, none⟩ = some v) ∧ Hid (xs[i]? = some x) := by
  rcases h with rfl | ⟨b, off, rfl, hlt, hc⟩
  · simp at hi
  · obtain ⟨cs, h1, h2, h3⟩ := hc i xs[i] (List.getElem?_eq_getElem hi)
    exact ⟨b, off, cs, xs[i], rfl, hlt, h1, h2, h3, List.getElem?_eq_getElem hi⟩
end

section
variable {H : Type} {enc : TypeId × Value → H} {W : World}
/-- what the cells of a value say, for the opener of its slices -/
def OpensAs {α : Type} (enc : TypeId × Value → H) (W : World) (e : TypeId) (R : World → List Value → α → Prop) : Prop :=
  ∀ (fuel : Nat) (cs : List Value) (x : DataW H × List MemPlace), DataW.trod enc Try.prog W 0 (fun _ => true) true fuel e cs = some x → ∃ a : α, R W cs a
theorem choose_R {α : Type} {n : Nat} {P : Nat → α → Prop} (h : ∀ i, i < n → ∃ a, P i a) : ∃ xs : List α, xs.length = n ∧ ∀ i x, xs[i]? = some x → P i x := by
  induction n with
  | zero => exact ⟨[], rfl, fun i x hx => by simp at hx⟩
  | succ n ih =>
    obtain ⟨xs, h1, h2⟩ := ih fun i hi => h i (by omega)
    obtain ⟨a, ha⟩ := h n (by omega)
    refine ⟨xs ++ [a], by simp [h1], fun i x hx => ?_⟩
    by_cases hi : i < xs.length
    · rw [List.getElem?_append_left hi] at hx
      exact h2 i x hx
    · rw [List.getElem?_append_right (by omega)] at hx
      obtain ⟨h0, hx⟩ := List.getElem?_eq_some_iff.1 hx
      have : i = n := by simp at h0; omega
      subst this
      simp at hx
      subst hx
      exact ha
theorem open_E {α : Type} {t e : TypeId} {size : Nat} {R : World → List Value → α → Prop} (ht : Try.prog.underlying t = some (.slice e)) (hsz : Try.prog.cellsOf e = size) (h0 : 0 < size) (hR : OpensAs enc W e R)
    {fuel : Nat} {cs : List Value} {x : DataW H × List MemPlace} (h : DataW.trod enc Try.prog W 0 (fun _ => true) true fuel t cs = some x) :
    ∃ (A : Option Addr) (xs : List α) (c : Nat), cs = [.slice A xs.length c] ∧ RdE size R W A xs ∧ xs.length ≤ c ∧ c ≤ maxLen := by
  rcases open_slice ht h with ⟨rfl, _⟩ | ⟨a, len, cap, m, n, D, Pl, rfl, _, hl, hm, hmm, _, hi⟩
  · exact ⟨none, [], 0, rfl, .inl rfl, Nat.le_refl 0, zero_le_maxLen⟩
  · simp only [if_true] at hmm
    subst hmm
    have each : ∀ i, i < len → ∃ y : α, ∃ cs' : List Value, R W cs' y ∧ cs'.length = size ∧ ∀ j v, cs'[j]? = some v → W.cell? (a.add (i * size + j)) = some v := by
      intro i hil
      obtain ⟨cs', hc, ht'⟩ := hi i (by omega)
      obtain ⟨y, hy⟩ := hR _ _ _ ht'
      obtain ⟨_, hcl, hat⟩ := World.cells?_some hc
      refine ⟨y, cs', hy, by rw [hcl, hsz], fun j v hj => ?_⟩
      have hjl : j < Try.prog.cellsOf e := by rw [← hcl]; exact (List.getElem?_eq_some_iff.1 hj).1
      have := hat j hjl
      rw [hj, hsz, Go.Deep.add_add] at this
      exact this
    obtain ⟨xs, hx1, hx2⟩ := choose_R each
    subst hx1
    refine ⟨some a, xs, _, rfl, ?_, hl, hm⟩
    by_cases hx0 : xs = []
    · exact .inl hx0
    · obtain ⟨y0, hy0⟩ : ∃ y, xs[0]? = some y := by
        cases xs with
        | nil => exact absurd rfl hx0
        | cons y ys => exact ⟨y, rfl⟩
      obtain ⟨cs0, _, hl0, hc0⟩ := hx2 0 y0 hy0
      have hv : cs0[0]? = some (cs0[0]'(by omega)) := List.getElem?_eq_getElem (by omega)
      have hcell := hc0 0 _ hv
      obtain ⟨b, off, spot⟩ := a
      have hspot : spot = none := by simpa [Addr.add] using World.cell?_spot hcell
      subst hspot
      refine .inr ⟨b, off, rfl, by simpa [Addr.add] using World.block_lt_of_cell? W _ hcell, fun i y hy => ?_⟩
      obtain ⟨cs', h1, h2, h3⟩ := hx2 i y hy
      exact ⟨cs', h1, h2, fun j v hj => by rw [Nat.add_assoc, ← add_plain]; exact h3 j v hj⟩
set_option maxRecDepth 100000 in
theorem open_E' {α : Type} {t e : TypeId} {size base : Nat} {R : World → List Value → α → Prop} (ht : Try.prog.underlying t = some (.slice e)) (hsz : Try.prog.cellsOf e = size) (h0 : 0 < size) (hR : OpensAs enc W e R)
    {v : Value} {d : DataW H} {p : List MemPlace} (hd : DataW.Trod enc Try.prog W 0 (fun _ => true) true t v d p) (hv : Value.okWide Try.prog W .any base t v) :
    ∃ (A : Option Addr) (xs : List α) (c : Nat), v = .slice A xs.length c ∧ RdE size R W A xs ∧ xs.length ≤ c ∧ c ≤ maxLen := by
  obtain ⟨a0, len, cap, rfl⟩ := okWide_slice ht hv
  obtain ⟨fuel, hf⟩ := hd
  obtain ⟨A, xs, c, hcs, h1, h2, h3⟩ := open_E ht hsz h0 hR hf
  simp [Value.cells] at hcs
  obtain ⟨rfl, rfl, rfl⟩ := hcs
  exact ⟨_, xs, _, rfl, h1, h2, h3⟩

/-- an int -/
def RInt (_ : World) (cs : List Value) (x : Int) : Prop := cs = [.int .i64 x] ∧ -9223372036854775808 ≤ x ∧ x ≤ 9223372036854775807
theorem opens_int : OpensAs enc W 3 RInt := fun fuel cs x h => by
  obtain ⟨n, rfl, _, hw⟩ := DataW.trod_int Try.underlying3 h
  exact ⟨n, rfl, int_bd hw⟩
/-- a slice of ints -/
def RInts (w : World) (cs : List Value) (l : List Int) : Prop := ∃ A c, cs = [.slice A l.length c] ∧ RdI w A l ∧ Ints l ∧ l.length ≤ c ∧ c ≤ maxLen
theorem RInts.ext {w w' : World} {cs : List Value} {l : List Int} (h : RInts w cs l) (hb : Ext w w') : RInts w' cs l := by
  obtain ⟨A, c, h1, h2, h3⟩ := h
  exact ⟨A, c, h1, h2.ext hb, h3⟩
theorem opens_ints : OpensAs enc W 22 RInts := fun fuel cs x h => by
  obtain ⟨A, xs, c, rfl, h1, h2, h3⟩ := open_E Try.underlying22 cells_int (by omega) opens_int h
  refine ⟨xs, A, c, rfl, ?_, ?_, h2, h3⟩
  · rcases h1 with rfl | ⟨b, off, rfl, hb, hc⟩
    · exact .inl rfl
    · refine .inr ⟨b, off, rfl, hb, fun j x hj => ?_⟩
      obtain ⟨cs, ⟨rfl, _⟩, _, hcell⟩ := hc j x hj
      have := hcell 0 _ rfl
      simpa using this
  · intro x hx
    rcases h1 with rfl | ⟨b, off, rfl, hb, hc⟩
    · cases hx
    · obtain ⟨i, hi, rfl⟩ := List.mem_iff_getElem.1 hx
      obtain ⟨cs, ⟨_, hbd⟩, _⟩ := hc i xs[i] (List.getElem?_eq_getElem hi)
      exact hbd
/-- a field of a struct, by itself -/
theorem field_of {t : TypeId} {fs : Array Field} {fuel : Nat} {cs : List Value} {x : DataW H × List MemPlace} (ht : Try.prog.underlying t = some (.struct fs)) (h : DataW.trod enc Try.prog W 0 (fun _ => true) true fuel t cs = some x) :
    cs.length = Try.prog.cellsOf t ∧ ∀ (i : Nat) (f : Field), fs[i]? = some f → ∃ n y, DataW.trod enc Try.prog W 0 (fun _ => true) true n f.type ((cs.drop f.offset).take (Try.prog.cellsOf f.type)) = some y := by
  obtain ⟨xs, n, _, _, hlen, hl, hf⟩ := DataW.trod_struct ht h
  refine ⟨hlen, fun i f hi => ?_⟩
  have hlt : i < xs.length := by rw [hl]; exact (Array.getElem?_eq_some_iff.1 hi).1
  exact ⟨n, xs[i], by rw [hf i f hi]; exact List.getElem?_eq_getElem hlt⟩
theorem field_at {t : TypeId} {fs : Array Field} {fuel : Nat} {cs : List Value} {x : DataW H × List MemPlace} (ht : Try.prog.underlying t = some (.struct fs)) (h : DataW.trod enc Try.prog W 0 (fun _ => true) true fuel t cs = some x)
    (i : Nat) (ft : TypeId) (o s : Nat) (hf : (fs[i]?).map (fun f => (f.type, f.offset)) = some (ft, o)) (hs : Try.prog.cellsOf ft = s) : ∃ n y, DataW.trod enc Try.prog W 0 (fun _ => true) true n ft ((cs.drop o).take s) = some y := by
  obtain ⟨f, hf1, hf2⟩ := Option.map_eq_some_iff.1 hf
  simp only [Prod.mk.injEq] at hf2
  obtain ⟨rfl, rfl⟩ := hf2
  subst hs
  exact (field_of ht h).2 i f hf1
end
end Go.Proofs.Ytleckhbmciiooaa
