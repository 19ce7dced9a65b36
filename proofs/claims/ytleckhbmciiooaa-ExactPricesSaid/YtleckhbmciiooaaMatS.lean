/-
  A square of numbers in memory that is written into: its rows are blocks of their own.
-/
import Derived.Test.YtleckhbmciiooaaArr
import Derived.Test.YtleckhbmciiooaaCostW
namespace Go.Proofs.Ytleckhbmciiooaa
open Go.RowKit Go.ChangeShapes Go.WideShapes Go.ChangeAt Go.Deep

/-- so many ints lie in block g, which may hold more -/
def RowA (w : World) (g n : Nat) (u : Nat → Int) : Prop := ∃ cur, Blk w g 3 cur ∧ ∀ k, k < n → cur[k]? = some (.int .i64 (u k))
section
variable {w w' : World} {g n : Nat} {u v : Nat → Int}
theorem RowA.cell (h : RowA w g n u) {k : Nat} (hk : k < n) : w.cell? ⟨g, k, none⟩ = some (.int .i64 (u k)) := by
  obtain ⟨cur, h1, h2⟩ := h
  rw [h1.cell]
  exact h2 k hk
theorem RowA.free (h : RowA w g n u) (k : Nat) : w.frozen? ⟨g, k, none⟩ = false := by
  obtain ⟨cur, h1, _⟩ := h
  exact h1.free k
theorem RowA.lt (h : RowA w g n u) : g < w.heap.size := by
  obtain ⟨cur, h1, _⟩ := h
  exact h1.lt
theorem RowA.ext (h : RowA w g n u) (x : Ext w w') : RowA w' g n u := by
  obtain ⟨cur, h1, h2⟩ := h
  exact ⟨cur, h1.ext x, h2⟩
theorem RowA.mod {S : Nat → Prop} (h : RowA w g n u) (m : Mod S w w') (hS : ¬ S g) : RowA w' g n u := by
  obtain ⟨cur, h1, h2⟩ := h
  exact ⟨cur, h1.mod m hS, h2⟩
theorem RowA.far (h : RowA w g n u) {a : Addr} (hp : g ≠ a.block) (x : Value) : RowA (w.setCell a x) g n u := by
  obtain ⟨cur, h1, h2⟩ := h
  exact ⟨cur, h1.far hp x, h2⟩
theorem RowA.set (h : RowA w g n u) (k : Nat) (x : Int) : RowA (w.setCell ⟨g, k, none⟩ (.int .i64 x)) g n (fun i => if i = k then x else u i) := by
  obtain ⟨cur, h1, h2⟩ := h
  refine ⟨_, h1.set k _, fun i hi => ?_⟩
  rw [Array.getElem?_setIfInBounds]
  by_cases e : k = i
  · subst e
    have := h2 k hi
    have hlt := (Array.getElem?_eq_some_iff.1 this).1
    simp [hlt]
  · have e' : ¬ i = k := fun h => e h.symm
    simp only [if_neg e, if_neg e']
    exact h2 i hi
theorem RowA.congr (h : RowA w g n u) (e : ∀ i, i < n → u i = v i) : RowA w g n v := by
  obtain ⟨cur, h1, h2⟩ := h
  exact ⟨cur, h1, fun k hk => by rw [← e k hk]; exact h2 k hk⟩
theorem RowA.rdI (h : RowA w g n u) : RdI w (some ⟨g, 0, none⟩) ((List.range n).map u) := by
  refine .inr ⟨g, 0, rfl, h.lt, fun j x hj => ?_⟩
  rw [Nat.zero_add]
  obtain ⟨hl, e⟩ := List.getElem?_eq_some_iff.1 hj
  have hjn : j < n := by simpa using hl
  rw [h.cell hjn]
  simp at e
  rw [e]
theorem RowA.of_own {base c : Nat} {xs : List Int} (h : OwI w base (some ⟨g, 0, none⟩) c xs) : RowA w g xs.length (fun k => xs.getD k 0) := by
  rcases h.cases with ⟨e, _⟩ | ⟨g', cur, e, _, hg, _, _, hs, ht⟩
  · cases e
  · obtain rfl : g = g' := by simpa using e
    refine ⟨cur, hg, fun k hk => ?_⟩
    have h1 : (cur.toList.take (xs.length * 1))[k]? = some (.int .i64 (xs.getD k 0)) := by
      rw [ht, List.getElem?_map, List.getElem?_eq_getElem hk, getD_some (List.getElem?_eq_getElem hk)]
      rfl
    rw [List.getElem?_take_of_lt (by omega)] at h1
    simpa using h1
end
/-- a square of numbers: the list of its rows in block cb, row k in block g k; all between lo and hi -/
structure MatS (w : World) (lo hi cb c n : Nat) (us : List Value) (g cp : Nat → Nat) (f : Nat → Nat → Int) : Prop where
  own : OwV w lo 22 1 (some ⟨cb, 0, none⟩) n c us
  ownlt : lo ≤ cb ∧ cb < hi
  at' : ∀ k, k < n → us[k]? = some (.slice (some ⟨g k, 0, none⟩) n (cp k)) ∧ n ≤ cp k ∧ cp k ≤ maxLen
  row : ∀ k, k < n → lo ≤ g k ∧ g k < hi ∧ RowA w (g k) n (f k)
  inj : ∀ k l, k < n → l < n → g k = g l → k = l
section
variable {w w' : World} {lo hi cb c n : Nat} {us : List Value} {g cp : Nat → Nat} {f : Nat → Nat → Int}
theorem MatS.cell (h : MatS w lo hi cb c n us g cp f) {k : Nat} (hk : k < n) : w.cell? ⟨cb, k, none⟩ = some (.slice (some ⟨g k, 0, none⟩) n (cp k)) := by
  have hl := h.own.len
  obtain ⟨b, off, v, e, _, h1, h2⟩ := h.own.read.at (j := k) (by omega)
  have e2 : cb = b ∧ 0 = off := by simpa using e
  obtain ⟨rfl, rfl⟩ := e2
  rw [Nat.zero_add] at h1
  rw [h1, ← h2.out, (h.at' k hk).1]
theorem MatS.ext (h : MatS w lo hi cb c n us g cp f) (x : Ext w w') : MatS w' lo hi cb c n us g cp f :=
  ⟨h.own.ext x, h.ownlt, h.at', fun k hk => ⟨(h.row k hk).1, (h.row k hk).2.1, (h.row k hk).2.2.ext x⟩, h.inj⟩
theorem MatS.mod {S : Nat → Prop} (h : MatS w lo hi cb c n us g cp f) (m : Mod S w w') (hS : ∀ k, lo ≤ k → k < hi → ¬ S k) : MatS w' lo hi cb c n us g cp f :=
  ⟨h.own.mod m fun b hb => by
      obtain rfl : cb = b := by simpa [bl] using hb
      exact hS cb h.ownlt.1 h.ownlt.2, h.ownlt, h.at', fun k hk => ⟨(h.row k hk).1, (h.row k hk).2.1, (h.row k hk).2.2.mod m (hS _ (h.row k hk).1 (h.row k hk).2.1)⟩, h.inj⟩
theorem MatS.congr {f' : Nat → Nat → Int} (h : MatS w lo hi cb c n us g cp f) (e : ∀ i j, i < n → j < n → f i j = f' i j) : MatS w lo hi cb c n us g cp f' :=
  ⟨h.own, h.ownlt, h.at', fun k hk => ⟨(h.row k hk).1, (h.row k hk).2.1, (h.row k hk).2.2.congr (fun i hi => e k i hk hi)⟩, h.inj⟩
theorem MatS.set (h : MatS w lo hi cb c n us g cp f) {a : Nat} (ha : a < n) (b : Nat) (x : Int) : MatS (w.setCell ⟨g a, b, none⟩ (.int .i64 x)) lo hi cb c n us g cp (fun i j => if i = a ∧ j = b then x else f i j) := by
  refine ⟨?_, h.ownlt, h.at', fun k hk => ⟨(h.row k hk).1, (h.row k hk).2.1, ?_⟩, h.inj⟩
  · obtain ⟨cur, h1, _⟩ := (h.row a ha).2.2
    have hne := h.own.ne h1 (by decide)
    exact h.own.mod (S := fun k => k = g a) ((Mod.rf (S := fun k => k = g a) w).set (p := ⟨g a, b, none⟩) (.inl rfl) _) fun q hq => hne q hq
  · by_cases e : k = a
    · subst e
      exact ((h.row k hk).2.2.set b x).congr fun i _ => by
        by_cases e2 : i = b
        · rw [if_pos e2, if_pos ⟨rfl, e2⟩]
        · rw [if_neg e2, if_neg (fun h => e2 h.2)]
    · exact ((h.row k hk).2.2.far (fun e2 => e (h.inj k a hk ha e2)) _).congr fun i _ => by rw [if_neg (fun h => e h.1)]
def rowsF (n : Nat) (f : Nat → Nat → Int) : List (List Int) := (List.range n).map fun k => (List.range n).map (f k)
theorem rowsF_len (n : Nat) (f : Nat → Nat → Int) : (rowsF n f).length = n := by simp [rowsF]
theorem rowsF_at {k : Nat} (hk : k < n) : (rowsF n f)[k]? = some ((List.range n).map (f k)) := by
  rw [rowsF, List.getElem?_map, List.getElem?_range hk]
  rfl
theorem rowsF_cost {a b : Nat} (ha : a < n) (hb : b < n) : costAt (rowsF n f) a b = f a b := by
  unfold costAt
  have e : ((List.range n).map (f a))[b]? = some (f a b) := by rw [List.getElem?_map, List.getElem?_range hb]; rfl
  rw [getD_some (rowsF_at ha), getD_some e]
theorem MatS.rd (h : MatS w lo hi cb c n us g cp f) (hb : ∀ i j, i < n → j < n → -9223372036854775808 ≤ f i j ∧ f i j ≤ 9223372036854775807) : RdE 1 RInts w (some ⟨cb, 0, none⟩) (rowsF n f) := by
  by_cases h0 : n = 0
  · subst h0
    exact .inl rfl
  have z := (h.own.lt cb rfl).2
  refine .inr ⟨cb, 0, rfl, z, fun k r hr => ?_⟩
  have hk : k < n := by
    have := (List.getElem?_eq_some_iff.1 hr).1
    rwa [rowsF_len] at this
  rw [rowsF_at hk] at hr
  obtain rfl := Option.some.inj hr
  obtain ⟨a1, a2, a3⟩ := h.at' k hk
  refine ⟨[.slice (some ⟨g k, 0, none⟩) n (cp k)], ⟨some ⟨g k, 0, none⟩, cp k, by simp, (h.row k hk).2.2.rdI, fun x hx => ?_, by simpa using a2, a3⟩, rfl, fun j v hj => ?_⟩
  · obtain ⟨j, hj, rfl⟩ := List.mem_map.1 hx
    exact hb k j hk (List.mem_range.1 hj)
  · cases j with
    | zero =>
      simp at hj
      subst hj
      rw [Nat.mul_one, Nat.zero_add, Nat.add_zero]
      exact h.cell hk
    | succ j => simp at hj
end
/-- a copied square -/
theorem MatS.of {w : World} {base c n : Nat} {C : Option Addr} {us : List Value} {rows : List (List Int)} (hl : rows.length = n) (hr : ∀ r ∈ rows, r.length = n) (n1 : 1 ≤ n) (hC : OwV w base 22 1 C n c us) (hR : RowsO w base us rows) (hD : RowsD us) :
    ∃ cb g cp, C = some ⟨cb, 0, none⟩ ∧ MatS w base w.heap.size cb c n us g cp (costAt rows) ∧ rows = rowsF n (costAt rows) := by
  have ex : ∀ k, ∃ (p : Nat × Nat), k < n → us[k]? = some (.slice (some ⟨p.1, 0, none⟩) n p.2) ∧ n ≤ p.2 ∧ p.2 ≤ maxLen ∧ base ≤ p.1 ∧ p.1 < w.heap.size ∧ RowA w p.1 n (costAt rows k) := fun k => by
    by_cases hk : k < n
    · obtain ⟨r, e1⟩ : ∃ r, rows[k]? = some r := ⟨rows[k]'(by omega), List.getElem?_eq_getElem _⟩
      obtain ⟨A, c', h1, h2⟩ := hR.2 k _ e1
      have lr := hr _ (List.mem_of_getElem? e1)
      have e3 : (fun j => r.getD j 0) = costAt rows k := by
        funext j
        unfold costAt
        rw [getD_some e1]
      rcases h2.cases with ⟨_, _, h⟩ | ⟨gk, cur, rfl, h3, h4, h5, h6, _⟩
      · exfalso
        subst h
        simp at lr
        omega
      · refine ⟨(gk, c'), fun _ => ⟨by rw [h1, lr], by omega, h6, h3, (Array.getElem?_eq_some_iff.1 h4).1, ?_⟩⟩
        have := RowA.of_own h2
        rw [lr, e3] at this
        exact this
    · exact ⟨(0, 0), fun h => absurd h hk⟩
  have hp : ∃ p : Nat → Nat × Nat, ∀ k, k < n → us[k]? = some (.slice (some ⟨(p k).1, 0, none⟩) n (p k).2) ∧ n ≤ (p k).2 ∧ (p k).2 ≤ maxLen ∧ base ≤ (p k).1 ∧ (p k).1 < w.heap.size ∧ RowA w (p k).1 n (costAt rows k) :=
    ⟨fun k => Classical.choose (ex k), fun k hk => Classical.choose_spec (ex k) hk⟩
  obtain ⟨p, hp⟩ := hp
  rcases hC.cases with ⟨_, _, h, _⟩ | ⟨cb, cur, rfl, h1, h2, _⟩
  · omega
  · refine ⟨cb, fun k => (p k).1, fun k => (p k).2, rfl, ⟨hC, ⟨h1, (Array.getElem?_eq_some_iff.1 h2).1⟩, fun k hk => ⟨(hp k hk).1, (hp k hk).2.1, (hp k hk).2.2.1⟩, fun k hk => ⟨(hp k hk).2.2.2.1, (hp k hk).2.2.2.2.1, (hp k hk).2.2.2.2.2⟩, fun k l hk hl e => ?_⟩, ?_⟩
    · have hne : ∀ a b, a < n → b < n → a < b → (p a).1 ≠ (p b).1 := fun a b ha hb hab e => hD a b _ _ hab (hp a ha).1 (hp b hb).1 (p a).1 rfl (by rw [e]; rfl)
      rcases Nat.lt_trichotomy k l with h | h | h
      · exact absurd e (hne k l hk hl h)
      · exact h
      · exact absurd e.symm (hne l k hl hk h)
    · refine List.ext_getElem (by rw [rowsF_len, hl]) fun i h1 h2 => ?_
      have hi : i < n := by omega
      have e1 := rowsF_at (f := costAt rows) hi
      rw [List.getElem?_eq_getElem h2] at e1
      rw [Option.some.inj e1]
      have lr := hr _ (List.getElem_mem h1)
      refine List.ext_getElem (by simp [lr]) fun j h3 h4 => ?_
      simp only [List.getElem_map, List.getElem_range]
      unfold costAt
      rw [getD_some (List.getElem?_eq_getElem h1), getD_some (List.getElem?_eq_getElem h3)]
end Go.Proofs.Ytleckhbmciiooaa
