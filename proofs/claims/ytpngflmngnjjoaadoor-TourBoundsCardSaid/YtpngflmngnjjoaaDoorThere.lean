/-
  What a law that writes into its copy needs: the copy's parts, so many ints somewhere, a copy beside writes.
-/
import Derived.Test.YtpngflmngnjjoaaDoorInstLaw
namespace Go.Proofs.YtpngflmngnjjoaaDoor
open Go.RowKit Go.ChangeShapes Go.WideShapes Go.ChangeAt Go.Deep

theorem InstO.parts {w : World} {base : Nat} {vs : List Value} {i : InstP} (h : InstO w base vs i) : ∃ A3 c3 A4 c4 A5 c5, vs = [.int .i64 i.kind, .int .i64 i.n, .int .i64 i.cap, .slice A3 i.weight.length c3, .slice A4 i.value.length c4, .slice A5 i.cost.length c5] ∧ OwI w base A3 c3 i.weight ∧ OwI w base A4 c4 i.value := by
  obtain ⟨A, a, B, b, C, c, us, rfl, h1, h2, _⟩ := h
  exact ⟨_, _, _, _, _, _, rfl, h1, h2⟩
theorem copy_copy (i : InstP) : copyP (copyP i) = copyP i := by
  have h1 : ∀ l : List Int, (l.take 70).take 70 = l.take 70 := fun l => List.take_of_length_le (List.length_take_le _ _)
  simp only [copyP, wantC, InstP.mk.injEq, true_and, h1]
  have e : ((i.cost.take (min i.cost.length 30)).map cutRow).length ≤ 30 := by simp; omega
  rw [Nat.min_eq_left e, List.take_of_length_le (Nat.le_refl _), List.map_map]
  refine List.map_congr_left fun r _ => ?_
  exact h1 r
/-- so many ints lie there, whatever they are -/
def There (w : World) (A : Option Addr) (n : Nat) : Prop := ∃ g cur, A = some ⟨g, 0, none⟩ ∧ w.heap[g]? = some (.cells cur 3 (0, 0)) ∧ n ≤ cur.size
theorem OwI.there {w : World} {base : Nat} {A : Option Addr} {c : Nat} {xs : List Int} (h : OwI w base A c xs) (h0 : 0 < xs.length) : There w A xs.length := by
  rcases h.cases with ⟨rfl, rfl, rfl⟩ | ⟨g, cur, rfl, _, hg, hn, _, hs, _⟩
  · simp at h0
  · exact ⟨g, cur, rfl, hg, by omega⟩
theorem There.ext {w w' : World} {A : Option Addr} {n : Nat} (h : There w A n) (x : Ext w w') : There w' A n := by
  obtain ⟨g, cur, rfl, hg, hn⟩ := h
  exact ⟨g, cur, rfl, (x.block g (Array.getElem?_eq_some_iff.1 hg).1).trans hg, hn⟩
theorem There.set {w : World} {A : Option Addr} {n : Nat} (h : There w A n) (k i : Nat) (u : Value) : There (w.setCell ⟨k, i, none⟩ u) A n := by
  obtain ⟨g, cur, rfl, hg, hn⟩ := h
  by_cases hp : k = g
  · subst hp
    exact ⟨_, cur.setIfInBounds i u, rfl, by simp [World.setCell, Array.getElem?_modify, hg], by simpa using hn⟩
  · exact ⟨g, cur, rfl, (Below.heap_setCell w ⟨k, i, none⟩ u g (fun h => hp h.symm)).trans hg, hn⟩
theorem There.at {w : World} {A : Option Addr} {n k : Nat} (h : There w A n) (hk : k < n) : ∃ g v, A = some ⟨g, 0, none⟩ ∧ w.cell? ⟨g, k, none⟩ = some v ∧ w.frozen? ⟨g, k, none⟩ = false := by
  obtain ⟨g, cur, rfl, hg, hn⟩ := h
  exact ⟨g, cur[k], rfl, by rw [cell_of_row w g _ cur _ (0, 0) hg]; exact Array.getElem?_eq_getElem (by omega), by simp [World.frozen?, hg]⟩
theorem RowsO.mod {S : Nat → Prop} {w w' : World} {base : Nat} {us : List Value} {rows : List (List Int)} (h : RowsO w base us rows) (m : Mod S w w') (hS : ∀ k, base ≤ k → ¬ S k) : RowsO w' base us rows :=
  ⟨h.1, fun i r hr => by obtain ⟨A, c, h1, h3⟩ := h.2 i r hr; exact ⟨A, c, h1, h3.mod m fun g hg => hS g (h3.lt g hg).1⟩⟩
theorem InstO.mod {S : Nat → Prop} {w w' : World} {base : Nat} {vs : List Value} {i : InstP} (h : InstO w base vs i) (m : Mod S w w') (hS : ∀ k, base ≤ k → ¬ S k) : InstO w' base vs i := by
  obtain ⟨A, a, B, b, C, c, us, rfl, g1, g2, g3, g4⟩ := h
  exact ⟨A, a, B, b, C, c, us, rfl, g1.mod m fun g hg => hS g (g1.lt g hg).1, g2.mod m fun g hg => hS g (g2.lt g hg).1, g3.mod m fun g hg => hS g (g3.lt g hg).1, g4.mod m hS⟩
end Go.Proofs.YtpngflmngnjjoaaDoor
