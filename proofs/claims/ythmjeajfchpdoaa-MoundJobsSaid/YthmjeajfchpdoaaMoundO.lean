/-
  mound: the law package's to and none; how deep; what a row of calls keeps.
-/
import Derived.Test.YthmjeajfchpdoaaMoundK
import Derived.Test.YthmjeajfchpdoaaMoundJ
import Derived.Test.YthmjeajfchpdoaaMoundI
namespace Go.Proofs.Ythmjeajfchpdoaa
open Go.RowKit Go.ChangeShapes Go.WideShapes Go.ChangeAt

theorem to_any (x y : Int) (w : World) : Calls Try.prog 46 #[.agg #[.int .i64 x, .int .i64 y]] w fun e w' => e = .returned (.agg #[.int .i64 x, .int .i64 y]) ∧ Ext w w' := by
  go_enter Try.func46, Try.ntmps46
  go_wp2_with (go_quiet (fail))
  exact bodyPost_ret (v := .agg #[.int .i64 x, .int .i64 y]) (by simp [results, Try.results46, go_sem]) rfl ⟨rfl, by repeat (first | exact Ext.rf _ | apply Ext.drewN | apply Ext.alloc | (refine Ext.setNew ?_ (by simp) _))⟩
theorem none19 (w : World) : Calls Try.prog 43 #[] w fun e w' => e = .returned (.pointer none) ∧ w = w' := by
  go_enter Try.func43, Try.ntmps43
  go_wp2
  go_ret
  exact ⟨rfl, rfl⟩

/-- what a row of calls keeps -/
structure Kept (ls : Ls) (sz : Int) (n k : Nat) : Prop where
  len : ls.length = 2 * n
  ord : Ordered ls
  size : sz = (allP ls).length
  le : (allP ls).length ≤ k
theorem Kept.start (n : Nat) : Kept (List.replicate (2 * n) []) 0 n 0 := ⟨by simp, ordered_new _, by rw [all_new]; rfl, by rw [all_new]; exact Nat.le_refl _⟩
theorem Kept.more {ls : Ls} {sz : Int} {n k : Nat} (h : Kept ls sz n k) : Kept ls sz n (k + 1) := ⟨h.len, h.ord, h.size, by have := h.le; omega⟩
theorem Kept.put {ls : Ls} {sz : Int} {n k : Nat} {x : It} {ds : List Int} (h : Kept ls sz n k) (h1 : 1 ≤ n) (hz : leafP ls x.1 ds ≠ 0) :
    Kept (ls.set (placeP ls x.1 (leafP ls x.1 ds)) (x :: ls.getD (placeP ls x.1 (leafP ls x.1 ds)) [])) (sz + 1) n (k + 1) := by
  have hb := leafP_bd ls x.1 ds h.len h1
  have hp := placeP_bd ls x.1 (leaf := leafP ls x.1 ds) (by omega)
  have hl := (all_insert (ls := ls) (x := x) (i := placeP ls x.1 (leafP ls x.1 ds)) (by have := h.len; omega)).length_eq
  rw [List.length_cons] at hl
  exact ⟨by rw [List.length_set]; exact h.len, h.ord.insert h.len h1 hz, by have := h.size; rw [hl]; omega, by have := h.le; omega⟩
theorem Kept.pop {ls : Ls} {sz : Int} {n k : Nat} {p : It} {l : List It} (h : Kept ls sz n k) (h1 : 1 ≤ n) (hp : ls.getD 1 [] = p :: l) : Kept (sinkP (2 * n) (ls.set 1 l) 1) (sz - 1) n k := by
  have hl := (all_pop h.len h1 hp).length_eq
  rw [List.length_cons] at hl
  exact ⟨by rw [sinkP_length, List.length_set]; exact h.len, h.ord.pop h.len h1 hp, by have := h.size; omega, by have := h.le; omega⟩
theorem Kept.lens {ls : Ls} {sz : Int} {n k : Nat} (h : Kept ls sz n k) : ∀ l ∈ ls, l.length ≤ k := by
  intro l hl
  have h2 : l.length ≤ (allP ls).length := by
    rw [List.length_flatten]
    obtain ⟨i, hi, rfl⟩ := List.mem_iff_getElem.1 hl
    have : ∀ (ls : Ls) (i : Nat) (hi : i < ls.length), ls[i].length ≤ (ls.map List.length).sum := by
      intro ls
      induction ls with
      | nil => intro i hi; simp at hi
      | cons m ls ih =>
        intro i hi
        cases i with
        | zero => simp
        | succ i => have := ih i (by simpa using hi); simp; omega
    exact this ls i hi
  have := h.le
  omega
theorem Kept.root {ls : Ls} {sz : Int} {n k : Nat} (h : Kept ls sz n k) (h1 : 1 ≤ n) : (minP ls).2 = decide (0 < sz) := by
  unfold minP
  cases hr : ls.getD 1 [] with
  | nil =>
    have hA : allP ls = [] := by
      cases hA : allP ls with
      | nil => rfl
      | cons a r =>
        obtain ⟨p, l, hp, _⟩ := h.ord.least (q := a) (by rw [hA]; exact List.mem_cons_self)
        rw [hr] at hp
        cases hp
    have := h.size
    rw [hA] at this
    simp at this
    subst this
    rfl
  | cons p l =>
    have hl := (all_pop h.len h1 hr).length_eq
    rw [List.length_cons] at hl
    have := h.size
    have h0 : 0 < sz := by omega
    simp [h0]
/-- how deep a mound is made -/
theorem depth_cases {lv : Nat} (h1 : 1 ≤ lv) (h6 : lv ≤ 6) : ∃ n, 2 ^ lv = 2 * n ∧ 1 ≤ n ∧ n ≤ 32 := by
  have h : lv = 1 ∨ lv = 2 ∨ lv = 3 ∨ lv = 4 ∨ lv = 5 ∨ lv = 6 := by omega
  rcases h with rfl | rfl | rfl | rfl | rfl | rfl
  · exact ⟨1, rfl, by omega, by omega⟩
  · exact ⟨2, rfl, by omega, by omega⟩
  · exact ⟨4, rfl, by omega, by omega⟩
  · exact ⟨8, rfl, by omega, by omega⟩
  · exact ⟨16, rfl, by omega, by omega⟩
  · exact ⟨32, rfl, by omega, by omega⟩
end Go.Proofs.Ythmjeajfchpdoaa
