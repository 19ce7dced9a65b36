/-
  An assignment, plainly: a square in form; which columns a beginning leaves.
-/
import Derived.Test.YtleckhbmciiooaaInstLaw
import Derived.Test.YtleckhbmciiooaaSetList
namespace Go.Proofs.Ytleckhbmciiooaa

/-- a problem over a square, in form -/
structure SquareOk (i : InstP) : Prop where
  n1 : 1 ≤ i.n
  n2 : i.n ≤ 24
  len : (i.cost.length : Int) = i.n
  row : ∀ r ∈ i.cost, (r.length : Int) = i.n
  num : ∀ r ∈ i.cost, ∀ x ∈ r, 0 ≤ x ∧ x ≤ 2147483647
  w : i.weight = []
  v : i.value = []
theorem numP_none {n : Int} (h : numP n = 0) : 0 ≤ n ∧ n ≤ 2147483647 := by
  unfold numP at h
  split at h
  · cases h
  · split at h
    · cases h
    · omega
theorem rowE_zero : ∀ {l : List Int} {k : Int} {r c : Nat}, rowE k r c l = 0 → ∀ x ∈ l, 0 ≤ x ∧ x ≤ 2147483647
  | [], _, _, _, _, x, hx => by cases hx
  | n :: l, k, r, c, h, x, hx => by
    unfold rowE at h
    split at h
    · rename_i hn
      split at h
      · cases h
      · rcases List.mem_cons.1 hx with rfl | hx
        · exact numP_none hn
        · exact rowE_zero h x hx
    · rename_i hn
      exact absurd h hn
theorem rowsE_zero : ∀ {l : List (List Int)} {k : Int} {r : Nat}, rowsE k r l = 0 → ∀ q ∈ l, ∀ x ∈ q, 0 ≤ x ∧ x ≤ 2147483647
  | [], _, _, _, q, hq => by cases hq
  | row :: l, k, r, h, q, hq => by
    unfold rowsE at h
    split at h
    · rename_i hr
      rcases List.mem_cons.1 hq with rfl | hq
      · exact rowE_zero hr
      · exact rowsE_zero h q hq
    · rename_i hr
      exact absurd h hr
theorem square_ok {i : InstP} (h : checkP i = 0) (hk : i.kind ≠ 1) : SquareOk i := by
  unfold checkP at h
  by_cases hs : sizeP i.kind i.n = 0
  · rw [if_pos hs] at h
    by_cases hsh : shapeP i = true
    · rw [if_pos hsh, if_neg hk] at h
      unfold shapeP at hsh
      rw [if_neg hk] at hsh
      simp only [Bool.and_eq_true, beq_iff_eq, decide_eq_true_eq, Bool.not_eq_true', List.any_eq_false, bne_iff_ne, ne_eq, Decidable.not_not] at hsh
      obtain ⟨⟨⟨h1, h2⟩, h3⟩, h4⟩ := hsh
      unfold sizeP at hs
      rw [if_neg hk] at hs
      have hn : 1 ≤ i.n ∧ i.n ≤ 24 := by
        split at hs
        · split at hs
          · cases hs
          · split at hs
            · cases hs
            · omega
        · split at hs
          · split at hs
            · cases hs
            · split at hs
              · cases hs
              · omega
          · cases hs
      exact ⟨hn.1, hn.2, h1, h4, rowsE_zero h, List.eq_nil_of_length_eq_zero (by omega), List.eq_nil_of_length_eq_zero (by omega)⟩
    · rw [if_neg hsh] at h
      cases h
  · rw [if_neg hs] at h
    exact absurd h hs
/-- which columns are left; none: no beginning -/
def freeM (m : Nat) : List Int → Option Nat
  | [] => some m
  | c :: p => if 0 ≤ c ∧ c < 64 ∧ m.testBit c.toNat = true then freeM (clrM m c.toNat) p else none
def freeP (n : Nat) (p : List Int) : Option Nat := if n < p.length then none else freeM (2 ^ n - 1) p
theorem clrM_lt (m i : Nat) : clrM m i < 18446744073709551616 := andNotN_lt _ _
/-- a set of numbers below n -/
def SubN (n m : Nat) : Prop := m < 18446744073709551616 ∧ ∀ x ∈ memsM m, x < n
theorem subN_full {n : Nat} (h : n ≤ 24) : SubN n (2 ^ n - 1) := by
  refine ⟨?_, fun x hx => ?_⟩
  · have : 2 ^ n ≤ 2 ^ 24 := Nat.pow_le_pow_right (by omega) h
    omega
  · rw [memsM_full (by omega)] at hx
    exact List.mem_range.1 hx
theorem SubN.clr {n m : Nat} (h : SubN n m) (i : Nat) : SubN n (clrM m i) := by
  refine ⟨clrM_lt _ _, fun x hx => h.2 x ?_⟩
  rw [memsM_clr h.1] at hx
  exact (List.mem_filter.1 hx).1
theorem freeM_sub {n : Nat} : ∀ {p : List Int} {m q : Nat}, SubN n m → freeM m p = some q → SubN n q
  | [], m, q, h, e => by
    simp only [freeM, Option.some.injEq] at e
    subst e
    exact h
  | c :: p, m, q, h, e => by
    unfold freeM at e
    split at e
    · exact freeM_sub (h.clr _) e
    · cases e
theorem rows_ok {i : InstP} (h : SquareOk i) : RowsOk i.cost := by
  have h1 := h.n1
  have h2 := h.n2
  have h3 := h.len
  refine ⟨by omega, by omega, fun r hr => ?_, h.num⟩
  have := h.row r hr
  omega
end Go.Proofs.Ytleckhbmciiooaa
