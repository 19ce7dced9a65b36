/-
  Costs of orders, plainly: what an assignment costs; no order costs less than offsets tell.
-/
import Derived.Test.YtleckhbmciiooaaPlainK
namespace Go.Proofs.Ytleckhbmciiooaa

def intsN (l : List Nat) : List Int := l.map fun n : Nat => (n : Int)
theorem intsN_len (l : List Nat) : (intsN l).length = l.length := by simp [intsN]
/-- what a beginning costs -/
def costF : List (List Int) → List Int → Int
  | row :: rows, c :: p => row.getD c.toNat 0 + costF rows p
  | _, _ => 0
/-- each row at its column costs no less than its least one and the column's -/
theorem costF_ge {F : Nat → Int} : ∀ {rows : List (List Int)} {off : List Int} {q : List Nat}, rows.length = q.length → off.length = q.length → (∀ (k c : Nat) (x : List Int) (o : Int), rows[k]? = some x → off[k]? = some o → q[k]? = some c → o + F c ≤ x.getD c 0) → sumL off + sumL (q.map F) ≤ costF rows (intsN q)
  | [], off, q, h1, h2, _ => by
    have : q = [] := List.eq_nil_of_length_eq_zero (by simpa using h1.symm)
    subst this
    have : off = [] := List.eq_nil_of_length_eq_zero (by simpa using h2)
    subst this
    simp [sumL, costF, intsN]
  | r :: rows, [], q, h1, h2, _ => by
    exfalso
    simp at h1 h2
    omega
  | r :: rows, o :: off, [], h1, _, _ => by simp at h1
  | r :: rows, o :: off, c :: q, h1, h2, h => by
    have h3 := h 0 c r o rfl rfl rfl
    have ih := costF_ge (F := F) (rows := rows) (off := off) (q := q) (by simpa using h1) (by simpa using h2) fun k c x o a b d => h (k + 1) c x o a b d
    simp only [intsN, List.map_cons, sumL, costF] at ih ⊢
    rw [Int.toNat_natCast]
    omega
def costAt (rows : List (List Int)) (a b : Nat) : Int := (rows.getD a []).getD b 0
/-- the kernel's rows, in form -/
structure RowsOk (rows : List (List Int)) : Prop where
  n1 : 1 ≤ rows.length
  n2 : rows.length ≤ 24
  row : ∀ row ∈ rows, row.length = rows.length
  num : ∀ row ∈ rows, ∀ x ∈ row, 0 ≤ x ∧ x ≤ 2147483647
theorem RowsOk.get {rows : List (List Int)} (h : RowsOk rows) {row : List Int} (hr : row ∈ rows) {c : Nat} (hc : c < rows.length) : 0 ≤ row.getD c 0 ∧ row.getD c 0 ≤ 2147483647 := by
  have h1 : c < row.length := by rw [h.row row hr]; exact hc
  have h2 : row.getD c 0 = row[c] := by simp [List.getD, List.getElem?_eq_getElem h1]
  rw [h2]
  exact h.num row hr _ (List.getElem_mem _)
theorem costF_range : ∀ {rows : List (List Int)} {q : List Nat}, rows.length = q.length → costF rows (intsN q) = sumL ((List.range q.length).map fun k => costAt rows k (q.getD k 0))
  | [], [], _ => rfl
  | [], _ :: _, h => by simp at h
  | _ :: _, [], h => by simp at h
  | r :: rows, c :: q, h => by
    have ih := costF_range (rows := rows) (q := q) (by simpa using h)
    have e : (List.range (c :: q).length).map (fun k => costAt (r :: rows) k ((c :: q).getD k 0)) = costAt (r :: rows) 0 c :: (List.range q.length).map fun k => costAt rows k (q.getD k 0) := by
      rw [List.length_cons, List.range_succ_eq_map, List.map_cons, List.map_map]
      rfl
    rw [e]
    simp only [intsN, List.map_cons, sumL, costF] at ih ⊢
    rw [Int.toNat_natCast, ih]
    rfl
theorem sumL_append (a b : List Int) : sumL (a ++ b) = sumL a + sumL b := by
  induction a with
  | nil => simp [sumL]
  | cons x a ih => simp only [List.cons_append, sumL, ih]; omega
end Go.Proofs.Ytleckhbmciiooaa
