/-
  An assignment's least cost, plainly: rows that cost so much more; rows as columns.
-/
import Derived.Test.YtleckhbmciiooaaHungQ
namespace Go.Proofs.Ytleckhbmciiooaa

/-- no order costs less -/
def Least (rows : List (List Int)) (n : Nat) (c : Int) : Prop := (∃ x : List Nat, x.Perm (List.range n) ∧ costF rows (intsN x) = c) ∧ ∀ q : List Nat, q.Perm (List.range n) → c ≤ costF rows (intsN q)
theorem Least.one {rows : List (List Int)} {n : Nat} {c d : Int} (h : Least rows n c) (k : Least rows n d) : c = d := by
  obtain ⟨x, h1, h2⟩ := h.1
  obtain ⟨y, k1, k2⟩ := k.1
  have a := h.2 y k1
  have b := k.2 x h1
  omega
theorem perm_len {x : List Nat} {n : Nat} (h : x.Perm (List.range n)) : x.length = n := by rw [h.length_eq, List.length_range]
theorem idx_map {x : List Nat} (h : x.Nodup) : (x.map fun c => x.idxOf c) = List.range x.length := by
  refine List.ext_getElem (by simp) fun i h1 h2 => ?_
  simp only [List.getElem_map, List.getElem_range]
  exact h.idxOf_getElem i (by simpa using h1)
theorem cost_turn {rows rowsT : List (List Int)} {n : Nat} (h1 : rows.length = n) (h2 : rowsT.length = n) (h : ∀ a b, a < n → b < n → costAt rowsT b a = costAt rows a b) {x : List Nat} (hx : x.Perm (List.range n)) :
    ∃ y : List Nat, y.Perm (List.range n) ∧ costF rowsT (intsN y) = costF rows (intsN x) := by
  have lx := perm_len hx
  have nd : x.Nodup := hx.symm.nodup List.nodup_range
  have hy : ((List.range n).map fun c => x.idxOf c).Perm (List.range n) := by
    have := (hx.map fun c => x.idxOf c).symm
    rwa [idx_map nd, lx] at this
  refine ⟨(List.range n).map fun c => x.idxOf c, hy, ?_⟩
  rw [costF_range (by rw [h2]; simp), costF_range (by rw [h1, lx]), List.length_map, List.length_range, lx]
  have e1 : ((List.range n).map fun k => costAt rowsT k (((List.range n).map fun c => x.idxOf c).getD k 0)) = (List.range n).map fun c => costAt rows (x.idxOf c) c := by
    refine List.map_congr_left fun c hc => ?_
    have hc := List.mem_range.1 hc
    have hm : c ∈ x := hx.mem_iff.2 (List.mem_range.2 hc)
    have e : ((List.range n).map fun c => x.idxOf c)[c]? = some (x.idxOf c) := by rw [List.getElem?_map, List.getElem?_range hc]; rfl
    rw [List.getD, e, Option.getD_some]
    exact h _ _ (by rw [← lx]; exact List.idxOf_lt_length_of_mem hm) hc
  rw [e1]
  have e2 := sumL_perm ((hx.map fun c => costAt rows (x.idxOf c) c))
  rw [← e2]
  congr 1
  refine List.ext_getElem (by simp [lx]) fun i k1 k2 => ?_
  have hi : i < x.length := by simpa using k1
  simp only [List.getElem_map, List.getElem_range]
  rw [nd.idxOf_getElem i hi, List.getD, List.getElem?_eq_getElem hi, Option.getD_some]
theorem Least.turn {rows rowsT : List (List Int)} {n : Nat} {c : Int} (h1 : rows.length = n) (h2 : rowsT.length = n) (h : ∀ a b, a < n → b < n → costAt rowsT b a = costAt rows a b) (hl : Least rows n c) : Least rowsT n c := by
  refine ⟨?_, fun q hq => ?_⟩
  · obtain ⟨x, k1, k2⟩ := hl.1
    obtain ⟨y, m1, m2⟩ := cost_turn h1 h2 h k1
    exact ⟨y, m1, m2.trans k2⟩
  · obtain ⟨y, m1, m2⟩ := cost_turn h2 h1 (fun a b ha hb => (h b a hb ha).symm) hq
    rw [← m2]
    exact hl.2 y m1
theorem sumL_map_add {α : Type} (f g : α → Int) : ∀ l : List α, sumL (l.map fun k => f k + g k) = sumL (l.map f) + sumL (l.map g)
  | [] => rfl
  | x :: l => by
    have := sumL_map_add f g l
    simp only [List.map_cons, sumL]
    omega
theorem cost_more {rows rowsM : List (List Int)} {n : Nat} {up : Nat → Int} (h1 : rows.length = n) (h2 : rowsM.length = n) (h : ∀ a b, a < n → b < n → costAt rowsM a b = costAt rows a b + up a) {x : List Nat} (hx : x.Perm (List.range n)) :
    costF rowsM (intsN x) = costF rows (intsN x) + sumL ((List.range n).map up) := by
  have lx := perm_len hx
  rw [costF_range (by rw [h2, lx]), costF_range (by rw [h1, lx]), lx, ← sumL_map_add]
  congr 1
  refine List.map_congr_left fun k hk => ?_
  have hk := List.mem_range.1 hk
  refine h _ _ hk ?_
  have : x.getD k 0 ∈ x := by
    rw [List.getD, List.getElem?_eq_getElem (by omega), Option.getD_some]
    exact List.getElem_mem _
  exact List.mem_range.1 (hx.mem_iff.1 this)
theorem Least.more {rows rowsM : List (List Int)} {n : Nat} {c : Int} {up : Nat → Int} (h1 : rows.length = n) (h2 : rowsM.length = n) (h : ∀ a b, a < n → b < n → costAt rowsM a b = costAt rows a b + up a) (hl : Least rows n c) : Least rowsM n (c + sumL ((List.range n).map up)) := by
  refine ⟨?_, fun q hq => ?_⟩
  · obtain ⟨x, k1, k2⟩ := hl.1
    exact ⟨x, k1, by rw [cost_more h1 h2 h k1, k2]⟩
  · rw [cost_more h1 h2 h hq]
    have := hl.2 q hq
    omega
end Go.Proofs.Ytleckhbmciiooaa
