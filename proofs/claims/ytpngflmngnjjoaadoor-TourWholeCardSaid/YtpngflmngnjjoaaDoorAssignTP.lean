/-
  An assignment's beginnings as a tree, plainly: as many leaves as there are orders, each once.
-/
import Derived.Test.YtpngflmngnjjoaaDoorAssignBP
import Derived.Test.YtpngflmngnjjoaaDoorTreePlain
namespace Go.Proofs.YtpngflmngnjjoaaDoor

def factN : Nat → Nat
  | 0 => 1
  | n + 1 => (n + 1) * factN n
theorem factN_pos : ∀ n, 0 < factN n
  | 0 => by decide
  | n + 1 => Nat.mul_pos (by omega) (factN_pos n)
theorem factN_le5 {n : Nat} (h : n ≤ 5) : factN n ≤ 120 := by
  have : n = 0 ∨ n = 1 ∨ n = 2 ∨ n = 3 ∨ n = 4 ∨ n = 5 := by omega
  rcases this with rfl | rfl | rfl | rfl | rfl | rfl <;> decide
section
variable {rows : List (List Int)}
theorem kidsA_of {p : List Int} {m : Nat} (hp : freeP rows.length p = some m) : ∃ l : List Nat, (kidsA rows p).1 = intsN l ∧ l.Perm (memsM m) ∧ (kidsA rows p).2 = 0 := by
  refine ⟨sortP (ltC (cfR (rows.getD p.length []))) (memsM m), ?_, msortP_perm _ _ _, ?_⟩ <;> (unfold kidsA; rw [hp])
def lvA (rows : List (List Int)) : Nat → List Int → List (List Int)
  | 0, p => [p]
  | f + 1, p => (kidsA rows p).1.reverse.flatMap fun x => lvA rows f (p ++ [x])
theorem lvA_ext : ∀ (f : Nat) (p y : List Int), y ∈ lvA rows f p → ∃ s, y = p ++ s
  | 0, p, y, h => by
    simp [lvA] at h
    exact ⟨[], by simp [h]⟩
  | f + 1, p, y, h => by
    simp only [lvA, List.mem_flatMap] at h
    obtain ⟨x, _, h⟩ := h
    obtain ⟨s, rfl⟩ := lvA_ext f _ y h
    exact ⟨x :: s, by simp⟩
theorem sum_const {α : Type} (f : α → Nat) (c : Nat) : ∀ l : List α, (∀ x ∈ l, f x = c) → (l.map f).sum = l.length * c
  | [], _ => by simp
  | x :: l, h => by
    rw [List.map_cons, List.sum_cons, sum_const f c l fun y hy => h y (by simp [hy]), h x (by simp), List.length_cons, Nat.add_mul]
    omega
theorem lvA_ok (h24 : rows.length ≤ 24) : ∀ (f : Nat) (p : List Int) (m : Nat), freeP rows.length p = some m → f = rows.length - p.length → (lvA rows f p).length = factN f ∧ (lvA rows f p).Nodup ∧ ∀ y ∈ lvA rows f p, (∃ m, freeP rows.length y = some m) ∧ y.length = rows.length
  | 0, p, m, hp, hf => by
    have hlen := freeP_len h24 hp
    refine ⟨rfl, List.nodup_cons.2 ⟨List.not_mem_nil, List.Pairwise.nil⟩, fun y hy => ?_⟩
    simp [lvA] at hy
    subst hy
    exact ⟨⟨m, hp⟩, by omega⟩
  | f + 1, p, m, hp, hf => by
    have hlen := freeP_len h24 hp
    obtain ⟨l, h1, h2, _⟩ := kidsA_of hp
    have ih : ∀ x ∈ (kidsA rows p).1.reverse, (lvA rows f (p ++ [x])).length = factN f ∧ (lvA rows f (p ++ [x])).Nodup ∧ ∀ y ∈ lvA rows f (p ++ [x]), (∃ m, freeP rows.length y = some m) ∧ y.length = rows.length := fun x hx => by
      rw [h1] at hx
      obtain ⟨c, hc, rfl⟩ := List.mem_map.1 (List.mem_reverse.1 hx)
      exact lvA_ok h24 f _ _ (freeP_snoc h24 hp (h2.mem_iff.1 hc)) (by rw [List.length_append, List.length_singleton]; omega)
    refine ⟨?_, ?_, fun y hy => ?_⟩
    · show ((kidsA rows p).1.reverse.flatMap fun x => lvA rows f (p ++ [x])).length = _
      rw [List.length_flatMap, sum_const _ (factN f) _ fun x hx => (ih x hx).1, List.length_reverse, h1, intsN_len, h2.length_eq, show (memsM m).length = f + 1 by omega]
      rfl
    · show ((kidsA rows p).1.reverse.flatMap fun x => lvA rows f (p ++ [x])).Pairwise _
      rw [List.pairwise_flatMap]
      refine ⟨fun x hx => (ih x hx).2.1, ?_⟩
      have hnd : (kidsA rows p).1.reverse.Nodup := by
        rw [h1]
        refine List.pairwise_reverse.2 ?_
        have hl : l.Nodup := h2.nodup_iff.2 ((memsM_sorted m).imp fun h => Nat.ne_of_lt h)
        unfold intsN
        exact List.Pairwise.map _ (fun a b h e => h (by omega)) hl
      refine hnd.imp fun {a b} hab => ?_
      intro x hx y hy e
      obtain ⟨s, rfl⟩ := lvA_ext f _ x hx
      obtain ⟨s', hs⟩ := lvA_ext f _ y hy
      rw [hs] at e
      simp only [List.append_assoc, List.append_cancel_left_eq, List.singleton_append, List.cons.injEq] at e
      exact hab e.1
    · simp only [lvA, List.mem_flatMap] at hy
      obtain ⟨x, hx, hy⟩ := hy
      exact (ih x hx).2.2 y hy
theorem freeP_root {n : Nat} : freeP n [] = some (2 ^ n - 1) := by
  unfold freeP
  rw [if_neg (by simp)]
  rfl
theorem tree_assign (h24 : rows.length ≤ 5) : TreeP rows.length (fun p => ∃ m, freeP rows.length p = some m) (fun p => (kidsA rows p).1) (fun p => lvA rows (rows.length - p.length) p) (fun p => p) (factN rows.length) := by
  have h24' : rows.length ≤ 24 := by omega
  have hroot := lvA_ok h24' (rows.length - 0) [] _ freeP_root rfl
  have hle : ∀ {p : List Int}, (∃ m, freeP rows.length p = some m) → p.length ≤ rows.length := fun {p} ⟨m, h⟩ => by have := freeP_len h24' h; omega
  refine ⟨⟨_, freeP_root⟩, hle, ?_, ?_, ?_, ?_, ?_, ?_, ?_, hroot.1, ?_⟩
  · rintro p ⟨m, h⟩
    rw [(lvA_ok h24' _ p m h rfl).1]
    exact factN_pos _
  · rintro p ⟨m, h⟩ hl
    rw [hl, Nat.sub_self]
    rfl
  · rintro p ⟨m, h⟩ hl
    obtain ⟨l, h1, h2, _⟩ := kidsA_of h
    have hlen := freeP_len h24' h
    rw [h1]
    have : l = [] := List.eq_nil_of_length_eq_zero (by rw [h2.length_eq]; omega)
    subst this
    rfl
  · rintro p ⟨m, h⟩ hl
    show lvA rows (rows.length - p.length) p = _
    rw [show rows.length - p.length = (rows.length - (p.length + 1)) + 1 by omega]
    show (kidsA rows p).1.reverse.flatMap _ = _
    congr 1
    funext x
    show _ = lvA rows (rows.length - (p ++ [x]).length) (p ++ [x])
    rw [List.length_append, List.length_singleton]
  · rintro p ⟨m, h⟩ hl x hx
    obtain ⟨l, h1, h2, _⟩ := kidsA_of h
    rw [h1] at hx
    obtain ⟨c, hc, rfl⟩ := List.mem_map.1 hx
    exact ⟨_, freeP_snoc h24' h (h2.mem_iff.1 hc)⟩
  · rintro p ⟨m, h⟩ hl
    obtain ⟨l, h1, h2, _⟩ := kidsA_of h
    have hlen := freeP_len h24' h
    rw [h1, intsN_len, h2.length_eq]
    omega
  · show (lvA rows (rows.length - 0) []).length ≤ 3000
    rw [hroot.1]
    have := factN_le5 (n := rows.length - 0) (by omega)
    omega
  · show ((lvA rows (rows.length - 0) []).map fun p => p).Nodup
    rw [List.map_id']
    exact hroot.2.1
end
end Go.Proofs.YtpngflmngnjjoaaDoor
