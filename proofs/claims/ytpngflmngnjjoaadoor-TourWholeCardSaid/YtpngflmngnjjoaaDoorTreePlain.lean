/-
  Beginnings as a tree, plainly: who takes the last one that waits, and puts what follows it behind, finds all whole ones, each once.
-/
import Derived.Lib.Hide
namespace Go.Proofs.YtpngflmngnjjoaaDoor

structure TreeP (N : Nat) (ok : List Int → Prop) (kd : List Int → List Int) (lv : List Int → List (List Int)) (ans : List Int → List Int) (tot : Nat) : Prop where
  root : ok []
  len : ∀ {p}, ok p → p.length ≤ N
  pos : ∀ {p}, ok p → 0 < (lv p).length
  whole : ∀ {p}, ok p → p.length = N → lv p = [p]
  none : ∀ {p}, ok p → p.length = N → kd p = []
  step : ∀ {p}, ok p → p.length < N → lv p = (kd p).reverse.flatMap (fun x => lv (p ++ [x]))
  next : ∀ {p}, ok p → p.length < N → ∀ x ∈ kd p, ok (p ++ [x])
  few : ∀ {p}, ok p → p.length < N → (kd p).length ≤ 8
  many : (lv []).length ≤ 3000
  cnt : (lv []).length = tot
  once : ((lv []).map ans).Nodup
/-- what waits, and what is found -/
def InvT (ok : List Int → Prop) (lv : List Int → List (List Int)) (W F : List (List Int)) : Prop := (∀ p ∈ W, ok p) ∧ F ++ W.reverse.flatMap lv = lv []
section
variable {N tot : Nat} {ok : List Int → Prop} {kd : List Int → List Int} {lv : List Int → List (List Int)} {ans : List Int → List Int}
theorem InvT.start (T : TreeP N ok kd lv ans tot) : InvT ok lv [[]] [] := by
  refine ⟨fun p hp => ?_, by simp⟩
  obtain rfl : p = [] := by simpa using hp
  exact T.root
theorem InvT.found (T : TreeP N ok kd lv ans tot) {q F : List (List Int)} {p : List Int} (h : InvT ok lv (q ++ [p]) F) (hp : p.length = N) : InvT ok lv q (F ++ [p]) := by
  obtain ⟨h1, h2⟩ := h
  refine ⟨fun x hx => h1 x (by simp [hx]), ?_⟩
  rw [← h2]
  simp [T.whole (h1 p (by simp)) hp]
theorem InvT.more (T : TreeP N ok kd lv ans tot) {q F : List (List Int)} {p : List Int} (h : InvT ok lv (q ++ [p]) F) (hp : p.length < N) : InvT ok lv (q ++ (kd p).map (fun x => p ++ [x])) F := by
  obtain ⟨h1, h2⟩ := h
  have ho := h1 p (by simp)
  refine ⟨fun x hx => ?_, ?_⟩
  · rcases List.mem_append.1 hx with hx | hx
    · exact h1 x (by simp [hx])
    · obtain ⟨y, hy, rfl⟩ := List.mem_map.1 hx
      exact T.next ho hp y hy
  · rw [← h2]
    simp only [List.reverse_append, List.flatMap_append, List.reverse_cons, List.reverse_nil, List.nil_append, List.singleton_append, List.flatMap_cons, T.step ho hp]
    congr 2
    rw [← List.map_reverse, List.flatMap_map]
theorem InvT.size (T : TreeP N ok kd lv ans tot) {W F : List (List Int)} (h : InvT ok lv W F) : W.length + F.length ≤ (lv []).length := by
  obtain ⟨h1, h2⟩ := h
  rw [← h2, List.length_append]
  have : ∀ (L : List (List Int)), (∀ p ∈ L, ok p) → L.length ≤ (L.flatMap lv).length := by
    intro L hL
    induction L with
    | nil => simp
    | cons a L ih =>
      have h3 := T.pos (hL a (by simp))
      have h4 := ih fun p hp => hL p (by simp [hp])
      simp only [List.flatMap_cons, List.length_append, List.length_cons]
      omega
  have h5 := this W.reverse fun p hp => h1 p (by simpa using hp)
  rw [List.length_reverse] at h5
  omega
theorem InvT.done {F : List (List Int)} (h : InvT ok lv [] F) : F = lv [] := by simpa [InvT] using h
/-- how much there is to do still -/
def workT (N : Nat) (W : List (List Int)) : Nat := (W.map fun p => 9 ^ (N + 1 - p.length)).sum
theorem workT_app (A B : List (List Int)) : workT N (A ++ B) = workT N A + workT N B := by simp [workT]
theorem workT_found {q : List (List Int)} {p : List Int} : workT N q < workT N (q ++ [p]) := by
  rw [workT_app]
  have : 0 < 9 ^ (N + 1 - p.length) := Nat.pow_pos (by omega)
  simp only [workT, List.map_cons, List.map_nil, List.sum_cons, List.sum_nil]
  omega
theorem workT_more (T : TreeP N ok kd lv ans tot) {q : List (List Int)} {p : List Int} (ho : ok p) (hp : p.length < N) : workT N (q ++ (kd p).map (fun x => p ++ [x])) < workT N (q ++ [p]) := by
  rw [workT_app, workT_app]
  have e : ∀ l : List Int, workT N (l.map fun x => p ++ [x]) = l.length * 9 ^ (N - p.length) := by
    intro l
    induction l with
    | nil => simp [workT]
    | cons a l ih =>
      simp only [workT, List.map_cons, List.sum_cons, List.length_append, List.length_cons, List.length_nil] at ih ⊢
      rw [ih, Nat.add_mul]
      have : N + 1 - (p.length + (0 + 1)) = N - p.length := by omega
      rw [this]
      omega
  rw [e]
  have h1 : (kd p).length * 9 ^ (N - p.length) ≤ 8 * 9 ^ (N - p.length) := Nat.mul_le_mul_right _ (T.few ho hp)
  have h2 : workT N [p] = 9 * 9 ^ (N - p.length) := by
    simp only [workT, List.map_cons, List.map_nil, List.sum_cons, List.sum_nil]
    rw [show N + 1 - p.length = (N - p.length) + 1 by omega, Nat.pow_succ]
    omega
  have h3 : 0 < 9 ^ (N - p.length) := Nat.pow_pos (by omega)
  omega
end
end Go.Proofs.YtpngflmngnjjoaaDoor
