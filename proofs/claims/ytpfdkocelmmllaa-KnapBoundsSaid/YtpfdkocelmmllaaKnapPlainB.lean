/-
  A knapsack's kernel, plainly: the items in order fall; the best of all answers that begin so is not below the bound; what the answer of a whole beginning costs.
-/
import Derived.Test.YtpfdkocelmmllaaKnapPlain
namespace Go.Proofs.Ytpfdkocelmmllaa

def inOrder (l : List Nat) (v : List Int) : List Int := l.map fun n => v.getD n 0
theorem under_of {v w : List Int} {a : Nat} (hv : ∀ x ∈ v, 0 ≤ x) (hw : ∀ x ∈ w, 0 ≤ x) : ∀ {l : List Nat}, (∀ b ∈ l, strictly (aheadB v w) a b) → Under (w.getD a 0) (v.getD a 0) (inOrder l w) (inOrder l v)
  | [], _ => trivial
  | b :: l, h => by
    refine ⟨?_, under_of hv hw (l := l) fun c hc => h c (by simp [hc])⟩
    have hb := h b (by simp)
    have h2 : aheadB v w b a = false := by
      rcases hb with hb | ⟨hb, _⟩
      · exact (aheadB_weak hw).asym _ _ hb
      · exact hb
    unfold aheadB at h2
    have va := nonneg_getD hv a
    have wa := nonneg_getD hw a
    have wb := nonneg_getD hw b
    by_cases a0 : w.getD a 0 = 0
    · rw [a0, Int.mul_zero]; exact Int.mul_nonneg va wb
    · rw [if_neg a0] at h2
      by_cases b0 : w.getD b 0 = 0
      · rw [if_pos b0] at h2; cases h2
      · rw [if_neg b0] at h2
        have := of_decide_eq_false h2
        show v.getD b 0 * w.getD a 0 ≤ v.getD a 0 * w.getD b 0
        omega
theorem falls_of {v w : List Int} (hv : ∀ x ∈ v, 0 ≤ x) (hw : ∀ x ∈ w, 0 ≤ x) : ∀ {l : List Nat}, l.Pairwise (strictly (aheadB v w)) → Falls (inOrder l w) (inOrder l v)
  | [], _ => trivial
  | a :: l, h => by
    have h' := List.pairwise_cons.1 h
    exact ⟨under_of hv hw h'.1, falls_of hv hw h'.2⟩
theorem falls_ratio {v w : List Int} (hv : ∀ x ∈ v, 0 ≤ x) (hw : ∀ x ∈ w, 0 ≤ x) : Falls (inOrder (ratioP v w) w) (inOrder (ratioP v w) v) := falls_of hv hw (ratioP_sorted hw)
theorem Falls.drop : ∀ {k : Nat} {ws vs : List Int}, Falls ws vs → Falls (ws.drop k) (vs.drop k)
  | 0, ws, vs, h => h
  | k + 1, [], vs, h => by simp [Falls]
  | k + 1, w :: ws, [], h => by simp [Falls]
  | k + 1, w :: ws, v :: vs, h => by rw [List.drop_succ_cons, List.drop_succ_cons]; exact Falls.drop h.2
/-- the least cost of all answers behind a state -/
def bestP (room out : Int) : List Int → List Int → Int
  | w :: ws, v :: vs => if w ≤ room then (if bestP room (out + v) ws vs < bestP (room - w) out ws vs then bestP room (out + v) ws vs else bestP (room - w) out ws vs) else bestP room (out + v) ws vs
  | _, _ => out
theorem bestP_ge : ∀ {ws vs : List Int} {room out : Int}, 0 ≤ room → (∀ x ∈ ws, 0 ≤ x) → (∀ x ∈ vs, 0 ≤ x) → ws.length = vs.length → Falls ws vs → out + sumL vs - bringsP room ws vs ≤ bestP room out ws vs
  | [], [], room, out, _, _, _, _, _ => by simp [sumL, bringsP, bestP]
  | [], _ :: _, _, _, _, _, _, h, _ => by simp at h
  | _ :: _, [], _, _, _, _, _, h, _ => by simp at h
  | w :: ws, v :: vs, room, out, h0, hw, hv, hl, hf => by
    have hfr := brings_front h0 hw hv hf
    have hw' : ∀ x ∈ ws, 0 ≤ x := fun x hx => hw x (by simp [hx])
    have hv' : ∀ x ∈ vs, 0 ≤ x := fun x hx => hv x (by simp [hx])
    have hl' : ws.length = vs.length := by simpa using hl
    have h1 := bestP_ge (out := out + v) h0 hw' hv' hl' hf.2
    unfold bestP
    simp only [sumL]
    split
    · rename_i hle
      have h2 := bestP_ge (room := room - w) (out := out) (by omega) hw' hv' hl' hf.2
      have e : bringsP room (w :: ws) (v :: vs) = v + bringsP (room - w) ws vs := by rw [bringsP, if_neg (by omega)]
      rw [e] at hfr ⊢
      split <;> omega
    · omega
theorem bestP_nonneg : ∀ {ws vs : List Int} {room out : Int}, 0 ≤ out → (∀ x ∈ vs, 0 ≤ x) → 0 ≤ bestP room out ws vs
  | [], vs, room, out, h, _ => by cases vs <;> simpa [bestP] using h
  | w :: ws, [], room, out, h, _ => by simpa [bestP] using h
  | w :: ws, v :: vs, room, out, h, hv => by
    have hv0 := hv v (by simp)
    have hv' : ∀ x ∈ vs, 0 ≤ x := fun x hx => hv x (by simp [hx])
    have h1 := bestP_nonneg (ws := ws) (vs := vs) (room := room) (out := out + v) (by omega) hv'
    have h2 := bestP_nonneg (ws := ws) (vs := vs) (room := room - w) (out := out) h hv'
    unfold bestP
    split
    · split <;> assumption
    · assumption
theorem sumL_perm {a b : List Int} (h : a.Perm b) : sumL a = sumL b := by
  induction h with
  | nil => rfl
  | cons x _ ih => simp [sumL, ih]
  | swap x y l => simp [sumL]; omega
  | trans _ _ h1 h2 => rw [h1, h2]
theorem sumL_app (a b : List Int) : sumL (a ++ b) = sumL a + sumL b := by
  induction a with
  | nil => simp [sumL]
  | cons x a ih => simp [sumL, ih]; omega
/-- what is taken weighs, and what is left is worth, by the beginning -/
theorem stP_sums : ∀ {ws vs p : List Int} {room out r o : Int}, ws.length = p.length → vs.length = p.length → stP room out ws vs p = some (r, o) →
    r = room - sumL (List.zipWith (fun x w => if x = 1 then w else 0) p ws) ∧ o = out + sumL (List.zipWith (fun x v => if x = 1 then 0 else v) p vs) ∧ ∀ x ∈ p, x = 0 ∨ x = 1
  | [], [], [], room, out, r, o, _, _, h => by
    simp [stP] at h
    simp [sumL, h]
  | w :: ws, v :: vs, x :: p, room, out, r, o, h1, h2, h => by
    unfold stP at h
    simp only [List.zipWith_cons_cons, sumL]
    split at h
    · rename_i hx
      split at h
      · cases h
      · obtain ⟨a, b, c⟩ := stP_sums (by simpa using h1) (by simpa using h2) h
        rw [if_pos hx, if_pos hx]
        refine ⟨by omega, by omega, fun y hy => ?_⟩
        rcases List.mem_cons.1 hy with rfl | hy
        · exact .inr hx
        · exact c y hy
    · rename_i hx
      split at h
      · rename_i hx0
        split at h
        · cases h
        · obtain ⟨a, b, c⟩ := stP_sums (by simpa using h1) (by simpa using h2) h
          rw [if_neg hx, if_neg hx]
          refine ⟨by omega, by omega, fun y hy => ?_⟩
          rcases List.mem_cons.1 hy with rfl | hy
          · exact .inl hx0
          · exact c y hy
      · cases h
  | [], _, _ :: _, _, _, _, _, h, _, _ => by simp at h
  | _ :: _, _, [], _, _, _, _, h, _, _ => by simp at h
  | [], _ :: _, [], _, _, _, _, _, h, _ => by simp at h
  | _ :: _, [], _ :: _, _, _, _, _, _, h, _ => by simp at h
/-- the answer of a whole beginning: each item's number -/
def ansP (l : List Nat) (p : List Int) : Nat → List Int
  | 0 => List.replicate l.length 0
  | k + 1 => (ansP l p k).set (l.getD k 0) (p.getD k 0)
theorem ansP_len (l : List Nat) (p : List Int) : ∀ k, (ansP l p k).length = l.length
  | 0 => by simp [ansP]
  | k + 1 => by simp [ansP, ansP_len l p k]
theorem ansP_at {l : List Nat} {p : List Int} (hn : l.Nodup) (hl : ∀ a ∈ l, a < l.length) : ∀ k, k ≤ l.length → ∀ j, j < k → (ansP l p k)[l.getD j 0]? = some (p.getD j 0)
  | 0, _, j, h => by omega
  | k + 1, hk, j, h => by
    unfold ansP
    have ek : l.getD k 0 = l[k] := by simp [List.getD, List.getElem?_eq_getElem (show k < l.length by omega)]
    have ej : l.getD j 0 = l[j] := by simp [List.getD, List.getElem?_eq_getElem (show j < l.length by omega)]
    by_cases hj : j = k
    · subst hj
      rw [List.getElem?_set_self (by rw [ansP_len, ek]; exact hl _ (List.getElem_mem _))]
    · have hne : l.getD k 0 ≠ l.getD j 0 := fun h' => hj (((List.getElem?_inj (i := j) (j := k) (by omega) hn).1 (by
        rw [List.getElem?_eq_getElem (show k < l.length by omega), List.getElem?_eq_getElem (show j < l.length by omega), ← ek, ← ej, h'])))
      rw [List.getElem?_set_ne hne, ansP_at hn hl k (by omega) j (by omega)]
end Go.Proofs.Ytpfdkocelmmllaa
