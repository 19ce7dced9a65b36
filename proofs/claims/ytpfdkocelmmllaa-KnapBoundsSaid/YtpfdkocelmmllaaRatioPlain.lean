/-
  Items in order, plainly: which of two stands ahead, and the order by merging; of two orders of the same numbers, each sorted by a strict order, both are one.
-/
import Derived.Lib.Hide
namespace Go.Proofs.Ytpfdkocelmmllaa

/-- the sort by merging: halves by halves -/
def msortP (lt : Nat → Nat → Bool) : Nat → List Nat → List Nat
  | 0, p => p
  | f + 1, p => if p.length < 2 then p else List.merge (msortP lt f (p.take (p.length / 2))) (msortP lt f (p.drop (p.length / 2))) (fun x y => !lt y x)
theorem msortP_perm (lt : Nat → Nat → Bool) : ∀ (f : Nat) (p : List Nat), (msortP lt f p).Perm p
  | 0, p => List.Perm.refl p
  | f + 1, p => by
    unfold msortP
    split
    · exact List.Perm.refl p
    · refine (List.merge_perm_append _).trans ?_
      have h := (msortP_perm lt f (p.take (p.length / 2))).append (msortP_perm lt f (p.drop (p.length / 2)))
      rwa [List.take_append_drop] at h
theorem msortP_len (lt : Nat → Nat → Bool) (f : Nat) (p : List Nat) : (msortP lt f p).length = p.length := (msortP_perm lt f p).length_eq
/-- a strict order of a weak one: of two that are the same the less one -/
def strictly (lt : Nat → Nat → Bool) (a b : Nat) : Prop := lt a b = true ∨ (lt b a = false ∧ a < b)
structure Weak (lt : Nat → Nat → Bool) : Prop where
  asym : ∀ a b, lt a b = true → lt b a = false
  neg : ∀ a b c, lt a c = true → lt a b = true ∨ lt b c = true
theorem Weak.trans {lt : Nat → Nat → Bool} (h : Weak lt) {a b c : Nat} (h1 : strictly lt a b) (h2 : strictly lt b c) : strictly lt a c := by
  rcases h1 with h1 | ⟨h1, l1⟩ <;> rcases h2 with h2 | ⟨h2, l2⟩
  · rcases h.neg a c b h1 with h3 | h3
    · exact .inl h3
    · rw [h.asym b c h2] at h3; cases h3
  · rcases h.neg a c b h1 with h3 | h3
    · exact .inl h3
    · rw [h2] at h3; cases h3
  · rcases h.neg b a c h2 with h3 | h3
    · rw [h1] at h3; cases h3
    · exact .inl h3
  · refine .inr ⟨?_, by omega⟩
    cases h3 : lt c a with
    | false => rfl
    | true =>
      rcases h.neg c b a h3 with h4 | h4
      · rw [h2] at h4; cases h4
      · rw [h1] at h4; cases h4
theorem Weak.irrefl {lt : Nat → Nat → Bool} (h : Weak lt) (a : Nat) : ¬ strictly lt a a := by
  rintro (h1 | ⟨_, h1⟩)
  · have := h.asym a a h1; rw [h1] at this; cases this
  · omega
theorem Weak.asymm {lt : Nat → Nat → Bool} (h : Weak lt) {a b : Nat} (h1 : strictly lt a b) : ¬ strictly lt b a := fun h2 => h.irrefl a (h.trans h1 h2)
theorem Weak.total {lt : Nat → Nat → Bool} {a b : Nat} (hab : a ≠ b) : strictly lt a b ∨ strictly lt b a := by
  cases h1 : lt a b with
  | true => exact .inl (.inl h1)
  | false =>
    cases h2 : lt b a with
    | true => exact .inr (.inl h2)
    | false =>
      rcases Nat.lt_or_gt_of_ne hab with h3 | h3
      · exact .inl (.inr ⟨h2, h3⟩)
      · exact .inr (.inr ⟨h1, h3⟩)
theorem merge_sorted {lt : Nat → Nat → Bool} (h : Weak lt) : ∀ (n : Nat) (l r : List Nat), l.length + r.length ≤ n → l.Pairwise (strictly lt) → r.Pairwise (strictly lt) → (∀ a ∈ l, ∀ b ∈ r, a < b) → (List.merge l r (fun x y => !lt y x)).Pairwise (strictly lt)
  | n, [], r, _, _, hr, _ => by rw [List.nil_merge]; exact hr
  | n, a :: l, [], _, hl, _, _ => by rw [List.merge_right]; exact hl
  | 0, a :: l, b :: r, hn, _, _, _ => by simp at hn
  | n + 1, a :: l, b :: r, hn, hl, hr, hlt => by
    rw [List.cons_merge_cons]
    have hl' := List.pairwise_cons.1 hl
    have hr' := List.pairwise_cons.1 hr
    split
    · rename_i hab
      have hab' : lt b a = false := by simpa using hab
      have R : strictly lt a b := .inr ⟨hab', hlt a (by simp) b (by simp)⟩
      refine List.pairwise_cons.2 ⟨fun x hx => ?_, merge_sorted h n l (b :: r) (by simp at hn ⊢; omega) hl'.2 hr (fun x hx y hy => hlt x (by simp [hx]) y hy)⟩
      rcases List.mem_merge.1 hx with hx | hx
      · exact hl'.1 x hx
      · rcases List.mem_cons.1 hx with rfl | hx
        · exact R
        · exact h.trans R (hr'.1 x hx)
    · rename_i hab
      have hab' : lt b a = true := by simpa using hab
      have R : strictly lt b a := .inl hab'
      refine List.pairwise_cons.2 ⟨fun x hx => ?_, merge_sorted h n (a :: l) r (by simp at hn ⊢; omega) hl hr'.2 (fun x hx y hy => hlt x hx y (by simp [hy]))⟩
      rcases List.mem_merge.1 hx with hx | hx
      · rcases List.mem_cons.1 hx with rfl | hx
        · exact R
        · exact h.trans R (hl'.1 x hx)
      · exact hr'.1 x hx
theorem msortP_sorted {lt : Nat → Nat → Bool} (h : Weak lt) : ∀ (f : Nat) (p : List Nat), p.length ≤ f + 1 → p.Pairwise (· < ·) → (msortP lt f p).Pairwise (strictly lt)
  | 0, p, hf, _ => by
    match p, hf with
    | [], _ => exact List.Pairwise.nil
    | [a], _ => exact List.pairwise_singleton _ _
  | f + 1, p, hf, hp => by
    unfold msortP
    split
    · rename_i h2
      match p, h2 with
      | [], _ => exact List.Pairwise.nil
      | [a], _ => exact List.pairwise_singleton _ _
    · rename_i h2
      refine merge_sorted h _ _ _ (Nat.le_refl _) (msortP_sorted h f _ (by simp; omega) (hp.sublist (List.take_sublist _ _))) (msortP_sorted h f _ (by simp; omega) (hp.sublist (List.drop_sublist _ _))) ?_
      intro a ha b hb
      rw [(msortP_perm lt f _).mem_iff] at ha hb
      have := List.pairwise_append.1 (by rw [List.take_append_drop (p.length / 2) p]; exact hp)
      exact this.2.2 a ha b hb

/-- by value for the weight: does item a stand ahead of item b? -/
def aheadB (v w : List Int) (a b : Nat) : Bool :=
  if w.getD b 0 = 0 then false else if w.getD a 0 = 0 then true else decide (v.getD b 0 * w.getD a 0 < v.getD a 0 * w.getD b 0)
theorem nonneg_getD {w : List Int} (hw : ∀ x ∈ w, 0 ≤ x) (a : Nat) : 0 ≤ w.getD a 0 := by
  rw [List.getD_eq_getElem?_getD]
  cases h : w[a]? with
  | none => simp
  | some x => exact hw x (List.mem_of_getElem? h)
theorem aheadB_weak {v w : List Int} (hw : ∀ x ∈ w, 0 ≤ x) : Weak (aheadB v w) := by
  have nn := nonneg_getD hw
  constructor
  · intro a b hab
    unfold aheadB at hab ⊢
    have na := nn a
    have nb := nn b
    by_cases b0 : w.getD b 0 = 0
    · rw [if_pos b0] at hab; cases hab
    · rw [if_neg b0] at hab
      by_cases a0 : w.getD a 0 = 0
      · rw [if_pos a0]
      · rw [if_neg a0] at hab
        rw [if_neg a0, if_neg b0]
        have := of_decide_eq_true hab
        exact decide_eq_false (by omega)
  · intro a b c hac
    unfold aheadB at hac ⊢
    have na := nn a
    have nb := nn b
    have nc := nn c
    by_cases c0 : w.getD c 0 = 0
    · rw [if_pos c0] at hac; cases hac
    · rw [if_neg c0] at hac
      rw [if_neg c0]
      by_cases b0 : w.getD b 0 = 0
      · right; rw [if_pos b0]
      · rw [if_neg b0, if_neg b0]
        by_cases a0 : w.getD a 0 = 0
        · left; rw [if_pos a0]
        · rw [if_neg a0] at hac ⊢
          have h1 := of_decide_eq_true hac
          generalize v.getD a 0 = va at *
          generalize v.getD b 0 = vb at *
          generalize v.getD c 0 = vc at *
          generalize w.getD a 0 = wa at *
          generalize w.getD b 0 = wb at *
          generalize w.getD c 0 = wc at *
          by_cases h2 : vb * wa < va * wb
          · left; exact decide_eq_true h2
          · right
            refine decide_eq_true ?_
            have h3 : va * wb ≤ vb * wa := by omega
            have h4 : wb * (vc * wa) < wb * (va * wc) := Int.mul_lt_mul_of_pos_left h1 (by omega)
            have h5 : wc * (va * wb) ≤ wc * (vb * wa) := Int.mul_le_mul_of_nonneg_left h3 nc
            have e1 : wb * (vc * wa) = wa * (vc * wb) := by rw [Int.mul_comm vc wa, ← Int.mul_assoc, Int.mul_comm wb wa, Int.mul_assoc, Int.mul_comm wb vc]
            have e2 : wb * (va * wc) = wc * (va * wb) := by rw [Int.mul_comm va wc, ← Int.mul_assoc, Int.mul_comm wb wc, Int.mul_assoc, Int.mul_comm wb va]
            have e3 : wc * (vb * wa) = wa * (vb * wc) := by rw [Int.mul_comm vb wa, ← Int.mul_assoc, Int.mul_comm wc wa, Int.mul_assoc, Int.mul_comm wc vb]
            rw [e1, e2] at h4
            rw [e3] at h5
            exact Int.lt_of_mul_lt_mul_left (Int.lt_of_lt_of_le h4 h5) na

/-- the items' order -/
def ratioP (v w : List Int) : List Nat := msortP (aheadB v w) v.length (List.range v.length)
theorem ratioP_perm (v w : List Int) : (ratioP v w).Perm (List.range v.length) := msortP_perm _ _ _
theorem ratioP_len (v w : List Int) : (ratioP v w).length = v.length := by rw [(ratioP_perm v w).length_eq, List.length_range]
theorem ratioP_sorted {v w : List Int} (hw : ∀ x ∈ w, 0 ≤ x) : (ratioP v w).Pairwise (strictly (aheadB v w)) :=
  msortP_sorted (aheadB_weak hw) _ _ (by simp) List.pairwise_lt_range
theorem ratioP_nodup (v w : List Int) : (ratioP v w).Nodup := (ratioP_perm v w).nodup_iff.2 List.nodup_range
theorem ratioP_mem {v w : List Int} {a : Nat} : a ∈ ratioP v w ↔ a < v.length := by rw [(ratioP_perm v w).mem_iff, List.mem_range]
theorem ratioP_lt {v w : List Int} {k a : Nat} (h : (ratioP v w)[k]? = some a) : a < v.length := ratioP_mem.1 (List.mem_of_getElem? h)
end Go.Proofs.Ytpfdkocelmmllaa
