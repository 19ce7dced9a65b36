/-
  Items in order, plainly: which of two stands ahead, and the order by merging; of two orders of the same numbers, each sorted by a strict order, both are one.
  Items in order by counting, plainly: each stands at the place that tells how many are ahead of it; that is the order by merging.
  A knapsack's kernel, plainly: the room that a beginning leaves, what may follow, what no answer is below; the bound does not sink from a beginning to what follows.
  A knapsack's kernel, plainly: the items in order fall; the best of all answers that begin so is not below the bound; what the answer of a whole beginning costs.
  A knapsack's answers, plainly: what the answer of a whole beginning weighs and costs; the least cost behind a beginning, one step on; no bound is above it.
-/
import Derived.Lib.Hide
namespace Go.Proofs.Ytleckhbmciiooaa

/-- the sort by merging: halves by halves -/
def msortP (lt : Nat → Nat → Bool) : Nat → List Nat → List Nat
  | 0, p => p
  | f + 1, p => if p.length < 2 then p else List.merge (msortP lt f (p.take (p.length / 2))) (msortP lt f (p.drop (p.length / 2))) (fun x y => !lt y x)
theorem msortP_perm (lt : Nat → Nat → Bool) : ∀ (f : Nat) (p : List Nat), (msortP lt f p).Perm p
  | 0, p => List.Perm.refl p
  | f + 1, p => by
    unfold msortP
    split
    · exact List.Perm.refl p
    · refine (List.merge_perm_append _).trans ?_
      have h := (msortP_perm lt f (p.take (p.length / 2))).append (msortP_perm lt f (p.drop (p.length / 2)))
      rwa [List.take_append_drop] at h
theorem msortP_len (lt : Nat → Nat → Bool) (f : Nat) (p : List Nat) : (msortP lt f p).length = p.length := (msortP_perm lt f p).length_eq
/-- a strict order of a weak one: of two that are the same the less one -/
def strictly (lt : Nat → Nat → Bool) (a b : Nat) : Prop := lt a b = true ∨ (lt b a = false ∧ a < b)
structure Weak (lt : Nat → Nat → Bool) : Prop where
  asym : ∀ a b, lt a b = true → lt b a = false
  neg : ∀ a b c, lt a c = true → lt a b = true ∨ lt b c = true
theorem Weak.trans {lt : Nat → Nat → Bool} (h : Weak lt) {a b c : Nat} (h1 : strictly lt a b) (h2 : strictly lt b c) : strictly lt a c := by
  rcases h1 with h1 | ⟨h1, l1⟩ <;> rcases h2 with h2 | ⟨h2, l2⟩
  · rcases h.neg a c b h1 with h3 | h3
    · exact .inl h3
    · rw [h.asym b c h2] at h3; cases h3
  · rcases h.neg a c b h1 with h3 | h3
    · exact .inl h3
    · rw [h2] at h3; cases h3
  · rcases h.neg b a c h2 with h3 | h3
    · rw [h1] at h3; cases h3
    · exact .inl h3
  · refine .inr ⟨?_, by omega⟩
    cases h3 : lt c a with
    | false => rfl
    | true =>
      rcases h.neg c b a h3 with h4 | h4
      · rw [h2] at h4; cases h4
      · rw [h1] at h4; cases h4
theorem Weak.irrefl {lt : Nat → Nat → Bool} (h : Weak lt) (a : Nat) : ¬ strictly lt a a := by
  rintro (h1 | ⟨_, h1⟩)
  · have := h.asym a a h1; rw [h1] at this; cases this
  · omega
theorem Weak.asymm {lt : Nat → Nat → Bool} (h : Weak lt) {a b : Nat} (h1 : strictly lt a b) : ¬ strictly lt b a := fun h2 => h.irrefl a (h.trans h1 h2)
theorem Weak.total {lt : Nat → Nat → Bool} {a b : Nat} (hab : a ≠ b) : strictly lt a b ∨ strictly lt b a := by
  cases h1 : lt a b with
  | true => exact .inl (.inl h1)
  | false =>
    cases h2 : lt b a with
    | true => exact .inr (.inl h2)
    | false =>
      rcases Nat.lt_or_gt_of_ne hab with h3 | h3
      · exact .inl (.inr ⟨h2, h3⟩)
      · exact .inr (.inr ⟨h1, h3⟩)
theorem merge_sorted {lt : Nat → Nat → Bool} (h : Weak lt) : ∀ (n : Nat) (l r : List Nat), l.length + r.length ≤ n → l.Pairwise (strictly lt) → r.Pairwise (strictly lt) → (∀ a ∈ l, ∀ b ∈ r, a < b) → (List.merge l r (fun x y => !lt y x)).Pairwise (strictly lt)
  | n, [], r, _, _, hr, _ => by rw [List.nil_merge]; exact hr
  | n, a :: l, [], _, hl, _, _ => by rw [List.merge_right]; exact hl
  | 0, a :: l, b :: r, hn, _, _, _ => by simp at hn
  | n + 1, a :: l, b :: r, hn, hl, hr, hlt => by
    rw [List.cons_merge_cons]
    have hl' := List.pairwise_cons.1 hl
    have hr' := List.pairwise_cons.1 hr
    split
    · rename_i hab
      have hab' : lt b a = false := by simpa using hab
      have R : strictly lt a b := .inr ⟨hab', hlt a (by simp) b (by simp)⟩
      refine List.pairwise_cons.2 ⟨fun x hx => ?_, merge_sorted h n l (b :: r) (by simp at hn ⊢; omega) hl'.2 hr (fun x hx y hy => hlt x (by simp [hx]) y hy)⟩
      rcases List.mem_merge.1 hx with hx | hx
      · exact hl'.1 x hx
      · rcases List.mem_cons.1 hx with rfl | hx
        · exact R
        · exact h.trans R (hr'.1 x hx)
    · rename_i hab
      have hab' : lt b a = true := by simpa using hab
      have R : strictly lt b a := .inl hab'
      refine List.pairwise_cons.2 ⟨fun x hx => ?_, merge_sorted h n (a :: l) r (by simp at hn ⊢; omega) hl hr'.2 (fun x hx y hy => hlt x hx y (by simp [hy]))⟩
      rcases List.mem_merge.1 hx with hx | hx
      · rcases List.mem_cons.1 hx with rfl | hx
        · exact R
        · exact h.trans R (hl'.1 x hx)
      · exact hr'.1 x hx
theorem msortP_sorted {lt : Nat → Nat → Bool} (h : Weak lt) : ∀ (f : Nat) (p : List Nat), p.length ≤ f + 1 → p.Pairwise (· < ·) → (msortP lt f p).Pairwise (strictly lt)
  | 0, p, hf, _ => by
    match p, hf with
    | [], _ => exact List.Pairwise.nil
    | [a], _ => exact List.pairwise_singleton _ _
  | f + 1, p, hf, hp => by
    unfold msortP
    split
    · rename_i h2
      match p, h2 with
      | [], _ => exact List.Pairwise.nil
      | [a], _ => exact List.pairwise_singleton _ _
    · rename_i h2
      refine merge_sorted h _ _ _ (Nat.le_refl _) (msortP_sorted h f _ (by simp; omega) (hp.sublist (List.take_sublist _ _))) (msortP_sorted h f _ (by simp; omega) (hp.sublist (List.drop_sublist _ _))) ?_
      intro a ha b hb
      rw [(msortP_perm lt f _).mem_iff] at ha hb
      have := List.pairwise_append.1 (by rw [List.take_append_drop (p.length / 2) p]; exact hp)
      exact this.2.2 a ha b hb

/-- by value for the weight: does item a stand ahead of item b? -/
def aheadB (v w : List Int) (a b : Nat) : Bool :=
  if w.getD b 0 = 0 then false else if w.getD a 0 = 0 then true else decide (v.getD b 0 * w.getD a 0 < v.getD a 0 * w.getD b 0)
theorem nonneg_getD {w : List Int} (hw : ∀ x ∈ w, 0 ≤ x) (a : Nat) : 0 ≤ w.getD a 0 := by
  rw [List.getD_eq_getElem?_getD]
  cases h : w[a]? with
  | none => simp
  | some x => exact hw x (List.mem_of_getElem? h)
theorem aheadB_weak {v w : List Int} (hw : ∀ x ∈ w, 0 ≤ x) : Weak (aheadB v w) := by
  have nn := nonneg_getD hw
  constructor
  · intro a b hab
    unfold aheadB at hab ⊢
    have na := nn a
    have nb := nn b
    by_cases b0 : w.getD b 0 = 0
    · rw [if_pos b0] at hab; cases hab
    · rw [if_neg b0] at hab
      by_cases a0 : w.getD a 0 = 0
      · rw [if_pos a0]
      · rw [if_neg a0] at hab
        rw [if_neg a0, if_neg b0]
        have := of_decide_eq_true hab
        exact decide_eq_false (by omega)
  · intro a b c hac
    unfold aheadB at hac ⊢
    have na := nn a
    have nb := nn b
    have nc := nn c
    by_cases c0 : w.getD c 0 = 0
    · rw [if_pos c0] at hac; cases hac
    · rw [if_neg c0] at hac
      rw [if_neg c0]
      by_cases b0 : w.getD b 0 = 0
      · right; rw [if_pos b0]
      · rw [if_neg b0, if_neg b0]
        by_cases a0 : w.getD a 0 = 0
        · left; rw [if_pos a0]
        · rw [if_neg a0] at hac ⊢
          have h1 := of_decide_eq_true hac
          generalize v.getD a 0 = va at *
          generalize v.getD b 0 = vb at *
          generalize v.getD c 0 = vc at *
          generalize w.getD a 0 = wa at *
          generalize w.getD b 0 = wb at *
          generalize w.getD c 0 = wc at *
          by_cases h2 : vb * wa < va * wb
          · left; exact decide_eq_true h2
          · right
            refine decide_eq_true ?_
            have h3 : va * wb ≤ vb * wa := by omega
            have h4 : wb * (vc * wa) < wb * (va * wc) := Int.mul_lt_mul_of_pos_left h1 (by omega)
            have h5 : wc * (va * wb) ≤ wc * (vb * wa) := Int.mul_le_mul_of_nonneg_left h3 nc
            have e1 : wb * (vc * wa) = wa * (vc * wb) := by rw [Int.mul_comm vc wa, ← Int.mul_assoc, Int.mul_comm wb wa, Int.mul_assoc, Int.mul_comm wb vc]
            have e2 : wb * (va * wc) = wc * (va * wb) := by rw [Int.mul_comm va wc, ← Int.mul_assoc, Int.mul_comm wb wc, Int.mul_assoc, Int.mul_comm wb va]
            have e3 : wc * (vb * wa) = wa * (vb * wc) := by rw [Int.mul_comm vb wa, ← Int.mul_assoc, Int.mul_comm wc wa, Int.mul_assoc, Int.mul_comm wc vb]
            rw [e1, e2] at h4
            rw [e3] at h5
            exact Int.lt_of_mul_lt_mul_left (Int.lt_of_lt_of_le h4 h5) na

/-- the items' order -/
def ratioP (v w : List Int) : List Nat := msortP (aheadB v w) v.length (List.range v.length)
theorem ratioP_perm (v w : List Int) : (ratioP v w).Perm (List.range v.length) := msortP_perm _ _ _
theorem ratioP_len (v w : List Int) : (ratioP v w).length = v.length := by rw [(ratioP_perm v w).length_eq, List.length_range]
theorem ratioP_sorted {v w : List Int} (hw : ∀ x ∈ w, 0 ≤ x) : (ratioP v w).Pairwise (strictly (aheadB v w)) :=
  msortP_sorted (aheadB_weak hw) _ _ (by simp) List.pairwise_lt_range
theorem ratioP_nodup (v w : List Int) : (ratioP v w).Nodup := (ratioP_perm v w).nodup_iff.2 List.nodup_range
theorem ratioP_mem {v w : List Int} {a : Nat} : a ∈ ratioP v w ↔ a < v.length := by rw [(ratioP_perm v w).mem_iff, List.mem_range]
theorem ratioP_lt {v w : List Int} {k a : Nat} (h : (ratioP v w)[k]? = some a) : a < v.length := ratioP_mem.1 (List.mem_of_getElem? h)
end Go.Proofs.Ytleckhbmciiooaa
namespace Go.Proofs.Ytleckhbmciiooaa

/-- the document's word: does item a stand ahead of item b? -/
def betterB (v w : List Int) (a b : Nat) : Bool :=
  if w.getD a 0 = 0 ∨ w.getD b 0 = 0 then decide (w.getD a 0 = 0) && (decide (w.getD b 0 ≠ 0) || decide (a < b))
  else decide (v.getD b 0 * w.getD a 0 < v.getD a 0 * w.getD b 0) || (decide (v.getD a 0 * w.getD b 0 = v.getD b 0 * w.getD a 0) && decide (a < b))
theorem betterB_iff (v w : List Int) (a b : Nat) : betterB v w a b = true ↔ strictly (aheadB v w) a b := by
  unfold betterB strictly aheadB
  generalize v.getD a 0 = va
  generalize v.getD b 0 = vb
  generalize w.getD a 0 = wa
  generalize w.getD b 0 = wb
  by_cases a0 : wa = 0
  · subst a0
    by_cases b0 : wb = 0
    · subst b0; simp
    · simp [b0]
  · by_cases b0 : wb = 0
    · subst b0; simp [a0]
    · rw [if_neg (by simp [a0, b0]), if_neg b0, if_neg a0, if_neg a0, if_neg b0]
      simp only [Bool.or_eq_true, Bool.and_eq_true, decide_eq_true_eq, decide_eq_false_iff_not]
      generalize vb * wa = x
      generalize va * wb = y
      omega
/-- how many of the first m stand ahead of item a -/
def aheads (v w : List Int) (a m : Nat) : Nat := (List.range m).countP (fun b => decide (b ≠ a) && betterB v w b a)
theorem aheads_succ (v w : List Int) (a m : Nat) : aheads v w a (m + 1) = aheads v w a m + if (decide (m ≠ a) && betterB v w m a) = true then 1 else 0 := by
  unfold aheads
  rw [List.range_succ, List.countP_append]
  simp [List.countP_cons]
theorem aheads_le (v w : List Int) (a m : Nat) : aheads v w a m ≤ m := by
  have := List.countP_le_length (p := fun b => decide (b ≠ a) && betterB v w b a) (l := List.range m)
  rwa [List.length_range] at this
theorem count_at {R : Nat → Nat → Prop} {p : Nat → Bool} : ∀ {l : List Nat} {k a : Nat}, (∀ x y, R x y → ¬ R y x) → (∀ x, ¬ R x x) → l.Pairwise R → l[k]? = some a → (∀ b, p b = true ↔ R b a) → l.countP p = k
  | [], k, a, _, _, _, h, _ => by simp at h
  | x :: l, 0, a, ha, hi, hp, h, hr => by
    simp at h
    subst h
    have hp' := List.pairwise_cons.1 hp
    rw [List.countP_cons, if_neg (fun h => hi _ ((hr _).1 h)), Nat.add_zero, List.countP_eq_zero]
    intro b hb h
    exact ha _ _ (hp'.1 b hb) ((hr b).1 h)
  | x :: l, k + 1, a, ha, hi, hp, h, hr => by
    have hp' := List.pairwise_cons.1 hp
    rw [List.getElem?_cons_succ] at h
    rw [List.countP_cons, if_pos ((hr _).2 (hp'.1 a (List.mem_of_getElem? h))), count_at ha hi hp'.2 h hr]
theorem aheads_at {v w : List Int} (hw : ∀ x ∈ w, 0 ≤ x) {k a : Nat} (h : (ratioP v w)[k]? = some a) : aheads v w a v.length = k := by
  have W := aheadB_weak (v := v) hw
  unfold aheads
  rw [← (ratioP_perm v w).countP_eq]
  refine count_at (R := strictly (aheadB v w)) (fun x y h1 h2 => W.asymm h1 h2) W.irrefl (ratioP_sorted hw) h fun b => ?_
  rw [Bool.and_eq_true, betterB_iff]
  constructor
  · exact fun h => h.2
  · intro h
    refine ⟨decide_eq_true ?_, h⟩
    rintro rfl
    exact W.irrefl _ h
/-- each at its place -/
def placeL (f : Nat → Nat) (n : Nat) : Nat → List Int
  | 0 => List.replicate n 0
  | m + 1 => (placeL f n m).set (f m) (m : Int)
theorem placeL_len (f : Nat → Nat) (n : Nat) : ∀ m, (placeL f n m).length = n
  | 0 => by simp [placeL]
  | m + 1 => by simp [placeL, placeL_len f n m]
theorem placeL_at {f : Nat → Nat} {n : Nat} (hf : ∀ a b, a < n → b < n → f a = f b → a = b) (hn : ∀ a, a < n → f a < n) : ∀ m, m ≤ n → ∀ a, a < m → (placeL f n m)[f a]? = some (a : Int)
  | 0, _, a, h => by omega
  | m + 1, hm, a, h => by
    unfold placeL
    by_cases ham : a = m
    · subst ham
      rw [List.getElem?_set_self (by rw [placeL_len]; exact hn a (by omega))]
    · rw [List.getElem?_set_ne (fun h' => ham (hf a m (by omega) (by omega) h'.symm)), placeL_at hf hn m (by omega) a (by omega)]
/-- the order by counting is the order by merging -/
theorem place_ratio {v w : List Int} (hw : ∀ x ∈ w, 0 ≤ x) : placeL (fun a => aheads v w a v.length) v.length v.length = (ratioP v w).map (fun n : Nat => (n : Int)) := by
  have at' : ∀ a, a < v.length → ∃ k, (ratioP v w)[k]? = some a ∧ aheads v w a v.length = k ∧ k < v.length := fun a ha => by
    obtain ⟨k, hk, e⟩ := List.mem_iff_getElem.1 (ratioP_mem (v := v) (w := w) |>.2 ha)
    have e' : (ratioP v w)[k]? = some a := by rw [List.getElem?_eq_getElem hk, e]
    exact ⟨k, e', aheads_at hw e', by rwa [ratioP_len] at hk⟩
  have inj : ∀ a b, a < v.length → b < v.length → aheads v w a v.length = aheads v w b v.length → a = b := fun a b ha hb h => by
    obtain ⟨k, h1, h2, _⟩ := at' a ha
    obtain ⟨j, h3, h4, _⟩ := at' b hb
    have : k = j := by omega
    subst this
    rw [h1] at h3
    exact Option.some.inj h3
  refine List.ext_getElem? fun k => ?_
  by_cases hk : k < v.length
  · have hk' : k < (ratioP v w).length := by rw [ratioP_len]; exact hk
    have e : (ratioP v w)[k]? = some (ratioP v w)[k] := List.getElem?_eq_getElem hk'
    have h1 := aheads_at hw e
    have h2 := placeL_at (f := fun a => aheads v w a v.length) inj (fun a ha => by obtain ⟨_, _, _, _⟩ := at' a ha; omega) v.length (Nat.le_refl _) _ (ratioP_lt e)
    simp only [h1] at h2
    rw [h2, List.getElem?_map, e]
    rfl
  · rw [List.getElem?_eq_none (by rw [placeL_len]; omega), List.getElem?_eq_none (by rw [List.length_map, ratioP_len]; omega)]
end Go.Proofs.Ytleckhbmciiooaa
namespace Go.Proofs.Ytleckhbmciiooaa

/-- the room that is left, the values that are left out -/
def stP (room out : Int) : List Int → List Int → List Int → Option (Int × Int)
  | _, _, [] => some (room, out)
  | w :: ws, v :: vs, x :: p => if x = 1 then (if room - w < 0 then none else stP (room - w) out ws vs p) else if x = 0 then (if room < 0 then none else stP room (out + v) ws vs p) else none
  | _, _, _ :: _ => none
/-- what the rest may bring at most -/
def bringsP (room : Int) : List Int → List Int → Int
  | w :: ws, v :: vs => if room < w then v * room / w else v + bringsP (room - w) ws vs
  | _, _ => 0
def sumL : List Int → Int
  | [] => 0
  | x :: l => x + sumL l
def kidsP (cap : Int) (ws vs p : List Int) : List Int × Int :=
  match stP cap 0 ws vs p with
  | none => ([], 1)
  | some (room, _) => match ws.drop p.length with
    | [] => ([], 0)
    | w :: _ => if w ≤ room then ([1, 0], 0) else ([0], 0)
def boundP (cap : Int) (ws vs p : List Int) : Int × Int :=
  match stP cap 0 ws vs p with
  | none => (0, 1)
  | some (room, out) => (out + sumL (vs.drop p.length) - bringsP room (ws.drop p.length) (vs.drop p.length), 0)
theorem stP_long {ws vs : List Int} : ∀ {p : List Int} {room out : Int}, ws.length < p.length → stP room out ws vs p = none := by
  induction ws generalizing vs with
  | nil =>
    intro p room out h
    cases p with
    | nil => simp at h
    | cons x p => rfl
  | cons w ws ih =>
    intro p room out h
    cases p with
    | nil => simp at h
    | cons x p =>
      cases vs with
      | nil => rfl
      | cons v vs =>
        have h' : ws.length < p.length := by simpa using h
        unfold stP
        rw [ih h', ih h']
        split <;> (try split) <;> (try split) <;> rfl
/-- what is left of the room is some, and no more than ahead -/
theorem stP_room {ws vs : List Int} : ∀ {p : List Int} {room out r o : Int}, (∀ x ∈ ws, 0 ≤ x) → 0 ≤ room → stP room out ws vs p = some (r, o) → 0 ≤ r ∧ r ≤ room := by
  induction ws generalizing vs with
  | nil =>
    intro p room out r o _ h0 h
    cases p with
    | nil => simp [stP] at h; omega
    | cons x p => simp [stP] at h
  | cons w ws ih =>
    intro p room out r o hw h0 h
    cases p with
    | nil => simp [stP] at h; omega
    | cons x p =>
      cases vs with
      | nil => simp [stP] at h
      | cons v vs =>
        unfold stP at h
        have hw0 : 0 ≤ w := hw w (by simp)
        have hw' : ∀ x ∈ ws, 0 ≤ x := fun x hx => hw x (by simp [hx])
        split at h
        · split at h
          · cases h
          · have := ih hw' (by omega) h; omega
        · split at h
          · split at h
            · cases h
            · exact ih hw' h0 h
          · cases h
theorem stP_out {ws vs : List Int} : ∀ {p : List Int} {room out r o : Int}, (∀ x ∈ vs, 0 ≤ x ∧ x ≤ 2147483647) → stP room out ws vs p = some (r, o) → out ≤ o ∧ o ≤ out + 2147483647 * p.length := by
  induction ws generalizing vs with
  | nil =>
    intro p room out r o _ h
    cases p with
    | nil => simp [stP] at h; simp; omega
    | cons x p => simp [stP] at h
  | cons w ws ih =>
    intro p room out r o hv h
    cases p with
    | nil => simp [stP] at h; simp; omega
    | cons x p =>
      cases vs with
      | nil => simp [stP] at h
      | cons v vs =>
        unfold stP at h
        have hv0 := hv v (by simp)
        have hv' : ∀ x ∈ vs, 0 ≤ x ∧ x ≤ 2147483647 := fun x hx => hv x (by simp [hx])
        simp only [List.length_cons, Int.natCast_add, Int.natCast_one]
        split at h
        · split at h
          · cases h
          · have := ih hv' h; omega
        · split at h
          · split at h
            · cases h
            · have := ih hv' h; omega
          · cases h
/-- a beginning's beginning -/
theorem stP_app {ws vs : List Int} : ∀ {p q : List Int} {room out : Int}, stP room out ws vs (p ++ q) = (stP room out ws vs p).bind fun (r, o) => stP r o (ws.drop p.length) (vs.drop p.length) q := by
  induction ws generalizing vs with
  | nil =>
    intro p q room out
    cases p with
    | nil => simp [stP]
    | cons x p => simp [stP]
  | cons w ws ih =>
    intro p q room out
    cases p with
    | nil => simp [stP]
    | cons x p =>
      cases vs with
      | nil => simp [stP]
      | cons v vs =>
        simp only [List.cons_append, stP, List.length_cons, List.drop_succ_cons]
        rw [ih, ih]
        split <;> (try split) <;> (try split) <;> rfl

theorem bringsP_nonneg : ∀ {ws vs : List Int} {room : Int}, 0 ≤ room → (∀ x ∈ ws, 0 ≤ x) → (∀ x ∈ vs, 0 ≤ x) → 0 ≤ bringsP room ws vs
  | [], vs, room, _, _, _ => by cases vs <;> simp [bringsP]
  | w :: ws, [], room, _, _, _ => by simp [bringsP]
  | w :: ws, v :: vs, room, h0, hw, hv => by
    unfold bringsP
    have hv0 := hv v (by simp)
    have hw0 := hw w (by simp)
    split
    · exact Int.ediv_nonneg (Int.mul_nonneg hv0 h0) hw0
    · have := bringsP_nonneg (ws := ws) (vs := vs) (room := room - w) (by omega) (fun x hx => hw x (by simp [hx])) (fun x hx => hv x (by simp [hx]))
      omega
theorem sumL_nonneg : ∀ {vs : List Int}, (∀ x ∈ vs, 0 ≤ x) → 0 ≤ sumL vs
  | [], _ => by simp [sumL]
  | v :: vs, hv => by
    have := hv v (by simp)
    have := sumL_nonneg (vs := vs) fun x hx => hv x (by simp [hx])
    simp only [sumL]
    omega
theorem bringsP_le : ∀ {ws vs : List Int} {room : Int}, 0 ≤ room → (∀ x ∈ ws, 0 ≤ x) → (∀ x ∈ vs, 0 ≤ x) → bringsP room ws vs ≤ sumL vs
  | [], vs, room, _, _, hv => by
    have : 0 ≤ sumL vs := sumL_nonneg hv
    cases vs <;> simpa [bringsP] using this
  | w :: ws, [], room, _, _, _ => by simp [bringsP, sumL]
  | w :: ws, v :: vs, room, h0, hw, hv => by
    unfold bringsP sumL
    have hv0 := hv v (by simp)
    have hw0 := hw w (by simp)
    have hs : 0 ≤ sumL vs := sumL_nonneg fun x hx => hv x (by simp [hx])
    split
    · rename_i h
      have h1 : v * room ≤ v * w := Int.mul_le_mul_of_nonneg_left (by omega) hv0
      have h2 : v * room / w ≤ v * w / w := Int.ediv_le_ediv (by omega) h1
      rw [Int.mul_ediv_cancel _ (by omega)] at h2
      omega
    · have := bringsP_le (ws := ws) (vs := vs) (room := room - w) (by omega) (fun x hx => hw x (by simp [hx])) (fun x hx => hv x (by simp [hx]))
      omega
/-- of a list of items none brings more for its weight than w0, v0 -/
def Under (w0 v0 : Int) : List Int → List Int → Prop
  | w :: ws, v :: vs => v * w0 ≤ v0 * w ∧ Under w0 v0 ws vs
  | _, _ => True
/-- sorted: each is no better than those ahead -/
def Falls : List Int → List Int → Prop
  | w :: ws, v :: vs => Under w v ws vs ∧ Falls ws vs
  | _, _ => True
theorem brings_under {w0 v0 : Int} (h0 : 0 ≤ w0) : ∀ {ws vs : List Int} {room : Int}, 0 ≤ room → 0 ≤ v0 → (∀ x ∈ ws, 0 ≤ x) → (∀ x ∈ vs, 0 ≤ x) → Under w0 v0 ws vs → w0 * bringsP room ws vs ≤ v0 * room
  | [], vs, room, hr, hv0, _, _, _ => by
    have : 0 ≤ v0 * room := Int.mul_nonneg hv0 hr
    cases vs <;> simpa [bringsP] using this
  | w :: ws, [], room, hr, hv0, _, _, _ => by
    have : 0 ≤ v0 * room := Int.mul_nonneg hv0 hr
    simpa [bringsP] using this
  | w :: ws, v :: vs, room, hr, hv0, hw, hv, hu => by
    unfold bringsP
    have hw0 := hw w (by simp)
    have hvv := hv v (by simp)
    obtain ⟨hu1, hu2⟩ := hu
    split
    · rename_i hlt
      have hpos : 0 < w := by omega
      have h1 : v * room / w * w ≤ v * room := Int.ediv_mul_le _ (by omega)
      have h2 : w0 * (v * room / w * w) ≤ w0 * (v * room) := Int.mul_le_mul_of_nonneg_left h1 h0
      have h3 : room * (v * w0) ≤ room * (v0 * w) := Int.mul_le_mul_of_nonneg_left hu1 hr
      have e1 : w0 * (v * room / w * w) = w * (w0 * (v * room / w)) := by rw [Int.mul_comm (v * room / w) w, ← Int.mul_assoc, Int.mul_comm w0 w, Int.mul_assoc]
      have e2 : w0 * (v * room) = room * (v * w0) := by rw [← Int.mul_assoc, Int.mul_comm (w0 * v) room, Int.mul_comm w0 v]
      have e3 : room * (v0 * w) = w * (v0 * room) := by rw [← Int.mul_assoc, Int.mul_comm (room * v0) w, Int.mul_comm room v0]
      rw [e1, e2] at h2
      rw [e3] at h3
      exact Int.le_of_mul_le_mul_left (Int.le_trans h2 h3) hpos
    · have ih := brings_under h0 (ws := ws) (vs := vs) (room := room - w) (by omega) hv0 (fun x hx => hw x (by simp [hx])) (fun x hx => hv x (by simp [hx])) hu2
      rw [Int.mul_add, Int.mul_comm w0 v]
      rw [Int.mul_sub] at ih
      omega
theorem brings_more {w0 v0 : Int} (h0 : 0 ≤ w0) : ∀ {ws vs : List Int} {room : Int}, w0 ≤ room → 0 ≤ v0 → (∀ x ∈ ws, 0 ≤ x) → (∀ x ∈ vs, 0 ≤ x) → Under w0 v0 ws vs → Falls ws vs → bringsP room ws vs ≤ v0 + bringsP (room - w0) ws vs
  | [], vs, room, hr, hv0, _, _, _, _ => by cases vs <;> simpa [bringsP] using hv0
  | w :: ws, [], room, hr, hv0, _, _, _, _ => by simpa [bringsP] using hv0
  | w :: ws, v :: vs, room, hr, hv0, hw, hv, hu, hf => by
    have hw0 := hw w (by simp)
    have hvv := hv v (by simp)
    obtain ⟨hu1, hu2⟩ := hu
    obtain ⟨hf1, hf2⟩ := hf
    have hw' : ∀ x ∈ ws, 0 ≤ x := fun x hx => hw x (by simp [hx])
    have hv' : ∀ x ∈ vs, 0 ≤ x := fun x hx => hv x (by simp [hx])
    simp only [bringsP]
    by_cases a1 : room < w
    · rw [if_pos a1, if_pos (by omega)]
      have hpos : 0 < w := by omega
      have e : v * room ≤ v * (room - w0) + v0 * w := by rw [Int.mul_sub]; omega
      have h1 : v * room / w ≤ (v * (room - w0) + v0 * w) / w := Int.ediv_le_ediv hpos e
      rw [Int.add_mul_ediv_right _ _ (by omega)] at h1
      omega
    · rw [if_neg a1]
      by_cases a2 : room - w0 < w
      · rw [if_pos a2]
        have hpos : 0 < w := by omega
        have h1 := brings_under hw0 (ws := ws) (vs := vs) (room := room - w) (by omega) hvv hw' hv' hf1
        have h2 : v + bringsP (room - w) ws vs - v0 ≤ v * (room - w0) / w := by
          rw [Int.le_ediv_iff_mul_le hpos]
          rw [Int.mul_comm, Int.mul_sub, Int.mul_add, Int.mul_sub]
          rw [Int.mul_sub] at h1
          rw [Int.mul_comm w v, Int.mul_comm w v0]
          omega
        omega
      · rw [if_neg a2]
        have ih := brings_more h0 (ws := ws) (vs := vs) (room := room - w) (by omega) hv0 hw' hv' hu2 hf2
        have e : room - w - w0 = room - w0 - w := by omega
        rw [e] at ih
        omega
/-- one more item that is no worse than the others brings no less -/
theorem brings_front {w v : Int} {ws vs : List Int} {room : Int} (hr : 0 ≤ room) (hw : ∀ x ∈ w :: ws, 0 ≤ x) (hv : ∀ x ∈ v :: vs, 0 ≤ x) (hf : Falls (w :: ws) (v :: vs)) : bringsP room ws vs ≤ bringsP room (w :: ws) (v :: vs) := by
  have hw0 := hw w (by simp)
  have hv0 := hv v (by simp)
  have hw' : ∀ x ∈ ws, 0 ≤ x := fun x hx => hw x (by simp [hx])
  have hv' : ∀ x ∈ vs, 0 ≤ x := fun x hx => hv x (by simp [hx])
  obtain ⟨hu, hf'⟩ := hf
  conv => rhs; unfold bringsP
  split
  · rename_i h
    have hpos : 0 < w := by omega
    have h1 := brings_under hw0 hr hv0 hw' hv' hu
    rw [Int.le_ediv_iff_mul_le hpos, Int.mul_comm]
    exact h1
  · exact brings_more hw0 (by omega) hv0 hw' hv' hu hf'
end Go.Proofs.Ytleckhbmciiooaa
namespace Go.Proofs.Ytleckhbmciiooaa

def inOrder (l : List Nat) (v : List Int) : List Int := l.map fun n => v.getD n 0
theorem under_of {v w : List Int} {a : Nat} (hv : ∀ x ∈ v, 0 ≤ x) (hw : ∀ x ∈ w, 0 ≤ x) : ∀ {l : List Nat}, (∀ b ∈ l, strictly (aheadB v w) a b) → Under (w.getD a 0) (v.getD a 0) (inOrder l w) (inOrder l v)
  | [], _ => trivial
  | b :: l, h => by
    refine ⟨?_, under_of hv hw (l := l) fun c hc => h c (by simp [hc])⟩
    have hb := h b (by simp)
    have h2 : aheadB v w b a = false := by
      rcases hb with hb | ⟨hb, _⟩
      · exact (aheadB_weak hw).asym _ _ hb
      · exact hb
    unfold aheadB at h2
    have va := nonneg_getD hv a
    have wa := nonneg_getD hw a
    have wb := nonneg_getD hw b
    by_cases a0 : w.getD a 0 = 0
    · rw [a0, Int.mul_zero]; exact Int.mul_nonneg va wb
    · rw [if_neg a0] at h2
      by_cases b0 : w.getD b 0 = 0
      · rw [if_pos b0] at h2; cases h2
      · rw [if_neg b0] at h2
        have := of_decide_eq_false h2
        show v.getD b 0 * w.getD a 0 ≤ v.getD a 0 * w.getD b 0
        omega
theorem falls_of {v w : List Int} (hv : ∀ x ∈ v, 0 ≤ x) (hw : ∀ x ∈ w, 0 ≤ x) : ∀ {l : List Nat}, l.Pairwise (strictly (aheadB v w)) → Falls (inOrder l w) (inOrder l v)
  | [], _ => trivial
  | a :: l, h => by
    have h' := List.pairwise_cons.1 h
    exact ⟨under_of hv hw h'.1, falls_of hv hw h'.2⟩
theorem falls_ratio {v w : List Int} (hv : ∀ x ∈ v, 0 ≤ x) (hw : ∀ x ∈ w, 0 ≤ x) : Falls (inOrder (ratioP v w) w) (inOrder (ratioP v w) v) := falls_of hv hw (ratioP_sorted hw)
theorem Falls.drop : ∀ {k : Nat} {ws vs : List Int}, Falls ws vs → Falls (ws.drop k) (vs.drop k)
  | 0, ws, vs, h => h
  | k + 1, [], vs, h => by simp [Falls]
  | k + 1, w :: ws, [], h => by simp [Falls]
  | k + 1, w :: ws, v :: vs, h => by rw [List.drop_succ_cons, List.drop_succ_cons]; exact Falls.drop h.2
/-- the least cost of all answers behind a state -/
def bestP (room out : Int) : List Int → List Int → Int
  | w :: ws, v :: vs => if w ≤ room then (if bestP room (out + v) ws vs < bestP (room - w) out ws vs then bestP room (out + v) ws vs else bestP (room - w) out ws vs) else bestP room (out + v) ws vs
  | _, _ => out
theorem bestP_ge : ∀ {ws vs : List Int} {room out : Int}, 0 ≤ room → (∀ x ∈ ws, 0 ≤ x) → (∀ x ∈ vs, 0 ≤ x) → ws.length = vs.length → Falls ws vs → out + sumL vs - bringsP room ws vs ≤ bestP room out ws vs
  | [], [], room, out, _, _, _, _, _ => by simp [sumL, bringsP, bestP]
  | [], _ :: _, _, _, _, _, _, h, _ => by simp at h
  | _ :: _, [], _, _, _, _, _, h, _ => by simp at h
  | w :: ws, v :: vs, room, out, h0, hw, hv, hl, hf => by
    have hfr := brings_front h0 hw hv hf
    have hw' : ∀ x ∈ ws, 0 ≤ x := fun x hx => hw x (by simp [hx])
    have hv' : ∀ x ∈ vs, 0 ≤ x := fun x hx => hv x (by simp [hx])
    have hl' : ws.length = vs.length := by simpa using hl
    have h1 := bestP_ge (out := out + v) h0 hw' hv' hl' hf.2
    unfold bestP
    simp only [sumL]
    split
    · rename_i hle
      have h2 := bestP_ge (room := room - w) (out := out) (by omega) hw' hv' hl' hf.2
      have e : bringsP room (w :: ws) (v :: vs) = v + bringsP (room - w) ws vs := by rw [bringsP, if_neg (by omega)]
      rw [e] at hfr ⊢
      split <;> omega
    · omega
theorem bestP_nonneg : ∀ {ws vs : List Int} {room out : Int}, 0 ≤ out → (∀ x ∈ vs, 0 ≤ x) → 0 ≤ bestP room out ws vs
  | [], vs, room, out, h, _ => by cases vs <;> simpa [bestP] using h
  | w :: ws, [], room, out, h, _ => by simpa [bestP] using h
  | w :: ws, v :: vs, room, out, h, hv => by
    have hv0 := hv v (by simp)
    have hv' : ∀ x ∈ vs, 0 ≤ x := fun x hx => hv x (by simp [hx])
    have h1 := bestP_nonneg (ws := ws) (vs := vs) (room := room) (out := out + v) (by omega) hv'
    have h2 := bestP_nonneg (ws := ws) (vs := vs) (room := room - w) (out := out) h hv'
    unfold bestP
    split
    · split <;> assumption
    · assumption
theorem sumL_perm {a b : List Int} (h : a.Perm b) : sumL a = sumL b := by
  induction h with
  | nil => rfl
  | cons x _ ih => simp [sumL, ih]
  | swap x y l => simp [sumL]; omega
  | trans _ _ h1 h2 => rw [h1, h2]
theorem sumL_app (a b : List Int) : sumL (a ++ b) = sumL a + sumL b := by
  induction a with
  | nil => simp [sumL]
  | cons x a ih => simp [sumL, ih]; omega
/-- what is taken weighs, and what is left is worth, by the beginning -/
theorem stP_sums : ∀ {ws vs p : List Int} {room out r o : Int}, ws.length = p.length → vs.length = p.length → stP room out ws vs p = some (r, o) →
    r = room - sumL (List.zipWith (fun x w => if x = 1 then w else 0) p ws) ∧ o = out + sumL (List.zipWith (fun x v => if x = 1 then 0 else v) p vs) ∧ ∀ x ∈ p, x = 0 ∨ x = 1
  | [], [], [], room, out, r, o, _, _, h => by
    simp [stP] at h
    simp [sumL, h]
  | w :: ws, v :: vs, x :: p, room, out, r, o, h1, h2, h => by
    unfold stP at h
    simp only [List.zipWith_cons_cons, sumL]
    split at h
    · rename_i hx
      split at h
      · cases h
      · obtain ⟨a, b, c⟩ := stP_sums (by simpa using h1) (by simpa using h2) h
        rw [if_pos hx, if_pos hx]
        refine ⟨by omega, by omega, fun y hy => ?_⟩
        rcases List.mem_cons.1 hy with rfl | hy
        · exact .inr hx
        · exact c y hy
    · rename_i hx
      split at h
      · rename_i hx0
        split at h
        · cases h
        · obtain ⟨a, b, c⟩ := stP_sums (by simpa using h1) (by simpa using h2) h
          rw [if_neg hx, if_neg hx]
          refine ⟨by omega, by omega, fun y hy => ?_⟩
          rcases List.mem_cons.1 hy with rfl | hy
          · exact .inl hx0
          · exact c y hy
      · cases h
  | [], _, _ :: _, _, _, _, _, h, _, _ => by simp at h
  | _ :: _, _, [], _, _, _, _, h, _, _ => by simp at h
  | [], _ :: _, [], _, _, _, _, _, h, _ => by simp at h
  | _ :: _, [], _ :: _, _, _, _, _, _, h, _ => by simp at h
/-- the answer of a whole beginning: each item's number -/
def ansP (l : List Nat) (p : List Int) : Nat → List Int
  | 0 => List.replicate l.length 0
  | k + 1 => (ansP l p k).set (l.getD k 0) (p.getD k 0)
theorem ansP_len (l : List Nat) (p : List Int) : ∀ k, (ansP l p k).length = l.length
  | 0 => by simp [ansP]
  | k + 1 => by simp [ansP, ansP_len l p k]
theorem ansP_at {l : List Nat} {p : List Int} (hn : l.Nodup) (hl : ∀ a ∈ l, a < l.length) : ∀ k, k ≤ l.length → ∀ j, j < k → (ansP l p k)[l.getD j 0]? = some (p.getD j 0)
  | 0, _, j, h => by omega
  | k + 1, hk, j, h => by
    unfold ansP
    have ek : l.getD k 0 = l[k] := by simp [List.getD, List.getElem?_eq_getElem (show k < l.length by omega)]
    have ej : l.getD j 0 = l[j] := by simp [List.getD, List.getElem?_eq_getElem (show j < l.length by omega)]
    by_cases hj : j = k
    · subst hj
      rw [List.getElem?_set_self (by rw [ansP_len, ek]; exact hl _ (List.getElem_mem _))]
    · have hne : l.getD k 0 ≠ l.getD j 0 := fun h' => hj (((List.getElem?_inj (i := j) (j := k) (by omega) hn).1 (by
        rw [List.getElem?_eq_getElem (show k < l.length by omega), List.getElem?_eq_getElem (show j < l.length by omega), ← ek, ← ej, h'])))
      rw [List.getElem?_set_ne hne, ansP_at hn hl k (by omega) j (by omega)]
end Go.Proofs.Ytleckhbmciiooaa
namespace Go.Proofs.Ytleckhbmciiooaa

/-- the weights taken and the values left of an answer -/
def takenL (x ws : List Int) : Int := sumL (List.zipWith (fun x w => if x = 1 then w else 0) x ws)
def leftL (x vs : List Int) : Int := sumL (List.zipWith (fun x v => if x = 1 then 0 else v) x vs)
theorem sumZip_take (f : Int → Int → Int) : ∀ (k : Nat) (x ws : List Int) {v u : Int}, x[k]? = some v → ws[k]? = some u → sumL (List.zipWith f (x.take (k + 1)) ws) = sumL (List.zipWith f (x.take k) ws) + f v u
  | 0, _ :: _, _ :: _, _, _, h1, h2 => by
    simp only [List.getElem?_cons_zero, Option.some.injEq] at h1 h2
    subst h1 h2
    simp [sumL]
  | k + 1, _ :: x, _ :: ws, v, u, h1, h2 => by
    have h := sumZip_take f k x ws (v := v) (u := u) (by simpa using h1) (by simpa using h2)
    simp only [List.take_succ_cons, List.zipWith_cons_cons, sumL] at h ⊢
    omega
  | _, [], _, _, _, h1, _ => by simp at h1
  | _, _ :: _, [], _, _, _, h2 => by simp at h2
/-- the answer's worth: the price and the error -/
def costP (cap : Int) (ws vs x : List Int) : Int × Int := if cap < takenL x ws then (0, 9) else (leftL x vs, 0)
theorem sumZip_range (f : Int → Int → Int) (x w : List Int) (h : x.length = w.length) : List.zipWith f x w = (List.range x.length).map fun j => f (x.getD j 0) (w.getD j 0) := by
  apply List.ext_getElem
  · simp [h]
  · intro k h1 h2
    have k1 : k < x.length := by simp at h2; omega
    have k2 : k < w.length := by omega
    simp [List.getD, List.getElem?_eq_getElem k1, List.getElem?_eq_getElem k2]
theorem sumZip_order (f : Int → Int → Int) {l : List Nat} {n : Nat} (hp : l.Perm (List.range n)) {p w : List Int} (lp : p.length = n) (lw : w.length = n) :
    sumL (List.zipWith f (ansP l p n) w) = sumL (List.zipWith f p (inOrder l w)) := by
  have hl : l.length = n := by rw [hp.length_eq, List.length_range]
  have hnd : l.Nodup := hp.nodup_iff.2 List.nodup_range
  have hlt : ∀ a ∈ l, a < l.length := fun a ha => by rw [hl]; exact List.mem_range.1 (hp.mem_iff.1 ha)
  have la : (ansP l p n).length = n := by rw [ansP_len, hl]
  rw [sumZip_range f _ w (by rw [la, lw]), la, ← sumL_perm (hp.map _), sumZip_range f p (inOrder l w) (by simp [inOrder, lp, hl]), lp]
  congr 1
  apply List.ext_getElem
  · simp [hl]
  · intro k h1 h2
    have hk : k < l.length := by simpa using h1
    have hk' : k < n := by omega
    simp only [List.getElem_map, List.getElem_range]
    have e1 : (ansP l p n).getD (l[k]) 0 = p.getD k 0 := by
      have h := ansP_at (p := p) hnd hlt n (by omega) k hk'
      have ek : l.getD k 0 = l[k] := by simp [List.getD, List.getElem?_eq_getElem hk]
      rw [ek] at h
      simp [List.getD, h]
    have e2 : (inOrder l w).getD k 0 = w.getD (l[k]) 0 := by
      unfold inOrder
      simp [List.getD, List.getElem?_map, List.getElem?_eq_getElem hk]
    rw [e1, e2]
theorem ansP_01 {l : List Nat} {p : List Int} (h : ∀ x ∈ p, x = 0 ∨ x = 1) : ∀ k, ∀ x ∈ ansP l p k, x = 0 ∨ x = 1
  | 0, x, hx => .inl (List.eq_of_mem_replicate hx)
  | k + 1, x, hx => by
    rcases List.mem_or_eq_of_mem_set hx with h1 | h1
    · exact ansP_01 h k x h1
    · subst h1
      cases hv : p[k]? with
      | none => simp [List.getD, hv]
      | some y => simpa [List.getD, hv] using h y (List.mem_of_getElem? hv)
theorem cost_ans {cap : Int} {l : List Nat} {n : Nat} (hp : l.Perm (List.range n)) {p w v : List Int} (lp : p.length = n) (lw : w.length = n) (lv : v.length = n) (hw : ∀ x ∈ w, 0 ≤ x) (h0 : 0 ≤ cap) {r o : Int}
    (h : stP cap 0 (inOrder l w) (inOrder l v) p = some (r, o)) : costP cap w v (ansP l p n) = (o, 0) ∧ ∀ x ∈ ansP l p n, x = 0 ∨ x = 1 := by
  have hl : l.length = n := by rw [hp.length_eq, List.length_range]
  have hw' : ∀ x ∈ inOrder l w, 0 ≤ x := fun x hx => by
    obtain ⟨q, _, rfl⟩ := List.mem_map.1 hx
    exact nonneg_getD hw q
  obtain ⟨h1, h2, h3⟩ := stP_sums (by simp [inOrder, lp, hl]) (by simp [inOrder, lp, hl]) h
  have h4 := (stP_room hw' h0 h).1
  refine ⟨?_, ansP_01 h3 n⟩
  unfold costP takenL leftL
  rw [sumZip_order _ hp lp lw, sumZip_order _ hp lp lv, if_neg (by omega)]
  congr 1
  omega
/-- the least cost of the answers behind a beginning; -1: it is none -/
def bestAt (cap : Int) (ws vs p : List Int) : Int := match stP cap 0 ws vs p with
  | none => -1
  | some (r, o) => bestP r o (ws.drop p.length) (vs.drop p.length)
section
variable {cap : Int} {ws vs p ws' vs' : List Int} {r o w v : Int}
theorem drop_snoc {l l' p : List Int} {x y : Int} (h : l.drop p.length = x :: l') : l.drop (p ++ [y]).length = l' := by
  have h1 := congrArg List.tail h
  rw [List.tail_drop] at h1
  simpa using h1
theorem bestAt_of (h : stP cap 0 ws vs p = some (r, o)) : bestAt cap ws vs p = bestP r o (ws.drop p.length) (vs.drop p.length) := by unfold bestAt; rw [h]
theorem stP_snoc1 (h : stP cap 0 ws vs p = some (r, o)) (hw : ws.drop p.length = w :: ws') (hv : vs.drop p.length = v :: vs') (hle : w ≤ r) : stP cap 0 ws vs (p ++ [1]) = some (r - w, o) := by
  rw [stP_app, h]
  simp only [Option.bind_some, hw, hv, stP, if_true]
  rw [if_neg (by omega)]
theorem stP_snoc0 (h : stP cap 0 ws vs p = some (r, o)) (hw : ws.drop p.length = w :: ws') (hv : vs.drop p.length = v :: vs') (h0 : 0 ≤ r) : stP cap 0 ws vs (p ++ [0]) = some (r, o + v) := by
  rw [stP_app, h]
  simp only [Option.bind_some, hw, hv, stP, if_true]
  rw [if_neg (by decide), if_neg (by omega)]
theorem bestAt_1 (h : stP cap 0 ws vs p = some (r, o)) (hw : ws.drop p.length = w :: ws') (hv : vs.drop p.length = v :: vs') (hle : w ≤ r) : bestAt cap ws vs (p ++ [1]) = bestP (r - w) o ws' vs' := by
  rw [bestAt_of (stP_snoc1 h hw hv hle), drop_snoc hw, drop_snoc hv]
theorem bestAt_0 (h : stP cap 0 ws vs p = some (r, o)) (hw : ws.drop p.length = w :: ws') (hv : vs.drop p.length = v :: vs') (h0 : 0 ≤ r) : bestAt cap ws vs (p ++ [0]) = bestP r (o + v) ws' vs' := by
  rw [bestAt_of (stP_snoc0 h hw hv h0), drop_snoc hw, drop_snoc hv]
end
/-- the least one but -1 of what comes, by the loop's own words -/
def leastF (f : Int → Int) : Int → List Int → Int
  | b, [] => b
  | b, x :: l => leastF f (if b < 0 then f x else if f x < b then f x else b) l
theorem leastF_kids {cap : Int} {ws vs p : List Int} {r o : Int} (h : stP cap 0 ws vs p = some (r, o)) (h0 : 0 ≤ r) (hl : p.length < ws.length) (hlv : ws.length = vs.length) (hv0 : ∀ x ∈ vs, 0 ≤ x) (ho : 0 ≤ o) :
    leastF (fun x => bestAt cap ws vs (p ++ [x])) (-1) (kidsP cap ws vs p).1 = bestAt cap ws vs p := by
  obtain ⟨w, ws', hw⟩ : ∃ w ws', ws.drop p.length = w :: ws' := ⟨_, _, List.drop_eq_getElem_cons hl⟩
  obtain ⟨v, vs', hv⟩ : ∃ v vs', vs.drop p.length = v :: vs' := ⟨_, _, List.drop_eq_getElem_cons (by omega)⟩
  have hvs : ∀ x ∈ v :: vs', 0 ≤ x := fun x hx => hv0 x (List.mem_of_mem_drop (hv ▸ hx))
  have e := bestAt_of h
  rw [hw, hv] at e
  unfold kidsP
  rw [h, e]
  simp only [hw]
  have h2 := bestAt_0 h hw hv h0
  unfold bestP
  split
  · rename_i hle
    have h1 := bestAt_1 h hw hv hle
    have n1 : 0 ≤ bestP (r - w) o ws' vs' := bestP_nonneg ho fun x hx => hvs x (by simp [hx])
    simp only [leastF, h1, h2]
    rw [if_pos (show (-1 : Int) < 0 by decide), if_neg (show ¬ bestP (r - w) o ws' vs' < 0 by omega)]
  · simp only [leastF, h2]
    rw [if_pos (show (-1 : Int) < 0 by decide)]
theorem kids_fit {cap : Int} {ws vs p : List Int} {r o : Int} (h : stP cap 0 ws vs p = some (r, o)) (hl : p.length < ws.length) : (kidsP cap ws vs p).1.length ≤ 2 ∧ (kidsP cap ws vs p).2 = 0 := by
  obtain ⟨w, ws', hw⟩ : ∃ w ws', ws.drop p.length = w :: ws' := ⟨_, _, List.drop_eq_getElem_cons hl⟩
  unfold kidsP
  rw [h]
  simp only [hw]
  split <;> exact ⟨by simp, rfl⟩
/-- a bound is no number below nought, and none above the least cost -/
theorem bound_below {cap : Int} {ws vs p : List Int} (h0 : 0 ≤ cap) (hw : ∀ x ∈ ws, 0 ≤ x) (hv : ∀ x ∈ vs, 0 ≤ x ∧ x ≤ 2147483647) (hl : ws.length = vs.length) (hf : Falls ws vs) (he : (boundP cap ws vs p).2 = 0) :
    0 ≤ (boundP cap ws vs p).1 ∧ (boundP cap ws vs p).1 ≤ bestAt cap ws vs p := by
  unfold boundP at he ⊢
  cases hs : stP cap 0 ws vs p with
  | none => rw [hs] at he; simp at he
  | some q =>
    obtain ⟨r, o⟩ := q
    have h1 := (stP_room hw h0 hs).1
    have h2 := (stP_out hv hs).1
    have hw' : ∀ x ∈ ws.drop p.length, 0 ≤ x := fun x hx => hw x (List.mem_of_mem_drop hx)
    have hv' : ∀ x ∈ vs.drop p.length, 0 ≤ x := fun x hx => (hv x (List.mem_of_mem_drop hx)).1
    rw [bestAt_of hs]
    simp only
    have h3 := bringsP_le h1 hw' hv'
    have h4 := bestP_ge (out := o) h1 hw' hv' (by simp [hl]) hf.drop
    exact ⟨by omega, h4⟩
theorem bound_err (cap : Int) (ws vs p : List Int) : (boundP cap ws vs p).2 = 0 ∨ ((boundP cap ws vs p).2 = 1 ∧ stP cap 0 ws vs p = none) := by
  unfold boundP
  cases hs : stP cap 0 ws vs p with
  | none => exact .inr ⟨rfl, rfl⟩
  | some q => exact .inl rfl
/-- at a whole beginning -/
theorem whole_at {cap : Int} {ws vs p : List Int} {r o : Int} (h : stP cap 0 ws vs p = some (r, o)) (hl : p.length = ws.length) (hlv : ws.length = vs.length) : boundP cap ws vs p = (o, 0) ∧ bestAt cap ws vs p = o := by
  have d1 : ws.drop p.length = [] := List.drop_of_length_le (by omega)
  have d2 : vs.drop p.length = [] := List.drop_of_length_le (by omega)
  rw [bestAt_of h]
  unfold boundP
  rw [h]
  simp [d1, d2, sumL, bringsP, bestP]
end Go.Proofs.Ytleckhbmciiooaa
