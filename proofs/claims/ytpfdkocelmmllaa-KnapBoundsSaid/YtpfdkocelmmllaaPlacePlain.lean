/-
  Items in order by counting, plainly: each stands at the place that tells how many are ahead of it; that is the order by merging.
-/
import Derived.Test.YtpfdkocelmmllaaRatioPlain
namespace Go.Proofs.Ytpfdkocelmmllaa

/-- the document's word: does item a stand ahead of item b? -/
def betterB (v w : List Int) (a b : Nat) : Bool :=
  if w.getD a 0 = 0 ∨ w.getD b 0 = 0 then decide (w.getD a 0 = 0) && (decide (w.getD b 0 ≠ 0) || decide (a < b))
  else decide (v.getD b 0 * w.getD a 0 < v.getD a 0 * w.getD b 0) || (decide (v.getD a 0 * w.getD b 0 = v.getD b 0 * w.getD a 0) && decide (a < b))
theorem betterB_iff (v w : List Int) (a b : Nat) : betterB v w a b = true ↔ strictly (aheadB v w) a b := by
  unfold betterB strictly aheadB
  generalize v.getD a 0 = va
  generalize v.getD b 0 = vb
  generalize w.getD a 0 = wa
  generalize w.getD b 0 = wb
  by_cases a0 : wa = 0
  · subst a0
    by_cases b0 : wb = 0
    · subst b0; simp
    · simp [b0]
  · by_cases b0 : wb = 0
    · subst b0; simp [a0]
    · rw [if_neg (by simp [a0, b0]), if_neg b0, if_neg a0, if_neg a0, if_neg b0]
      simp only [Bool.or_eq_true, Bool.and_eq_true, decide_eq_true_eq, decide_eq_false_iff_not]
      generalize vb * wa = x
      generalize va * wb = y
      omega
/-- how many of the first m stand ahead of item a -/
def aheads (v w : List Int) (a m : Nat) : Nat := (List.range m).countP (fun b => decide (b ≠ a) && betterB v w b a)
theorem aheads_succ (v w : List Int) (a m : Nat) : aheads v w a (m + 1) = aheads v w a m + if (decide (m ≠ a) && betterB v w m a) = true then 1 else 0 := by
  unfold aheads
  rw [List.range_succ, List.countP_append]
  simp [List.countP_cons]
theorem aheads_le (v w : List Int) (a m : Nat) : aheads v w a m ≤ m := by
  have := List.countP_le_length (p := fun b => decide (b ≠ a) && betterB v w b a) (l := List.range m)
  rwa [List.length_range] at this
theorem count_at {R : Nat → Nat → Prop} {p : Nat → Bool} : ∀ {l : List Nat} {k a : Nat}, (∀ x y, R x y → ¬ R y x) → (∀ x, ¬ R x x) → l.Pairwise R → l[k]? = some a → (∀ b, p b = true ↔ R b a) → l.countP p = k
  | [], k, a, _, _, _, h, _ => by simp at h
  | x :: l, 0, a, ha, hi, hp, h, hr => by
    simp at h
    subst h
    have hp' := List.pairwise_cons.1 hp
    rw [List.countP_cons, if_neg (fun h => hi _ ((hr _).1 h)), Nat.add_zero, List.countP_eq_zero]
    intro b hb h
    exact ha _ _ (hp'.1 b hb) ((hr b).1 h)
  | x :: l, k + 1, a, ha, hi, hp, h, hr => by
    have hp' := List.pairwise_cons.1 hp
    rw [List.getElem?_cons_succ] at h
    rw [List.countP_cons, if_pos ((hr _).2 (hp'.1 a (List.mem_of_getElem? h))), count_at ha hi hp'.2 h hr]
theorem aheads_at {v w : List Int} (hw : ∀ x ∈ w, 0 ≤ x) {k a : Nat} (h : (ratioP v w)[k]? = some a) : aheads v w a v.length = k := by
  have W := aheadB_weak (v := v) hw
  unfold aheads
  rw [← (ratioP_perm v w).countP_eq]
  refine count_at (R := strictly (aheadB v w)) (fun x y h1 h2 => W.asymm h1 h2) W.irrefl (ratioP_sorted hw) h fun b => ?_
  rw [Bool.and_eq_true, betterB_iff]
  constructor
  · exact fun h => h.2
  · intro h
    refine ⟨decide_eq_true ?_, h⟩
    rintro rfl
    exact W.irrefl _ h
/-- each at its place -/
def placeL (f : Nat → Nat) (n : Nat) : Nat → List Int
  | 0 => List.replicate n 0
  | m + 1 => (placeL f n m).set (f m) (m : Int)
theorem placeL_len (f : Nat → Nat) (n : Nat) : ∀ m, (placeL f n m).length = n
  | 0 => by simp [placeL]
  | m + 1 => by simp [placeL, placeL_len f n m]
theorem placeL_at {f : Nat → Nat} {n : Nat} (hf : ∀ a b, a < n → b < n → f a = f b → a = b) (hn : ∀ a, a < n → f a < n) : ∀ m, m ≤ n → ∀ a, a < m → (placeL f n m)[f a]? = some (a : Int)
  | 0, _, a, h => by omega
  | m + 1, hm, a, h => by
    unfold placeL
    by_cases ham : a = m
    · subst ham
      rw [List.getElem?_set_self (by rw [placeL_len]; exact hn a (by omega))]
    · rw [List.getElem?_set_ne (fun h' => ham (hf a m (by omega) (by omega) h'.symm)), placeL_at hf hn m (by omega) a (by omega)]
/-- the order by counting is the order by merging -/
theorem place_ratio {v w : List Int} (hw : ∀ x ∈ w, 0 ≤ x) : placeL (fun a => aheads v w a v.length) v.length v.length = (ratioP v w).map (fun n : Nat => (n : Int)) := by
  have at' : ∀ a, a < v.length → ∃ k, (ratioP v w)[k]? = some a ∧ aheads v w a v.length = k ∧ k < v.length := fun a ha => by
    obtain ⟨k, hk, e⟩ := List.mem_iff_getElem.1 (ratioP_mem (v := v) (w := w) |>.2 ha)
    have e' : (ratioP v w)[k]? = some a := by rw [List.getElem?_eq_getElem hk, e]
    exact ⟨k, e', aheads_at hw e', by rwa [ratioP_len] at hk⟩
  have inj : ∀ a b, a < v.length → b < v.length → aheads v w a v.length = aheads v w b v.length → a = b := fun a b ha hb h => by
    obtain ⟨k, h1, h2, _⟩ := at' a ha
    obtain ⟨j, h3, h4, _⟩ := at' b hb
    have : k = j := by omega
    subst this
    rw [h1] at h3
    exact Option.some.inj h3
  refine List.ext_getElem? fun k => ?_
  by_cases hk : k < v.length
  · have hk' : k < (ratioP v w).length := by rw [ratioP_len]; exact hk
    have e : (ratioP v w)[k]? = some (ratioP v w)[k] := List.getElem?_eq_getElem hk'
    have h1 := aheads_at hw e
    have h2 := placeL_at (f := fun a => aheads v w a v.length) inj (fun a ha => by obtain ⟨_, _, _, _⟩ := at' a ha; omega) v.length (Nat.le_refl _) _ (ratioP_lt e)
    simp only [h1] at h2
    rw [h2, List.getElem?_map, e]
    rfl
  · rw [List.getElem?_eq_none (by rw [placeL_len]; omega), List.getElem?_eq_none (by rw [List.length_map, ratioP_len]; omega)]
end Go.Proofs.Ytpfdkocelmmllaa
