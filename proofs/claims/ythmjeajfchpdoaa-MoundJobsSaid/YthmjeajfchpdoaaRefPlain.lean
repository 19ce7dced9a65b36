/-
  The document's mound, plain: its place is the mound's own.
-/
import Derived.Test.YthmjeajfchpdoaaMoundLaw
namespace Go.Proofs.Ythmjeajfchpdoaa

/-- from a leaf up: the last place that takes the key -/
def topP (ls : Ls) (key : Int) : Nat → Nat → Nat → Nat
  | 0, _, pl => pl
  | f + 1, i, pl => if 0 < i then topP ls key f (i / 2) (if fitsP ls i key then i else pl) else pl
theorem topP_zero (ls : Ls) (key : Int) (f pl : Nat) : topP ls key f 0 pl = pl := by cases f <;> simp [topP]
theorem topP_step (ls : Ls) (key : Int) (f i pl : Nat) (hi : 0 < i) : topP ls key (f + 1) i pl = topP ls key f (i / 2) (if fitsP ls i key then i else pl) := by rw [topP, if_pos hi]
theorem Ordered.mono {ls : Ls} (h : Ordered ls) {key : Int} {i : Nat} (hi : 2 ≤ i) (hf : fitsP ls (i / 2) key = true) : fitsP ls i key = true :=
  (fitsP_iff ls i key).2 (((fitsP_iff ls (i / 2) key).1 hf).tr (h.heap i hi))
theorem Ordered.mono_pow {ls : Ls} (h : Ordered ls) {key : Int} : ∀ (j x : Nat), 1 ≤ x / 2 ^ j → fitsP ls (x / 2 ^ j) key = true → fitsP ls x key = true
  | 0, x, _, hf => by simpa using hf
  | j + 1, x, h1, hf => by
    rw [Nat.pow_succ, Nat.mul_comm, ← Nat.div_div_eq_div_mul] at h1 hf
    have h2 := h.mono_pow j (x / 2) h1 hf
    refine h.mono ?_ h2
    have := Nat.div_le_self (x / 2) (2 ^ j)
    omega
theorem topP_no {ls : Ls} (h : Ordered ls) {key : Int} : ∀ (f i pl : Nat), fitsP ls i key = false → topP ls key f i pl = pl
  | 0, _, _, _ => rfl
  | f + 1, i, pl, hn => by
    by_cases hi : 0 < i
    · rw [topP_step _ _ _ _ _ hi, hn, if_neg (by simp)]
      by_cases h2 : 2 ≤ i
      · refine topP_no h f (i / 2) pl ?_
        cases hc : fitsP ls (i / 2) key with
        | false => rfl
        | true => rw [h.mono h2 hc] at hn; cases hn
      · rw [show i / 2 = 0 by omega]
        exact topP_zero _ _ _ _
    · rw [topP, if_neg hi]
theorem topP_spec {ls : Ls} (h : Ordered ls) {key : Int} : ∀ (f i pl : Nat), 1 ≤ i → i < f → fitsP ls i key = true →
    ∃ j, topP ls key f i pl = i / 2 ^ j ∧ 1 ≤ i / 2 ^ j ∧ fitsP ls (i / 2 ^ j) key = true ∧ (i / 2 ^ j = 1 ∨ fitsP ls (i / 2 ^ (j + 1)) key = false)
  | 0, _, _, _, h2, _ => by omega
  | f + 1, i, pl, h1, h2, hf => by
    rw [topP_step _ _ _ _ _ h1, if_pos hf]
    by_cases hi : 2 ≤ i
    · cases hc : fitsP ls (i / 2) key with
      | false => exact ⟨0, by rw [topP_no h _ _ _ hc]; simp, by simpa using h1, by simpa using hf, .inr (by simpa using hc)⟩
      | true =>
        obtain ⟨j, q1, q2, q3, q4⟩ := topP_spec h f (i / 2) i (by omega) (by omega) hc
        have e : ∀ m, i / 2 / 2 ^ m = i / 2 ^ (m + 1) := fun m => by rw [Nat.div_div_eq_div_mul, Nat.pow_succ, Nat.mul_comm]
        rw [e] at q1 q2 q3 q4
        rw [e] at q4
        exact ⟨j + 1, q1, q2, q3, q4⟩
    · have : i = 1 := by omega
      subst this
      exact ⟨0, by rw [show 1 / 2 = 0 by omega, topP_zero], by simp, by simpa using hf, .inl (by simp)⟩
theorem upsP_pow : ∀ (f i k : Nat), k < (upsP f i).length → (upsP f i).getD k 0 = i / 2 ^ k
  | 0, _, _, h => by simp [upsP] at h
  | f + 1, i, k, h => by
    by_cases hi : i = 0
    · subst hi; rw [upsP_zero] at h; simp at h
    · rw [upsP_succ f i (by omega)] at h ⊢
      cases k with
      | zero => simp [List.getD]
      | succ k =>
        have ih := upsP_pow f (i / 2) k (by simpa using h)
        rw [Nat.div_div_eq_div_mul, Nat.mul_comm, ← Nat.pow_succ] at ih
        exact ih
theorem place_pow (ls : Ls) (key : Int) {leaf : Nat} (hl : 1 ≤ leaf) (hf : fitsP ls leaf key = true) : ∃ j, placeP ls key leaf = leaf / 2 ^ j := by
  have hp := wayP_pos hl
  have hlen : (wayP leaf).length = (upsP (leaf + 1) leaf).length := by simp [wayP]
  have hb := halfP_bd ls key (wayP leaf) (wayP leaf).length 0 ((wayP leaf).length - 1)
  unfold placeP
  generalize halfP ls key (wayP leaf) (wayP leaf).length 0 ((wayP leaf).length - 1) = r at *
  refine ⟨(upsP (leaf + 1) leaf).length - 1 - r, ?_⟩
  rw [wayP, rev_getD _ (by omega), upsP_pow _ _ _ (by omega)]
theorem top_eq_place {ls : Ls} (h : Ordered ls) {key : Int} {leaf : Nat} (hl : 1 ≤ leaf) (hf : fitsP ls leaf key = true) : topP ls key (leaf + 1) leaf leaf = placeP ls key leaf := by
  obtain ⟨a, q1, q2, q3, q4⟩ := topP_spec h (leaf + 1) leaf leaf hl (by omega) hf
  obtain ⟨b, p1⟩ := place_pow ls key hl hf
  obtain ⟨p2, p3⟩ := placeP_spec ls key hl hf
  have p4 := (placeP_bd ls key hl).1
  rw [q1, p1]
  rw [p1] at p2 p3 p4
  have e : ∀ (x c d : Nat), c ≤ d → x / 2 ^ d = x / 2 ^ c / 2 ^ (d - c) := fun x c d hcd => by
    rw [Nat.div_div_eq_div_mul, ← Nat.pow_add]
    congr 2
    omega
  rcases Nat.lt_trichotomy a b with hab | hab | hab
  · exfalso
    have h1 := e leaf (a + 1) b (by omega)
    rw [h1] at p2 p4
    have h2 := h.mono_pow _ _ p4 p2
    rcases q4 with q4 | q4
    · have : leaf / 2 ^ (a + 1) = 0 := by
        rw [Nat.pow_succ, ← Nat.div_div_eq_div_mul, q4]
      rw [this] at p4
      simp at p4
    · rw [q4] at h2; cases h2
  · rw [hab]
  · exfalso
    have hb1 : leaf / 2 ^ (b + 1) = leaf / 2 ^ b / 2 := by rw [Nat.pow_succ, ← Nat.div_div_eq_div_mul]
    have h1 := e leaf (b + 1) a (by omega)
    rw [h1] at q2 q3
    have h2 := h.mono_pow _ _ q2 q3
    have h3 : 2 ≤ leaf / 2 ^ b := by
      have := Nat.div_le_self (leaf / 2 ^ (b + 1)) (2 ^ (a - (b + 1)))
      omega
    have := p3 h3
    rw [← hb1] at this
    rw [this] at h2
    cases h2
end Go.Proofs.Ythmjeajfchpdoaa
