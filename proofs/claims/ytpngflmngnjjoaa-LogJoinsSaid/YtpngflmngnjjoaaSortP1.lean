/-
  Sorting in place and stably, plainly: what insertion, a rotation and a merge in place do to a list of places.
  Sorting in place and stably, plainly: exchanges of two, of two ranges, a rotation, a merge in place, and blocks that are merged by twos.
  Sorting by counting, plainly: each stands at the place that tells how many are ahead of it; that is the order by merging.
-/
import Derived.Test.YtpngflmngnjjoaaPlainK
namespace Go.Proofs.Ytpngflmngnjjoaa

/-- all of the one list stand ahead of all of the other -/
def Apart (R : Nat → Nat → Prop) (a b : List Nat) : Prop := ∀ x ∈ a, ∀ y ∈ b, R x y
theorem Apart.nil_left {R : Nat → Nat → Prop} (b : List Nat) : Apart R [] b := fun _ hx => absurd hx List.not_mem_nil
theorem Apart.nil_right {R : Nat → Nat → Prop} (a : List Nat) : Apart R a [] := fun _ _ _ hy => absurd hy List.not_mem_nil
theorem Apart.perm {R : Nat → Nat → Prop} {a b a' b' : List Nat} (h : Apart R a b) (ha : a'.Perm a) (hb : b'.Perm b) : Apart R a' b' := fun x hx y hy => h x (ha.mem_iff.1 hx) y (hb.mem_iff.1 hy)
theorem Apart.app_left {R : Nat → Nat → Prop} {a b c : List Nat} : Apart R (a ++ b) c ↔ Apart R a c ∧ Apart R b c := by
  constructor
  · exact fun h => ⟨fun x hx => h x (by simp [hx]), fun x hx => h x (by simp [hx])⟩
  · rintro ⟨h1, h2⟩ x hx
    rcases List.mem_append.1 hx with hx | hx
    · exact h1 x hx
    · exact h2 x hx
theorem Apart.app_right {R : Nat → Nat → Prop} {a b c : List Nat} : Apart R a (b ++ c) ↔ Apart R a b ∧ Apart R a c := by
  constructor
  · exact fun h => ⟨fun x hx y hy => h x hx y (by simp [hy]), fun x hx y hy => h x hx y (by simp [hy])⟩
  · rintro ⟨h1, h2⟩ x hx y hy
    rcases List.mem_append.1 hy with hy | hy
    · exact h1 x hx y hy
    · exact h2 x hx y hy
theorem pairwise_app {R : Nat → Nat → Prop} {a b : List Nat} : (a ++ b).Pairwise R ↔ a.Pairwise R ∧ b.Pairwise R ∧ Apart R a b := List.pairwise_append
/-- sorted by the strict order -/
abbrev Srt (lt : Nat → Nat → Bool) (l : List Nat) : Prop := l.Pairwise (strictly lt)
/-- a list that is sorted, and just these numbers -/
def Is (lt : Nat → Nat → Bool) (l m : List Nat) : Prop := m.Perm l ∧ Srt lt m

/-- x goes down past B -/
theorem insert_is {lt : Nat → Nat → Bool} (h : Weak lt) {A B : List Nat} {x : Nat} (hs : Srt lt (A ++ B)) (hlt : Apart (· < ·) (A ++ B) [x]) (hB : ∀ y ∈ B, lt x y = true) (hA : ∀ y, A.getLast? = some y → lt x y = false) : Srt lt (A ++ [x] ++ B) := by
  have hs' := pairwise_app.1 hs
  have hAx : Apart (strictly lt) A [x] := by
    intro y hy z hz
    obtain rfl := List.mem_singleton.1 hz
    cases hl : A.getLast? with
    | none => simp at hl; subst hl; simp at hy
    | some q =>
      have hq := hA q hl
      have hqz : strictly lt q z := .inr ⟨hq, hlt q (by simp [List.mem_of_getLast? hl]) z (by simp)⟩
      obtain ⟨A', rfl⟩ : ∃ A', A = A' ++ [q] := by
        have hne : A ≠ [] := by rintro rfl; simp at hl
        refine ⟨A.dropLast, ?_⟩
        rw [List.getLast?_eq_some_getLast hne] at hl
        rw [← Option.some.inj hl]
        exact (List.dropLast_concat_getLast hne).symm
      rcases List.mem_append.1 hy with hy | hy
      · exact h.trans ((pairwise_app.1 hs'.1).2.2 y hy q (by simp)) hqz
      · obtain rfl := List.mem_singleton.1 hy
        exact hqz
  refine pairwise_app.2 ⟨pairwise_app.2 ⟨hs'.1, List.pairwise_singleton _ _, hAx⟩, hs'.2.1, Apart.app_left.2 ⟨hs'.2.2, ?_⟩⟩
  intro z hz y hy
  obtain rfl := List.mem_singleton.1 hz
  exact .inl (hB y hy)

theorem lt_of_le_lt {lt : Nat → Nat → Bool} (h : Weak lt) {x y z : Nat} (h1 : lt y x = false) (h2 : lt y z = true) : lt x z = true := by
  rcases h.neg y x z h2 with h3 | h3
  · rw [h1] at h3; cases h3
  · exact h3
theorem lt_of_lt_le {lt : Nat → Nat → Bool} (h : Weak lt) {x y z : Nat} (h1 : lt x y = true) (h2 : lt z y = false) : lt x z = true := by
  rcases h.neg x z y h1 with h3 | h3
  · exact h3
  · rw [h2] at h3; cases h3
theorem strictly.le {lt : Nat → Nat → Bool} (h : Weak lt) {x y : Nat} (hs : strictly lt x y) : lt y x = false := by
  rcases hs with h1 | ⟨h1, _⟩
  · exact h.asym _ _ h1
  · exact h1
/-- no greater, of a sorted list -/
theorem srt_le {lt : Nat → Nat → Bool} (h : Weak lt) {l : List Nat} (hs : Srt lt l) {i j a b : Nat} (hij : i ≤ j) (ha : l[i]? = some a) (hb : l[j]? = some b) : lt b a = false := by
  rcases Nat.lt_or_eq_of_le hij with hij | rfl
  · obtain ⟨hi, rfl⟩ := List.getElem?_eq_some_iff.1 ha
    obtain ⟨hj, rfl⟩ := List.getElem?_eq_some_iff.1 hb
    exact (List.pairwise_iff_getElem.1 hs i j hi hj hij).le h
  · rw [ha] at hb
    obtain rfl := Option.some.inj hb
    cases hx : lt a a with
    | false => rfl
    | true => have := h.asym _ _ hx; rw [hx] at this; cases this

/-- the merge in place's cut: L1, L2 and R1, R2, each sorted; where they are cut L1 isn't above R2 and R1 is below L2 -/
theorem cut_apart {lt : Nat → Nat → Bool} (h : Weak lt) {L1 L2 R1 R2 : List Nat} (hl : Srt lt (L1 ++ L2)) (hr : Srt lt (R1 ++ R2)) (hlt : Apart (· < ·) (L1 ++ L2) (R1 ++ R2))
    (h1 : ∀ x y, L1.getLast? = some x → R2.head? = some y → lt y x = false) (h2 : ∀ x y, R1.getLast? = some x → L2.head? = some y → lt x y = true) :
    Apart (strictly lt) (L1 ++ R1) (L2 ++ R2) := by
  have hl' := pairwise_app.1 hl
  have hr' := pairwise_app.1 hr
  have last_le : ∀ {l : List Nat}, Srt lt l → ∀ {x q : Nat}, x ∈ l → l.getLast? = some q → lt q x = false := by
    intro l hs x q hx hq
    obtain ⟨i, hi, rfl⟩ := List.mem_iff_getElem.1 hx
    rw [List.getLast?_eq_getElem?] at hq
    exact srt_le h hs (i := i) (j := l.length - 1) (by omega) (List.getElem?_eq_getElem hi) hq
  have head_le : ∀ {l : List Nat}, Srt lt l → ∀ {x q : Nat}, x ∈ l → l.head? = some q → lt x q = false := by
    intro l hs x q hx hq
    obtain ⟨i, hi, rfl⟩ := List.mem_iff_getElem.1 hx
    rw [List.head?_eq_getElem?] at hq
    exact srt_le h hs (i := 0) (j := i) (by omega) hq (List.getElem?_eq_getElem hi)
  have ex_last : ∀ {l : List Nat} {x : Nat}, x ∈ l → ∃ q, l.getLast? = some q := by
    intro l x hx
    cases hq : l.getLast? with
    | none => simp at hq; subst hq; simp at hx
    | some q => exact ⟨q, rfl⟩
  have ex_head : ∀ {l : List Nat} {x : Nat}, x ∈ l → ∃ q, l.head? = some q := by
    intro l x hx
    cases l with
    | nil => simp at hx
    | cons a l => exact ⟨a, rfl⟩
  refine Apart.app_left.2 ⟨Apart.app_right.2 ⟨hl'.2.2, ?_⟩, Apart.app_right.2 ⟨?_, hr'.2.2⟩⟩
  · intro x hx y hy
    obtain ⟨p, hp⟩ := ex_last hx
    obtain ⟨q, hq⟩ := ex_head hy
    refine .inr ⟨?_, hlt x (by simp [hx]) y (by simp [hy])⟩
    have a1 := last_le hl'.1 hx hp
    have a2 := head_le hr'.2.1 hy hq
    have a3 := h1 p q hp hq
    cases hyx : lt y x with
    | false => rfl
    | true =>
      have b1 := lt_of_lt_le h hyx a1
      have b2 := lt_of_le_lt h a2 b1
      rw [a3] at b2; cases b2
  · intro x hx y hy
    obtain ⟨p, hp⟩ := ex_last hx
    obtain ⟨q, hq⟩ := ex_head hy
    have a1 := last_le hr'.1 hx hp
    have a2 := head_le hl'.2.1 hy hq
    have a3 := h2 p q hp hq
    exact .inl (lt_of_lt_le h (lt_of_le_lt h a1 a3) a2)
end Go.Proofs.Ytpngflmngnjjoaa
namespace Go.Proofs.Ytpngflmngnjjoaa

section
variable {α : Type}
/-- two that stand side by side are exchanged -/
theorem set_pair (P Q : List α) (y x : α) : ((P ++ (y :: (x :: Q))).set (P.length + 1) y).set P.length x = P ++ (x :: (y :: Q)) := by
  rw [List.set_append_right _ _ (by omega), show P.length + 1 - P.length = 1 by omega, List.set_append_right _ _ (by omega), show P.length - P.length = 0 by omega]
  rfl
theorem set_pair' (P Q : List α) (y x : α) : ((P ++ (y :: (x :: Q))).set P.length x).set (P.length + 1) y = P ++ (x :: (y :: Q)) := by
  rw [List.set_append_right _ _ (by omega), show P.length - P.length = 0 by omega, List.set_append_right _ _ (by omega), show P.length + 1 - P.length = 1 by omega]
  rfl
theorem at_pair (P Q : List α) (y x : α) : (P ++ (y :: (x :: Q)))[P.length]? = some y ∧ (P ++ (y :: (x :: Q)))[P.length + 1]? = some x := by
  constructor
  · rw [List.getElem?_append_right (by omega), show P.length - P.length = 0 by omega]; rfl
  · rw [List.getElem?_append_right (by omega), show P.length + 1 - P.length = 1 by omega]; rfl
/-- i of two ranges have changed places -/
def SwR (l l' : List α) (a b i : Nat) : Prop := l'.length = l.length ∧ ∀ k, k < l.length → l'[k]? = if a ≤ k ∧ k < a + i then l[k - a + b]? else if b ≤ k ∧ k < b + i then l[k - b + a]? else l[k]?
theorem SwR.start (l : List α) (a b : Nat) : SwR l l a b 0 := ⟨rfl, fun k hk => by rw [if_neg (by omega), if_neg (by omega)]⟩
theorem SwR.step {l l' : List α} {a b n i : Nat} {x y : α} (h : SwR l l' a b i) (hab : a + n ≤ b) (hb : b + n ≤ l.length) (hi : i < n) (hx : l'[a + i]? = some x) (hy : l'[b + i]? = some y) : SwR l ((l'.set (a + i) y).set (b + i) x) a b (i + 1) := by
  obtain ⟨h1, h2⟩ := h
  have ea := h2 (a + i) (by omega)
  have eb := h2 (b + i) (by omega)
  rw [if_neg (by omega), if_neg (by omega), hx] at ea
  rw [if_neg (by omega), if_neg (by omega), hy] at eb
  refine ⟨by simpa using h1, fun k hk => ?_⟩
  by_cases hkb : b + i = k
  · subst hkb
    rw [List.getElem?_set_self (by rw [List.length_set]; omega), if_neg (by omega), if_pos (by omega), show b + i - b + a = a + i by omega, ← ea]
  · rw [List.getElem?_set_ne hkb]
    by_cases hka : a + i = k
    · subst hka
      rw [List.getElem?_set_self (by omega), if_pos (by omega), show a + i - a + b = b + i by omega, ← eb]
    · rw [List.getElem?_set_ne hka, h2 k hk]
      by_cases c1 : a ≤ k ∧ k < a + i
      · rw [if_pos c1, if_pos (by omega)]
      · rw [if_neg c1, if_neg (show ¬ (a ≤ k ∧ k < a + (i + 1)) by omega)]
        by_cases c2 : b ≤ k ∧ k < b + i
        · rw [if_pos c2, if_pos (by omega)]
        · rw [if_neg c2, if_neg (by omega)]
theorem SwR.step' {l l' : List α} {a b n i : Nat} {x y : α} (h : SwR l l' a b i) (hab : a + n ≤ b) (hb : b + n ≤ l.length) (hi : i < n) (hx : l'[a + i]? = some x) (hy : l'[b + i]? = some y) : SwR l ((l'.set (b + i) x).set (a + i) y) a b (i + 1) := by
  rw [List.set_comm _ _ (by omega)]
  exact h.step hab hb hi hx hy
theorem SwR.done {P A M B Q l' : List α} {a b n : Nat} (h : SwR (P ++ (A ++ (M ++ (B ++ Q)))) l' a b n) (ha : P.length = a) (hA : A.length = n) (hB : B.length = n) (hb : a + n + M.length = b) : l' = P ++ (B ++ (M ++ (A ++ Q))) := by
  obtain ⟨h1, h2⟩ := h
  subst ha hA hb
  apply List.ext_getElem?
  intro k
  by_cases hk : k < (P ++ (A ++ (M ++ (B ++ Q)))).length
  · rw [h2 k hk]
    simp only [List.length_append] at hk
    by_cases c0 : k < P.length
    · rw [if_neg (by omega), if_neg (by omega), List.getElem?_append_left c0, List.getElem?_append_left c0]
    · rw [List.getElem?_append_right (l₂ := B ++ (M ++ (A ++ Q))) (by omega)]
      by_cases c1 : k < P.length + A.length
      · rw [if_pos (by omega), List.getElem?_append_left (l₁ := B) (by omega), List.getElem?_append_right (by omega), List.getElem?_append_right (by omega), List.getElem?_append_right (by omega), List.getElem?_append_left (by omega)]
        congr 1; omega
      · rw [if_neg (by omega), List.getElem?_append_right (l₁ := B) (by omega)]
        by_cases c2 : k < P.length + A.length + M.length
        · rw [if_neg (by omega), List.getElem?_append_right (by omega), List.getElem?_append_right (by omega), List.getElem?_append_left (by omega), List.getElem?_append_left (by omega)]
          congr 1; omega
        · rw [List.getElem?_append_right (l₁ := M) (l₂ := A ++ Q) (by omega)]
          by_cases c3 : k < P.length + A.length + M.length + A.length
          · rw [if_pos (by omega), List.getElem?_append_right (by omega), List.getElem?_append_left (by omega), List.getElem?_append_left (by omega)]
            congr 1; omega
          · rw [if_neg (by omega), List.getElem?_append_right (by omega), List.getElem?_append_right (by omega), List.getElem?_append_right (by omega), List.getElem?_append_right (by omega), List.getElem?_append_right (by omega)]
            congr 1; omega
  · have hl : l'.length ≤ k := by omega
    rw [List.getElem?_eq_none hl, List.getElem?_eq_none (by simp only [List.length_append] at hk ⊢; omega)]
theorem split_at (l : List α) (n : Nat) (h : n ≤ l.length) : ∃ a b, l = a ++ b ∧ a.length = n := ⟨l.take n, l.drop n, (List.take_append_drop n l).symm, by rw [List.length_take]; omega⟩
theorem split_last (l : List α) (n : Nat) (h : n ≤ l.length) : ∃ a b, l = a ++ b ∧ b.length = n := ⟨l.take (l.length - n), l.drop (l.length - n), (List.take_append_drop _ l).symm, by rw [List.length_drop]; omega⟩
theorem at_in (P Q : List α) (k j : Nat) (h : P.length + j = k) : (P ++ Q)[k]? = Q[j]? := by
  rw [List.getElem?_append_right (by omega)]; congr 1; omega
end

/-- one that stands behind a sorted list has come down to its place -/
theorem sunk_is {lt : Nat → Nat → Bool} (h : Weak lt) {A B : List Nat} {x : Nat} (hs : Srt lt (A ++ B)) (hlt : Apart (· < ·) (A ++ B) [x]) (hB : ∀ y ∈ B, lt x y = true) (hA : ∀ y, A.getLast? = some y → lt x y = false) : Srt lt (A ++ (x :: B)) := by
  have := insert_is h hs hlt hB hA
  rwa [List.append_assoc] at this

/-- L of one comes to its place in R -/
theorem one_left {lt : Nat → Nat → Bool} (h : Weak lt) {x : Nat} {R1 R2 : List Nat} (hr : Srt lt (R1 ++ R2)) (hlt : Apart (· < ·) [x] (R1 ++ R2)) (h1 : ∀ y, R1.getLast? = some y → lt y x = true) (h2 : ∀ y, R2.head? = some y → lt y x = false) : Srt lt (R1 ++ (x :: R2)) := by
  have hx : Srt lt [x] := List.pairwise_singleton _ _
  have a1 := cut_apart h (L1 := []) (L2 := [x]) (R1 := R1) (R2 := R2) hx hr hlt (by simp) (by
    intro p q hp hq
    simp only [List.head?_cons, Option.some.injEq] at hq
    subst hq
    exact h1 p hp)
  have a2 := cut_apart h (L1 := [x]) (L2 := []) (R1 := []) (R2 := R2) hx (pairwise_app.1 hr).2.1 (Apart.app_right.1 hlt).2 (by
    intro p q hp hq
    simp only [List.getLast?_singleton, Option.some.injEq] at hp
    subst hp
    exact h2 q hq) (by simp)
  refine pairwise_app.2 ⟨(pairwise_app.1 hr).1, List.pairwise_cons.2 ⟨fun y hy => a2 x (by simp) y (by simpa using hy), (pairwise_app.1 hr).2.1⟩, ?_⟩
  intro p hp q hq
  exact a1 p (by simpa using hp) q (by simpa using hq)
/-- R of one comes to its place in L -/
theorem one_right {lt : Nat → Nat → Bool} (h : Weak lt) {y : Nat} {L1 L2 : List Nat} (hl : Srt lt (L1 ++ L2)) (hlt : Apart (· < ·) (L1 ++ L2) [y]) (h1 : ∀ x, L1.getLast? = some x → lt y x = false) (h2 : ∀ x, L2.head? = some x → lt y x = true) : Srt lt (L1 ++ (y :: L2)) := by
  have hy : Srt lt [y] := List.pairwise_singleton _ _
  have a1 := cut_apart h (L1 := L1) (L2 := L2) (R1 := [y]) (R2 := []) hl hy hlt (by simp) (by
    intro p q hp hq
    simp only [List.getLast?_singleton, Option.some.injEq] at hp
    subst hp
    exact h2 q hq)
  have a2 := cut_apart h (L1 := L1) (L2 := []) (R1 := []) (R2 := [y]) (by simpa using (pairwise_app.1 hl).1) hy (by simpa using (Apart.app_left.1 hlt).1) (by
    intro p q hp hq
    simp only [List.head?_cons, Option.some.injEq] at hq
    subst hq
    exact h1 p hp) (by simp)
  refine pairwise_app.2 ⟨(pairwise_app.1 hl).1, List.pairwise_cons.2 ⟨fun x hx => a1 y (by simp) x (by simpa using hx), (pairwise_app.1 hl).2.1⟩, ?_⟩
  intro p hp q hq
  rcases List.mem_cons.1 hq with rfl | hq
  · exact a2 p (by simpa using hp) q (by simp)
  · exact (pairwise_app.1 hl).2.2 p hp q hq

theorem Is.rf {lt : Nat → Nat → Bool} {l : List Nat} (h : Srt lt l) : Is lt l l := ⟨List.Perm.refl _, h⟩
/-- what is cut apart and sorted by itself -/
theorem Is.join {lt : Nat → Nat → Bool} {l1 l2 m1 m2 : List Nat} (h1 : Is lt l1 m1) (h2 : Is lt l2 m2) (ha : Apart (strictly lt) l1 l2) : Is lt (l1 ++ l2) (m1 ++ m2) :=
  ⟨h1.1.append h2.1, pairwise_app.2 ⟨h1.2, h2.2, ha.perm h1.1 h2.1⟩⟩
theorem Is.perm {lt : Nat → Nat → Bool} {l l' m : List Nat} (h : Is lt l m) (hp : l.Perm l') : Is lt l' m := ⟨h.1.trans hp, h.2⟩
theorem Is.len {lt : Nat → Nat → Bool} {l m : List Nat} (h : Is lt l m) : m.length = l.length := h.1.length_eq
theorem Is.mem {lt : Nat → Nat → Bool} {l m : List Nat} (h : Is lt l m) {x : Nat} : x ∈ m ↔ x ∈ l := h.1.mem_iff
/-- of two that are sorted of the same there is one -/
theorem Is.one {lt : Nat → Nat → Bool} (h : Weak lt) {l m m' : List Nat} (h1 : Is lt l m) (h2 : Is lt l m') : m = m' :=
  List.Perm.eq_of_pairwise (le := strictly lt) (fun _ _ _ _ h3 h4 => absurd h4 (h.asymm h3)) h1.2 h2.2 (h1.1.trans h2.1.symm)
theorem four_perm (A B C D : List Nat) : ((A ++ C) ++ (B ++ D)).Perm ((A ++ B) ++ (C ++ D)) := by
  simp only [List.append_assoc]
  refine List.Perm.append_left A ?_
  rw [← List.append_assoc, ← List.append_assoc]
  exact List.Perm.append_right D List.perm_append_comm

/-- blocks of bs, each sorted, of places that rise from block to block; the last may be short -/
def Bls (lt : Nat → Nat → Bool) (bs : Nat) : List (List Nat) → Prop
  | [] => True
  | m :: ms => Srt lt m ∧ 0 < m.length ∧ m.length ≤ bs ∧ (ms ≠ [] → m.length = bs) ∧ Apart (· < ·) m ms.flatten ∧ Bls lt bs ms
theorem Bls.cons {lt : Nat → Nat → Bool} {bs : Nat} {m : List Nat} {ms : List (List Nat)} (h : Bls lt bs (m :: ms)) : Srt lt m ∧ 0 < m.length ∧ m.length ≤ bs ∧ (ms ≠ [] → m.length = bs) ∧ Apart (· < ·) m ms.flatten ∧ Bls lt bs ms := h
theorem Bls.snoc {lt : Nat → Nat → Bool} {bs : Nat} {m : List Nat} (hm : Srt lt m) (h0 : 0 < m.length) (hb : m.length ≤ bs) : ∀ {ms : List (List Nat)}, Bls lt bs ms → (∀ x ∈ ms, x.length = bs) → Apart (· < ·) ms.flatten m → Bls lt bs (ms ++ [m])
  | [], _, _, _ => ⟨hm, h0, hb, fun h => absurd rfl h, by simp [Apart], trivial⟩
  | x :: ms, h, hl, ha => by
    obtain ⟨h1, h2, h3, _, h5, h6⟩ := h.cons
    have ha' := Apart.app_left.1 (by simpa using ha : Apart (· < ·) (x ++ ms.flatten) m)
    refine ⟨h1, h2, h3, fun _ => hl x (by simp), ?_, Bls.snoc hm h0 hb h6 (fun y hy => hl y (by simp [hy])) ha'.2⟩
    show Apart (· < ·) x (ms ++ [m]).flatten
    rw [List.flatten_append]
    exact Apart.app_right.2 ⟨h5, by simpa using ha'.1⟩
theorem flat_len {bs : Nat} : ∀ {ms : List (List Nat)}, (∀ x ∈ ms, x.length = bs) → ms.flatten.length = ms.length * bs
  | [], _ => by simp
  | x :: ms, h => by
    rw [List.flatten_cons, List.length_append, h x (by simp), flat_len (fun y hy => h y (by simp [hy])), List.length_cons, Nat.add_mul]
    omega
/-- what is left of the blocks when no two whole ones are -/
theorem Bls.tail {lt : Nat → Nat → Bool} {bs : Nat} {ms : List (List Nat)} (h : Bls lt bs ms) (hl : ms.flatten.length < 2 * bs) : ms = [] ∨ (∃ L, ms = [L] ∧ Srt lt L ∧ 0 < L.length ∧ L.length ≤ bs) ∨ ∃ L R, ms = [L, R] ∧ Srt lt L ∧ Srt lt R ∧ L.length = bs ∧ 0 < R.length ∧ Apart (· < ·) L R := by
  match ms, h with
  | [], _ => exact .inl rfl
  | [L], h => exact .inr (.inl ⟨L, rfl, h.1, h.2.1, h.2.2.1⟩)
  | [L, R], h => exact .inr (.inr ⟨L, R, rfl, h.1, h.cons.2.2.2.2.2.1, h.cons.2.2.2.1 (by simp), h.cons.2.2.2.2.2.2.1, by simpa using h.cons.2.2.2.2.1⟩)
  | L :: R :: S :: ms, h =>
    exfalso
    have e1 := h.cons.2.2.2.1 (by simp)
    have e2 := h.cons.2.2.2.2.2.2.2.2.1 (by simp)
    simp only [List.flatten_cons, List.length_append] at hl
    omega
/-- what is left has two whole blocks ahead -/
theorem Bls.two {lt : Nat → Nat → Bool} {bs : Nat} {ms : List (List Nat)} (h0 : 0 < bs) (h : Bls lt bs ms) (hl : 2 * bs ≤ ms.flatten.length) : ∃ L R ms', ms = L :: R :: ms' ∧ Srt lt L ∧ Srt lt R ∧ L.length = bs ∧ R.length = bs ∧ Apart (· < ·) L R ∧ Apart (· < ·) (L ++ R) ms'.flatten ∧ Bls lt bs ms' := by
  match ms, h with
  | [], _ => simp at hl; omega
  | [L], h =>
    exfalso
    have := h.cons.2.2.1
    simp at hl
    omega
  | L :: R :: ms', h =>
    obtain ⟨a1, a2, a3, a4, a5, b1, b2, b3, b4, b5, b6⟩ := h
    have a5' := Apart.app_right.1 (by simpa using a5 : Apart (· < ·) L (R ++ ms'.flatten))
    refine ⟨L, R, ms', rfl, a1, b1, a4 (by simp), ?_, a5'.1, Apart.app_left.2 ⟨a5'.2, b5⟩, b6⟩
    cases ms' with
    | nil =>
      have := a4 (by simp)
      simp only [List.flatten_cons, List.length_append, List.flatten_nil, List.length_nil] at hl
      omega
    | cons x y => exact b4 (by simp)
theorem Bls.one {lt : Nat → Nat → Bool} {bs : Nat} {ms : List (List Nat)} (h : Bls lt bs ms) (hl : ms.flatten.length ≤ bs) : Srt lt ms.flatten := by
  match ms, h with
  | [], _ => exact List.Pairwise.nil
  | [L], h => simpa using h.1
  | L :: R :: ms', h =>
    exfalso
    have e1 := h.cons.2.2.2.1 (by simp)
    have e2 := h.cons.2.2.2.2.2.2.1
    simp only [List.flatten_cons, List.length_append] at hl
    omega
theorem take_last {α : Type} {l : List α} {t : Nat} {y : α} (h : l[t]? = some y) : (l.take (t + 1)).getLast? = some y := by
  rw [List.take_add_one, h]; simp
theorem drop_head {α : Type} {l : List α} {t : Nat} {y : α} (h : l[t]? = some y) : (l.drop t).head? = some y := by
  rw [List.head?_drop, h]
theorem of_take_last {α : Type} {l : List α} {k : Nat} {x : α} (hk : k ≤ l.length) (h : (l.take k).getLast? = some x) : 0 < k ∧ l[k - 1]? = some x := by
  rw [List.getLast?_eq_getElem?, List.length_take, Nat.min_eq_left hk, List.getElem?_take] at h
  split at h
  · exact ⟨by omega, h⟩
  · cases h
/-- the symmetric search: what is known of the two ends -/
def SymR (lt : Nat → Nat → Bool) (L R : List Nat) (a mid lo hi s r : Nat) : Prop :=
  lo ≤ s ∧ s ≤ r ∧ r ≤ hi ∧ (∀ x y, lo < s → L[s - 1 - a]? = some x → R[mid - s]? = some y → lt y x = false) ∧ (∀ x y, r < hi → L[r - a]? = some x → R[mid - 1 - r]? = some y → lt y x = true)
theorem SymR.start (lt : Nat → Nat → Bool) (L R : List Nat) (a mid : Nat) {lo hi : Nat} (h : lo ≤ hi) : SymR lt L R a mid lo hi lo hi :=
  ⟨Nat.le_refl _, h, Nat.le_refl _, fun _ _ h => absurd h (Nat.lt_irrefl _), fun _ _ h => absurd h (Nat.lt_irrefl _)⟩
theorem SymR.left {lt : Nat → Nat → Bool} {L R : List Nat} {a mid lo hi s r c x y : Nat} (h : SymR lt L R a mid lo hi s r) (h1 : s ≤ c) (h2 : c < r) (hx : L[c - a]? = some x) (hy : R[mid - 1 - c]? = some y) (hl : lt y x = false) : SymR lt L R a mid lo hi (c + 1) r := by
  obtain ⟨g1, g2, g3, _, g5⟩ := h
  refine ⟨by omega, by omega, g3, fun x' y' _ hx' hy' => ?_, g5⟩
  rw [show c + 1 - 1 - a = c - a by omega, hx] at hx'
  rw [show mid - (c + 1) = mid - 1 - c by omega, hy] at hy'
  obtain rfl := Option.some.inj hx'
  obtain rfl := Option.some.inj hy'
  exact hl
theorem SymR.right {lt : Nat → Nat → Bool} {L R : List Nat} {a mid lo hi s r c x y : Nat} (h : SymR lt L R a mid lo hi s r) (h1 : s ≤ c) (h2 : c < r) (hx : L[c - a]? = some x) (hy : R[mid - 1 - c]? = some y) (hl : lt y x = true) : SymR lt L R a mid lo hi s c := by
  obtain ⟨g1, g2, g3, g4, _⟩ := h
  refine ⟨g1, h1, by omega, g4, fun x' y' _ hx' hy' => ?_⟩
  rw [hx] at hx'
  rw [hy] at hy'
  obtain rfl := Option.some.inj hx'
  obtain rfl := Option.some.inj hy'
  exact hl
theorem sym_cut {lt : Nat → Nat → Bool} (h : Weak lt) {L R : List Nat} {a m b mid lo hi s : Nat} (hl : Srt lt L) (hr : Srt lt R) (hlt : Apart (· < ·) L R) (hL : a + L.length = m) (hR : m + R.length = b) (hs : SymR lt L R a mid lo hi s s)
    (hc : (m ≤ mid ∧ lo = a ∧ hi = m) ∨ (mid < m ∧ lo + b = mid + m ∧ hi = mid)) (hmid : 2 * mid ≤ a + b) (ha : a ≤ lo) : Apart (strictly lt) (L.take (s - a) ++ R.take (mid - s)) (L.drop (s - a) ++ R.drop (mid - s)) := by
  obtain ⟨g1, _, g3, g4, g5⟩ := hs
  refine cut_apart h (by rwa [List.take_append_drop]) (by rwa [List.take_append_drop]) (by rwa [List.take_append_drop, List.take_append_drop]) ?_ ?_
  · intro x y hx hy
    obtain ⟨k0, hx⟩ := of_take_last (by omega) hx
    rw [List.head?_drop] at hy
    have hlen := (List.getElem?_eq_some_iff.1 hy).1
    exact g4 x y (by omega) (by rw [show s - 1 - a = s - a - 1 by omega]; exact hx) hy
  · intro x y hx hy
    obtain ⟨k0, hx⟩ := of_take_last (by omega) hx
    rw [List.head?_drop] at hy
    have hlen := (List.getElem?_eq_some_iff.1 hy).1
    exact g5 y x (by omega) hy (by rw [show mid - 1 - s = mid - s - 1 by omega]; exact hx)
theorem Apart.rise {l1 l2 : List Nat} (h : (l1 ++ l2).Pairwise (· < ·)) : Apart (· < ·) l1 l2 := (pairwise_app.1 h).2.2
end Go.Proofs.Ytpngflmngnjjoaa
namespace Go.Proofs.Ytpngflmngnjjoaa

def strB (lt : Nat → Nat → Bool) (a b : Nat) : Bool := lt a b || (!lt b a && decide (a < b))
theorem strB_iff {lt : Nat → Nat → Bool} {a b : Nat} : strB lt a b = true ↔ strictly lt a b := by
  unfold strB strictly
  cases lt a b <;> cases lt b a <;> simp
/-- how many of these stand ahead of a -/
def aheadL (lt : Nat → Nat → Bool) (l : List Nat) (a : Nat) : Nat := l.countP fun b => strB lt b a
theorem aheadL_snoc (lt : Nat → Nat → Bool) (l : List Nat) (a b : Nat) : aheadL lt (l ++ [b]) a = aheadL lt l a + if strB lt b a = true then 1 else 0 := by
  unfold aheadL
  rw [List.countP_append]
  simp [List.countP_cons]
theorem aheadL_le (lt : Nat → Nat → Bool) (l : List Nat) (a : Nat) : aheadL lt l a ≤ l.length := List.countP_le_length
/-- each of these at its place, so many of them -/
def placeK (f : Nat → Nat) (l : List Nat) : Nat → List Int
  | 0 => List.replicate l.length 0
  | k + 1 => (placeK f l k).set (f (l.getD k 0)) ((l.getD k 0 : Nat) : Int)
theorem placeK_len (f : Nat → Nat) (l : List Nat) : ∀ m, (placeK f l m).length = l.length
  | 0 => by simp [placeK]
  | m + 1 => by simp [placeK, placeK_len f l m]
theorem placeK_at {f : Nat → Nat} {l : List Nat} (hf : ∀ a b, a ∈ l → b ∈ l → f a = f b → a = b) (hn : ∀ a ∈ l, f a < l.length) : ∀ m, m ≤ l.length → ∀ i a, i < m → l[i]? = some a → (placeK f l m)[f a]? = some (a : Int)
  | 0, _, i, a, h, _ => by omega
  | m + 1, hm, i, a, h, ha => by
    unfold placeK
    have hmem := List.mem_of_getElem? ha
    have hk : l[m]? = some l[m] := List.getElem?_eq_getElem (by omega)
    rw [List.getD_eq_getElem?_getD, hk, Option.getD_some]
    by_cases e : f l[m] = f a
    · have e' := hf _ _ (List.getElem_mem _) hmem e
      rw [e, List.getElem?_set_self (by rw [placeK_len]; exact hn a hmem), e']
    · rw [List.getElem?_set_ne e]
      refine placeK_at hf hn m (by omega) i a ?_ ha
      rcases Nat.lt_or_eq_of_le (Nat.le_of_lt_succ h) with h' | rfl
      · exact h'
      · rw [hk] at ha
        exact absurd (by rw [Option.some.inj ha]) e
def sortP (lt : Nat → Nat → Bool) (l : List Nat) : List Nat := msortP lt l.length l
theorem sortP_is {lt : Nat → Nat → Bool} (h : Weak lt) {l : List Nat} (hr : l.Pairwise (· < ·)) : Is lt l (sortP lt l) := ⟨msortP_perm _ _ _, msortP_sorted h _ _ (by omega) hr⟩
theorem sortP_of {lt : Nat → Nat → Bool} (h : Weak lt) {l m : List Nat} (hr : l.Pairwise (· < ·)) (hm : Is lt l m) : m = sortP lt l := hm.one h (sortP_is h hr)
theorem sortP_len (lt : Nat → Nat → Bool) (l : List Nat) : (sortP lt l).length = l.length := (msortP_perm _ _ _).length_eq
theorem aheadL_at {lt : Nat → Nat → Bool} (h : Weak lt) {l : List Nat} (hr : l.Pairwise (· < ·)) {k a : Nat} (ha : (sortP lt l)[k]? = some a) : aheadL lt l a = k := by
  have hs := sortP_is h hr
  unfold aheadL
  rw [← hs.1.countP_eq]
  exact count_at (R := strictly lt) (fun x y h1 h2 => h.asymm h1 h2) h.irrefl hs.2 ha fun b => strB_iff
theorem place_sort {lt : Nat → Nat → Bool} (h : Weak lt) {l : List Nat} (hr : l.Pairwise (· < ·)) : placeK (aheadL lt l) l l.length = (sortP lt l).map (fun n : Nat => (n : Int)) := by
  have at' : ∀ a ∈ l, ∃ k, (sortP lt l)[k]? = some a ∧ aheadL lt l a = k ∧ k < l.length := fun a ha => by
    obtain ⟨k, hk, e⟩ := List.mem_iff_getElem.1 ((sortP_is h hr).mem.2 ha)
    have e' : (sortP lt l)[k]? = some a := by rw [List.getElem?_eq_getElem hk, e]
    exact ⟨k, e', aheadL_at h hr e', by rwa [sortP_len] at hk⟩
  have inj : ∀ a b, a ∈ l → b ∈ l → aheadL lt l a = aheadL lt l b → a = b := fun a b ha hb e => by
    obtain ⟨k, h1, h2, _⟩ := at' a ha
    obtain ⟨j, h3, h4, _⟩ := at' b hb
    have : k = j := by omega
    subst this
    rw [h1] at h3
    exact Option.some.inj h3
  refine List.ext_getElem? fun k => ?_
  by_cases hk : k < l.length
  · have hk' : k < (sortP lt l).length := by rw [sortP_len]; exact hk
    have e : (sortP lt l)[k]? = some (sortP lt l)[k] := List.getElem?_eq_getElem hk'
    have h1 := aheadL_at h hr e
    have hm : (sortP lt l)[k] ∈ l := (sortP_is h hr).mem.1 (List.mem_of_getElem? e)
    obtain ⟨i, hi, ei⟩ := List.mem_iff_getElem.1 hm
    have h2 := placeK_at (f := aheadL lt l) inj (fun a ha => by obtain ⟨_, _, _, _⟩ := at' a ha; omega) l.length (Nat.le_refl _) i _ hi (by rw [List.getElem?_eq_getElem hi, ei])
    simp only [h1] at h2
    rw [h2, List.getElem?_map, e]
    rfl
  · rw [List.getElem?_eq_none (by rw [placeK_len]; omega), List.getElem?_eq_none (by rw [List.length_map, sortP_len]; omega)]
end Go.Proofs.Ytpngflmngnjjoaa
