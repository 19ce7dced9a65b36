/-
  Items in order, plainly: which of two stands ahead, and the order by merging; of two orders of the same numbers, each sorted by a strict order, both are one.
    Items in order by counting, plainly: each stands at the place that tells how many are ahead of it; that is the order by merging.
    A knapsack's kernel, plainly: the room that a beginning leaves, what may follow, what no answer is below; the bound does not sink from a beginning to what follows.
    A knapsack's kernel, plainly: the items in order fall; the best of all answers that begin so is not below the bound; what the answer of a whole beginning costs.
    A knapsack's answers, plainly: what the answer of a whole beginning weighs and costs; the least cost behind a beginning, one step on; no bound is above it.
  Costs of orders, plainly: what an assignment costs; no order costs less than offsets tell.
  Sets of numbers below 64 as numbers, plainly: which are in; the least; the next; without one.
    The program's sets of numbers below 64: what each call answers.
    The program's sets of numbers below 64: Next; All, one by one.
    The program's sets of numbers below 64: List.
  The document's Check of a problem.
    The document's Check of the other problems, and whole.
  What the laws on kernels share: a copied problem.
  An assignment, plainly: a square in form; which columns a beginning leaves.
  An assignment's kernel: New, Depth, free.
    An assignment's kernel: which columns a beginning leaves.
    An assignment's kernel: the least of a row's numbers in some columns.
    An assignment's kernel: what rows cost at least, in some columns.
    A region that draws its order and only reads, walked once inside a round of a loop over a function.
    An assignment's kernel: what rows cost at least, walked.
    An assignment's kernel: what no answer that begins so is below.
  An assignment's kernel: no kernel.
    An assignment's kernel: the answer of a whole list.
  Sorting in place and stably, plainly: what insertion, a rotation and a merge in place do to a list of places.
    Sorting in place and stably, plainly: exchanges of two, of two ranges, a rotation, a merge in place, and blocks that are merged by twos.
    Sorting by counting, plainly: each stands at the place that tells how many are ahead of it; that is the order by merging.
  The library's stable sort of ints: exchanges of two ranges, a rotation.
    The library's stable sort of ints: insertion.
    The library's stable sort of ints: a merge in place where one of the two is a single one.
    The library's stable sort of ints: a merge in place where the second of the two is a single one.
  An assignment's kernel: the order of the kids.
    An assignment's kernel: what may follow a beginning.
    The law's own example: a kernel of two rows.
  The document's kernel of an assignment: which columns a beginning leaves.
    The document's kernel of an assignment: Kids.
  The document's kernel of an assignment: what a square of numbers costs at least, by rows and then by columns.
    The document's kernel of an assignment: Bound, Answer, Depth.
  An assignment, plainly: what the columns of a beginning are; no answer that begins so costs less than the bound; the least cost by trying.
  What the rest of a tour costs.
  An assignment's beginnings as a tree, plainly: as many leaves as there are orders, each once.
-/
import Derived.Test.YtcpadkaljnnieaaCheckWordsP1
import Derived.Lib.Hide
import Derived.Laws.Bits64b
import Derived.Lib.TrailingZeros
import Derived.Deep.DeepCutAuto
import Derived.Shelf.Spec.TrailingZeros
import Derived.RangeFuncNested
import Derived.RangeFuncBound
import Derived.RangeFuncCalls
import Derived.RangeFuncLeaves
import Derived.RangeFuncBox
import Derived.Maps.AppendAt
import Derived.Shelf.Abstract
import Derived.Shelf.RegionOpen
import Derived.OwnWalkIn
import Derived.TacticsInMore
import Derived.LoopNIn
import Derived.LoopIn
import Derived.Sort.BigQuietIn
import Derived.Deep.QuietTactic
import Derived.BigQuiet
namespace Go.Proofs.Ytcpadkaljnnieaa

/-- the sort by merging: halves by halves -/
def msortP (lt : Nat → Nat → Bool) : Nat → List Nat → List Nat
  | 0, p => p
  | f + 1, p => if p.length < 2 then p else List.merge (msortP lt f (p.take (p.length / 2))) (msortP lt f (p.drop (p.length / 2))) (fun x y => !lt y x)
theorem msortP_perm (lt : Nat → Nat → Bool) : ∀ (f : Nat) (p : List Nat), (msortP lt f p).Perm p
  | 0, p => List.Perm.refl p
  | f + 1, p => by
    unfold msortP
    split
    · exact List.Perm.refl p
    · refine (List.merge_perm_append _).trans ?_
      have h := (msortP_perm lt f (p.take (p.length / 2))).append (msortP_perm lt f (p.drop (p.length / 2)))
      rwa [List.take_append_drop] at h
/-- a strict order of a weak one: of two that are the same the less one -/
def strictly (lt : Nat → Nat → Bool) (a b : Nat) : Prop := lt a b = true ∨ (lt b a = false ∧ a < b)
structure Weak (lt : Nat → Nat → Bool) : Prop where
  asym : ∀ a b, lt a b = true → lt b a = false
  neg : ∀ a b c, lt a c = true → lt a b = true ∨ lt b c = true
theorem Weak.trans {lt : Nat → Nat → Bool} (h : Weak lt) {a b c : Nat} (h1 : strictly lt a b) (h2 : strictly lt b c) : strictly lt a c := by
  rcases h1 with h1 | ⟨h1, l1⟩ <;> rcases h2 with h2 | ⟨h2, l2⟩
  · rcases h.neg a c b h1 with h3 | h3
    · exact .inl h3
    · rw [h.asym b c h2] at h3; cases h3
  · rcases h.neg a c b h1 with h3 | h3
    · exact .inl h3
    · rw [h2] at h3; cases h3
  · rcases h.neg b a c h2 with h3 | h3
    · rw [h1] at h3; cases h3
    · exact .inl h3
  · refine .inr ⟨?_, by omega⟩
    cases h3 : lt c a with
    | false => rfl
    | true =>
      rcases h.neg c b a h3 with h4 | h4
      · rw [h2] at h4; cases h4
      · rw [h1] at h4; cases h4
theorem Weak.irrefl {lt : Nat → Nat → Bool} (h : Weak lt) (a : Nat) : ¬ strictly lt a a := by
  rintro (h1 | ⟨_, h1⟩)
  · have := h.asym a a h1; rw [h1] at this; cases this
  · omega
theorem Weak.asymm {lt : Nat → Nat → Bool} (h : Weak lt) {a b : Nat} (h1 : strictly lt a b) : ¬ strictly lt b a := fun h2 => h.irrefl a (h.trans h1 h2)
theorem merge_sorted {lt : Nat → Nat → Bool} (h : Weak lt) : ∀ (n : Nat) (l r : List Nat), l.length + r.length ≤ n → l.Pairwise (strictly lt) → r.Pairwise (strictly lt) → (∀ a ∈ l, ∀ b ∈ r, a < b) → (List.merge l r (fun x y => !lt y x)).Pairwise (strictly lt)
  | n, [], r, _, _, hr, _ => by rw [List.nil_merge]; exact hr
  | n, a :: l, [], _, hl, _, _ => by rw [List.merge_right]; exact hl
  | 0, a :: l, b :: r, hn, _, _, _ => by simp at hn
  | n + 1, a :: l, b :: r, hn, hl, hr, hlt => by
    rw [List.cons_merge_cons]
    have hl' := List.pairwise_cons.1 hl
    have hr' := List.pairwise_cons.1 hr
    split
    · rename_i hab
      have hab' : lt b a = false := by simpa using hab
      have R : strictly lt a b := .inr ⟨hab', hlt a (by simp) b (by simp)⟩
      refine List.pairwise_cons.2 ⟨fun x hx => ?_, merge_sorted h n l (b :: r) (by simp at hn ⊢; omega) hl'.2 hr (fun x hx y hy => hlt x (by simp [hx]) y hy)⟩
      rcases List.mem_merge.1 hx with hx | hx
      · exact hl'.1 x hx
      · rcases List.mem_cons.1 hx with rfl | hx
        · exact R
        · exact h.trans R (hr'.1 x hx)
    · rename_i hab
      have hab' : lt b a = true := by simpa using hab
      have R : strictly lt b a := .inl hab'
      refine List.pairwise_cons.2 ⟨fun x hx => ?_, merge_sorted h n (a :: l) r (by simp at hn ⊢; omega) hl hr'.2 (fun x hx y hy => hlt x hx y (by simp [hy]))⟩
      rcases List.mem_merge.1 hx with hx | hx
      · rcases List.mem_cons.1 hx with rfl | hx
        · exact R
        · exact h.trans R (hl'.1 x hx)
      · exact hr'.1 x hx
theorem msortP_sorted {lt : Nat → Nat → Bool} (h : Weak lt) : ∀ (f : Nat) (p : List Nat), p.length ≤ f + 1 → p.Pairwise (· < ·) → (msortP lt f p).Pairwise (strictly lt)
  | 0, p, hf, _ => by
    match p, hf with
    | [], _ => exact List.Pairwise.nil
    | [a], _ => exact List.pairwise_singleton _ _
  | f + 1, p, hf, hp => by
    unfold msortP
    split
    · rename_i h2
      match p, h2 with
      | [], _ => exact List.Pairwise.nil
      | [a], _ => exact List.pairwise_singleton _ _
    · rename_i h2
      refine merge_sorted h _ _ _ (Nat.le_refl _) (msortP_sorted h f _ (by simp; omega) (hp.sublist (List.take_sublist _ _))) (msortP_sorted h f _ (by simp; omega) (hp.sublist (List.drop_sublist _ _))) ?_
      intro a ha b hb
      rw [(msortP_perm lt f _).mem_iff] at ha hb
      have := List.pairwise_append.1 (by rw [List.take_append_drop (p.length / 2) p]; exact hp)
      exact this.2.2 a ha b hb
/-- by value for the weight: does item a stand ahead of item b? -/
def aheadB (v w : List Int) (a b : Nat) : Bool :=
  if w.getD b 0 = 0 then false else if w.getD a 0 = 0 then true else decide (v.getD b 0 * w.getD a 0 < v.getD a 0 * w.getD b 0)
theorem nonneg_getD {w : List Int} (hw : ∀ x ∈ w, 0 ≤ x) (a : Nat) : 0 ≤ w.getD a 0 := by
  rw [List.getD_eq_getElem?_getD]
  cases h : w[a]? with
  | none => simp
  | some x => exact hw x (List.mem_of_getElem? h)
theorem aheadB_weak {v w : List Int} (hw : ∀ x ∈ w, 0 ≤ x) : Weak (aheadB v w) := by
  have nn := nonneg_getD hw
  constructor
  · intro a b hab
    unfold aheadB at hab ⊢
    have na := nn a
    have nb := nn b
    by_cases b0 : w.getD b 0 = 0
    · rw [if_pos b0] at hab; cases hab
    · rw [if_neg b0] at hab
      by_cases a0 : w.getD a 0 = 0
      · rw [if_pos a0]
      · rw [if_neg a0] at hab
        rw [if_neg a0, if_neg b0]
        have := of_decide_eq_true hab
        exact decide_eq_false (by omega)
  · intro a b c hac
    unfold aheadB at hac ⊢
    have na := nn a
    have nb := nn b
    have nc := nn c
    by_cases c0 : w.getD c 0 = 0
    · rw [if_pos c0] at hac; cases hac
    · rw [if_neg c0] at hac
      rw [if_neg c0]
      by_cases b0 : w.getD b 0 = 0
      · right; rw [if_pos b0]
      · rw [if_neg b0, if_neg b0]
        by_cases a0 : w.getD a 0 = 0
        · left; rw [if_pos a0]
        · rw [if_neg a0] at hac ⊢
          have h1 := of_decide_eq_true hac
          generalize v.getD a 0 = va at *
          generalize v.getD b 0 = vb at *
          generalize v.getD c 0 = vc at *
          generalize w.getD a 0 = wa at *
          generalize w.getD b 0 = wb at *
          generalize w.getD c 0 = wc at *
          by_cases h2 : vb * wa < va * wb
          · left; exact decide_eq_true h2
          · right
            refine decide_eq_true ?_
            have h3 : va * wb ≤ vb * wa := by omega
            have h4 : wb * (vc * wa) < wb * (va * wc) := Int.mul_lt_mul_of_pos_left h1 (by omega)
            have h5 : wc * (va * wb) ≤ wc * (vb * wa) := Int.mul_le_mul_of_nonneg_left h3 nc
            have e1 : wb * (vc * wa) = wa * (vc * wb) := by rw [Int.mul_comm vc wa, ← Int.mul_assoc, Int.mul_comm wb wa, Int.mul_assoc, Int.mul_comm wb vc]
            have e2 : wb * (va * wc) = wc * (va * wb) := by rw [Int.mul_comm va wc, ← Int.mul_assoc, Int.mul_comm wb wc, Int.mul_assoc, Int.mul_comm wb va]
            have e3 : wc * (vb * wa) = wa * (vb * wc) := by rw [Int.mul_comm vb wa, ← Int.mul_assoc, Int.mul_comm wc wa, Int.mul_assoc, Int.mul_comm wc vb]
            rw [e1, e2] at h4
            rw [e3] at h5
            exact Int.lt_of_mul_lt_mul_left (Int.lt_of_lt_of_le h4 h5) na
/-- the items' order -/
def ratioP (v w : List Int) : List Nat := msortP (aheadB v w) v.length (List.range v.length)
theorem ratioP_perm (v w : List Int) : (ratioP v w).Perm (List.range v.length) := msortP_perm _ _ _
theorem ratioP_len (v w : List Int) : (ratioP v w).length = v.length := by rw [(ratioP_perm v w).length_eq, List.length_range]
theorem ratioP_sorted {v w : List Int} (hw : ∀ x ∈ w, 0 ≤ x) : (ratioP v w).Pairwise (strictly (aheadB v w)) :=
  msortP_sorted (aheadB_weak hw) _ _ (by simp) List.pairwise_lt_range
theorem ratioP_mem {v w : List Int} {a : Nat} : a ∈ ratioP v w ↔ a < v.length := by rw [(ratioP_perm v w).mem_iff, List.mem_range]
theorem ratioP_lt {v w : List Int} {k a : Nat} (h : (ratioP v w)[k]? = some a) : a < v.length := ratioP_mem.1 (List.mem_of_getElem? h)
end Go.Proofs.Ytcpadkaljnnieaa
namespace Go.Proofs.Ytcpadkaljnnieaa

/-- the document's word: does item a stand ahead of item b? -/
def betterB (v w : List Int) (a b : Nat) : Bool :=
  if w.getD a 0 = 0 ∨ w.getD b 0 = 0 then decide (w.getD a 0 = 0) && (decide (w.getD b 0 ≠ 0) || decide (a < b))
  else decide (v.getD b 0 * w.getD a 0 < v.getD a 0 * w.getD b 0) || (decide (v.getD a 0 * w.getD b 0 = v.getD b 0 * w.getD a 0) && decide (a < b))
theorem betterB_iff (v w : List Int) (a b : Nat) : betterB v w a b = true ↔ strictly (aheadB v w) a b := by
  unfold betterB strictly aheadB
  generalize v.getD a 0 = va
  generalize v.getD b 0 = vb
  generalize w.getD a 0 = wa
  generalize w.getD b 0 = wb
  by_cases a0 : wa = 0
  · subst a0
    by_cases b0 : wb = 0
    · subst b0; simp
    · simp [b0]
  · by_cases b0 : wb = 0
    · subst b0; simp [a0]
    · rw [if_neg (by simp [a0, b0]), if_neg b0, if_neg a0, if_neg a0, if_neg b0]
      simp only [Bool.or_eq_true, Bool.and_eq_true, decide_eq_true_eq, decide_eq_false_iff_not]
      generalize vb * wa = x
      generalize va * wb = y
      omega
/-- how many of the first m stand ahead of item a -/
def aheads (v w : List Int) (a m : Nat) : Nat := (List.range m).countP (fun b => decide (b ≠ a) && betterB v w b a)
theorem aheads_succ (v w : List Int) (a m : Nat) : aheads v w a (m + 1) = aheads v w a m + if (decide (m ≠ a) && betterB v w m a) = true then 1 else 0 := by
  unfold aheads
  rw [List.range_succ, List.countP_append]
  simp [List.countP_cons]
theorem aheads_le (v w : List Int) (a m : Nat) : aheads v w a m ≤ m := by
  have := List.countP_le_length (p := fun b => decide (b ≠ a) && betterB v w b a) (l := List.range m)
  rwa [List.length_range] at this
theorem count_at {R : Nat → Nat → Prop} {p : Nat → Bool} : ∀ {l : List Nat} {k a : Nat}, (∀ x y, R x y → ¬ R y x) → (∀ x, ¬ R x x) → l.Pairwise R → l[k]? = some a → (∀ b, p b = true ↔ R b a) → l.countP p = k
  | [], k, a, _, _, _, h, _ => by simp at h
  | x :: l, 0, a, ha, hi, hp, h, hr => by
    simp at h
    subst h
    have hp' := List.pairwise_cons.1 hp
    rw [List.countP_cons, if_neg (fun h => hi _ ((hr _).1 h)), Nat.add_zero, List.countP_eq_zero]
    intro b hb h
    exact ha _ _ (hp'.1 b hb) ((hr b).1 h)
  | x :: l, k + 1, a, ha, hi, hp, h, hr => by
    have hp' := List.pairwise_cons.1 hp
    rw [List.getElem?_cons_succ] at h
    rw [List.countP_cons, if_pos ((hr _).2 (hp'.1 a (List.mem_of_getElem? h))), count_at ha hi hp'.2 h hr]
theorem aheads_at {v w : List Int} (hw : ∀ x ∈ w, 0 ≤ x) {k a : Nat} (h : (ratioP v w)[k]? = some a) : aheads v w a v.length = k := by
  have W := aheadB_weak (v := v) hw
  unfold aheads
  rw [← (ratioP_perm v w).countP_eq]
  refine count_at (R := strictly (aheadB v w)) (fun x y h1 h2 => W.asymm h1 h2) W.irrefl (ratioP_sorted hw) h fun b => ?_
  rw [Bool.and_eq_true, betterB_iff]
  constructor
  · exact fun h => h.2
  · intro h
    refine ⟨decide_eq_true ?_, h⟩
    rintro rfl
    exact W.irrefl _ h
/-- each at its place -/
def placeL (f : Nat → Nat) (n : Nat) : Nat → List Int
  | 0 => List.replicate n 0
  | m + 1 => (placeL f n m).set (f m) (m : Int)
theorem placeL_len (f : Nat → Nat) (n : Nat) : ∀ m, (placeL f n m).length = n
  | 0 => by simp [placeL]
  | m + 1 => by simp [placeL, placeL_len f n m]
theorem placeL_at {f : Nat → Nat} {n : Nat} (hf : ∀ a b, a < n → b < n → f a = f b → a = b) (hn : ∀ a, a < n → f a < n) : ∀ m, m ≤ n → ∀ a, a < m → (placeL f n m)[f a]? = some (a : Int)
  | 0, _, a, h => by omega
  | m + 1, hm, a, h => by
    unfold placeL
    by_cases ham : a = m
    · subst ham
      rw [List.getElem?_set_self (by rw [placeL_len]; exact hn a (by omega))]
    · rw [List.getElem?_set_ne (fun h' => ham (hf a m (by omega) (by omega) h'.symm)), placeL_at hf hn m (by omega) a (by omega)]
/-- the order by counting is the order by merging -/
theorem place_ratio {v w : List Int} (hw : ∀ x ∈ w, 0 ≤ x) : placeL (fun a => aheads v w a v.length) v.length v.length = (ratioP v w).map (fun n : Nat => (n : Int)) := by
  have at' : ∀ a, a < v.length → ∃ k, (ratioP v w)[k]? = some a ∧ aheads v w a v.length = k ∧ k < v.length := fun a ha => by
    obtain ⟨k, hk, e⟩ := List.mem_iff_getElem.1 (ratioP_mem (v := v) (w := w) |>.2 ha)
    have e' : (ratioP v w)[k]? = some a := by rw [List.getElem?_eq_getElem hk, e]
    exact ⟨k, e', aheads_at hw e', by rwa [ratioP_len] at hk⟩
  have inj : ∀ a b, a < v.length → b < v.length → aheads v w a v.length = aheads v w b v.length → a = b := fun a b ha hb h => by
    obtain ⟨k, h1, h2, _⟩ := at' a ha
    obtain ⟨j, h3, h4, _⟩ := at' b hb
    have : k = j := by omega
    subst this
    rw [h1] at h3
    exact Option.some.inj h3
  refine List.ext_getElem? fun k => ?_
  by_cases hk : k < v.length
  · have hk' : k < (ratioP v w).length := by rw [ratioP_len]; exact hk
    have e : (ratioP v w)[k]? = some (ratioP v w)[k] := List.getElem?_eq_getElem hk'
    have h1 := aheads_at hw e
    have h2 := placeL_at (f := fun a => aheads v w a v.length) inj (fun a ha => by obtain ⟨_, _, _, _⟩ := at' a ha; omega) v.length (Nat.le_refl _) _ (ratioP_lt e)
    simp only [h1] at h2
    rw [h2, List.getElem?_map, e]
    rfl
  · rw [List.getElem?_eq_none (by rw [placeL_len]; omega), List.getElem?_eq_none (by rw [List.length_map, ratioP_len]; omega)]
end Go.Proofs.Ytcpadkaljnnieaa
namespace Go.Proofs.Ytcpadkaljnnieaa

/-- the room that is left, the values that are left out -/
def stP (room out : Int) : List Int → List Int → List Int → Option (Int × Int)
  | _, _, [] => some (room, out)
  | w :: ws, v :: vs, x :: p => if x = 1 then (if room - w < 0 then none else stP (room - w) out ws vs p) else if x = 0 then (if room < 0 then none else stP room (out + v) ws vs p) else none
  | _, _, _ :: _ => none
/-- what the rest may bring at most -/
def bringsP (room : Int) : List Int → List Int → Int
  | w :: ws, v :: vs => if room < w then v * room / w else v + bringsP (room - w) ws vs
  | _, _ => 0
def sumL : List Int → Int
  | [] => 0
  | x :: l => x + sumL l
def kidsP (cap : Int) (ws vs p : List Int) : List Int × Int :=
  match stP cap 0 ws vs p with
  | none => ([], 1)
  | some (room, _) => match ws.drop p.length with
    | [] => ([], 0)
    | w :: _ => if w ≤ room then ([1, 0], 0) else ([0], 0)
def boundP (cap : Int) (ws vs p : List Int) : Int × Int :=
  match stP cap 0 ws vs p with
  | none => (0, 1)
  | some (room, out) => (out + sumL (vs.drop p.length) - bringsP room (ws.drop p.length) (vs.drop p.length), 0)
theorem stP_long {ws vs : List Int} : ∀ {p : List Int} {room out : Int}, ws.length < p.length → stP room out ws vs p = none := by
  induction ws generalizing vs with
  | nil =>
    intro p room out h
    cases p with
    | nil => simp at h
    | cons x p => rfl
  | cons w ws ih =>
    intro p room out h
    cases p with
    | nil => simp at h
    | cons x p =>
      cases vs with
      | nil => rfl
      | cons v vs =>
        have h' : ws.length < p.length := by simpa using h
        unfold stP
        rw [ih h', ih h']
        split <;> (try split) <;> (try split) <;> rfl
/-- what is left of the room is some, and no more than ahead -/
theorem stP_room {ws vs : List Int} : ∀ {p : List Int} {room out r o : Int}, (∀ x ∈ ws, 0 ≤ x) → 0 ≤ room → stP room out ws vs p = some (r, o) → 0 ≤ r ∧ r ≤ room := by
  induction ws generalizing vs with
  | nil =>
    intro p room out r o _ h0 h
    cases p with
    | nil => simp [stP] at h; omega
    | cons x p => simp [stP] at h
  | cons w ws ih =>
    intro p room out r o hw h0 h
    cases p with
    | nil => simp [stP] at h; omega
    | cons x p =>
      cases vs with
      | nil => simp [stP] at h
      | cons v vs =>
        unfold stP at h
        have hw0 : 0 ≤ w := hw w (by simp)
        have hw' : ∀ x ∈ ws, 0 ≤ x := fun x hx => hw x (by simp [hx])
        split at h
        · split at h
          · cases h
          · have := ih hw' (by omega) h; omega
        · split at h
          · split at h
            · cases h
            · exact ih hw' h0 h
          · cases h
theorem stP_out {ws vs : List Int} : ∀ {p : List Int} {room out r o : Int}, (∀ x ∈ vs, 0 ≤ x ∧ x ≤ 2147483647) → stP room out ws vs p = some (r, o) → out ≤ o ∧ o ≤ out + 2147483647 * p.length := by
  induction ws generalizing vs with
  | nil =>
    intro p room out r o _ h
    cases p with
    | nil => simp [stP] at h; simp; omega
    | cons x p => simp [stP] at h
  | cons w ws ih =>
    intro p room out r o hv h
    cases p with
    | nil => simp [stP] at h; simp; omega
    | cons x p =>
      cases vs with
      | nil => simp [stP] at h
      | cons v vs =>
        unfold stP at h
        have hv0 := hv v (by simp)
        have hv' : ∀ x ∈ vs, 0 ≤ x ∧ x ≤ 2147483647 := fun x hx => hv x (by simp [hx])
        simp only [List.length_cons, Int.natCast_add, Int.natCast_one]
        split at h
        · split at h
          · cases h
          · have := ih hv' h; omega
        · split at h
          · split at h
            · cases h
            · have := ih hv' h; omega
          · cases h
/-- a beginning's beginning -/
theorem stP_app {ws vs : List Int} : ∀ {p q : List Int} {room out : Int}, stP room out ws vs (p ++ q) = (stP room out ws vs p).bind fun (r, o) => stP r o (ws.drop p.length) (vs.drop p.length) q := by
  induction ws generalizing vs with
  | nil =>
    intro p q room out
    cases p with
    | nil => simp [stP]
    | cons x p => simp [stP]
  | cons w ws ih =>
    intro p q room out
    cases p with
    | nil => simp [stP]
    | cons x p =>
      cases vs with
      | nil => simp [stP]
      | cons v vs =>
        simp only [List.cons_append, stP, List.length_cons, List.drop_succ_cons]
        rw [ih, ih]
        split <;> (try split) <;> (try split) <;> rfl
theorem bringsP_nonneg : ∀ {ws vs : List Int} {room : Int}, 0 ≤ room → (∀ x ∈ ws, 0 ≤ x) → (∀ x ∈ vs, 0 ≤ x) → 0 ≤ bringsP room ws vs
  | [], vs, room, _, _, _ => by cases vs <;> simp [bringsP]
  | w :: ws, [], room, _, _, _ => by simp [bringsP]
  | w :: ws, v :: vs, room, h0, hw, hv => by
    unfold bringsP
    have hv0 := hv v (by simp)
    have hw0 := hw w (by simp)
    split
    · exact Int.ediv_nonneg (Int.mul_nonneg hv0 h0) hw0
    · have := bringsP_nonneg (ws := ws) (vs := vs) (room := room - w) (by omega) (fun x hx => hw x (by simp [hx])) (fun x hx => hv x (by simp [hx]))
      omega
theorem sumL_nonneg : ∀ {vs : List Int}, (∀ x ∈ vs, 0 ≤ x) → 0 ≤ sumL vs
  | [], _ => by simp [sumL]
  | v :: vs, hv => by
    have := hv v (by simp)
    have := sumL_nonneg (vs := vs) fun x hx => hv x (by simp [hx])
    simp only [sumL]
    omega
theorem bringsP_le : ∀ {ws vs : List Int} {room : Int}, 0 ≤ room → (∀ x ∈ ws, 0 ≤ x) → (∀ x ∈ vs, 0 ≤ x) → bringsP room ws vs ≤ sumL vs
  | [], vs, room, _, _, hv => by
    have : 0 ≤ sumL vs := sumL_nonneg hv
    cases vs <;> simpa [bringsP] using this
  | w :: ws, [], room, _, _, _ => by simp [bringsP, sumL]
  | w :: ws, v :: vs, room, h0, hw, hv => by
    unfold bringsP sumL
    have hv0 := hv v (by simp)
    have hw0 := hw w (by simp)
    have hs : 0 ≤ sumL vs := sumL_nonneg fun x hx => hv x (by simp [hx])
    split
    · rename_i h
      have h1 : v * room ≤ v * w := Int.mul_le_mul_of_nonneg_left (by omega) hv0
      have h2 : v * room / w ≤ v * w / w := Int.ediv_le_ediv (by omega) h1
      rw [Int.mul_ediv_cancel _ (by omega)] at h2
      omega
    · have := bringsP_le (ws := ws) (vs := vs) (room := room - w) (by omega) (fun x hx => hw x (by simp [hx])) (fun x hx => hv x (by simp [hx]))
      omega
/-- of a list of items none brings more for its weight than w0, v0 -/
def Under (w0 v0 : Int) : List Int → List Int → Prop
  | w :: ws, v :: vs => v * w0 ≤ v0 * w ∧ Under w0 v0 ws vs
  | _, _ => True
/-- sorted: each is no better than those ahead -/
def Falls : List Int → List Int → Prop
  | w :: ws, v :: vs => Under w v ws vs ∧ Falls ws vs
  | _, _ => True
theorem brings_under {w0 v0 : Int} (h0 : 0 ≤ w0) : ∀ {ws vs : List Int} {room : Int}, 0 ≤ room → 0 ≤ v0 → (∀ x ∈ ws, 0 ≤ x) → (∀ x ∈ vs, 0 ≤ x) → Under w0 v0 ws vs → w0 * bringsP room ws vs ≤ v0 * room
  | [], vs, room, hr, hv0, _, _, _ => by
    have : 0 ≤ v0 * room := Int.mul_nonneg hv0 hr
    cases vs <;> simpa [bringsP] using this
  | w :: ws, [], room, hr, hv0, _, _, _ => by
    have : 0 ≤ v0 * room := Int.mul_nonneg hv0 hr
    simpa [bringsP] using this
  | w :: ws, v :: vs, room, hr, hv0, hw, hv, hu => by
    unfold bringsP
    have hw0 := hw w (by simp)
    have hvv := hv v (by simp)
    obtain ⟨hu1, hu2⟩ := hu
    split
    · rename_i hlt
      have hpos : 0 < w := by omega
      have h1 : v * room / w * w ≤ v * room := Int.ediv_mul_le _ (by omega)
      have h2 : w0 * (v * room / w * w) ≤ w0 * (v * room) := Int.mul_le_mul_of_nonneg_left h1 h0
      have h3 : room * (v * w0) ≤ room * (v0 * w) := Int.mul_le_mul_of_nonneg_left hu1 hr
      have e1 : w0 * (v * room / w * w) = w * (w0 * (v * room / w)) := by rw [Int.mul_comm (v * room / w) w, ← Int.mul_assoc, Int.mul_comm w0 w, Int.mul_assoc]
      have e2 : w0 * (v * room) = room * (v * w0) := by rw [← Int.mul_assoc, Int.mul_comm (w0 * v) room, Int.mul_comm w0 v]
      have e3 : room * (v0 * w) = w * (v0 * room) := by rw [← Int.mul_assoc, Int.mul_comm (room * v0) w, Int.mul_comm room v0]
      rw [e1, e2] at h2
      rw [e3] at h3
      exact Int.le_of_mul_le_mul_left (Int.le_trans h2 h3) hpos
    · have ih := brings_under h0 (ws := ws) (vs := vs) (room := room - w) (by omega) hv0 (fun x hx => hw x (by simp [hx])) (fun x hx => hv x (by simp [hx])) hu2
      rw [Int.mul_add, Int.mul_comm w0 v]
      rw [Int.mul_sub] at ih
      omega
theorem brings_more {w0 v0 : Int} (h0 : 0 ≤ w0) : ∀ {ws vs : List Int} {room : Int}, w0 ≤ room → 0 ≤ v0 → (∀ x ∈ ws, 0 ≤ x) → (∀ x ∈ vs, 0 ≤ x) → Under w0 v0 ws vs → Falls ws vs → bringsP room ws vs ≤ v0 + bringsP (room - w0) ws vs
  | [], vs, room, hr, hv0, _, _, _, _ => by cases vs <;> simpa [bringsP] using hv0
  | w :: ws, [], room, hr, hv0, _, _, _, _ => by simpa [bringsP] using hv0
  | w :: ws, v :: vs, room, hr, hv0, hw, hv, hu, hf => by
    have hw0 := hw w (by simp)
    have hvv := hv v (by simp)
    obtain ⟨hu1, hu2⟩ := hu
    obtain ⟨hf1, hf2⟩ := hf
    have hw' : ∀ x ∈ ws, 0 ≤ x := fun x hx => hw x (by simp [hx])
    have hv' : ∀ x ∈ vs, 0 ≤ x := fun x hx => hv x (by simp [hx])
    simp only [bringsP]
    by_cases a1 : room < w
    · rw [if_pos a1, if_pos (by omega)]
      have hpos : 0 < w := by omega
      have e : v * room ≤ v * (room - w0) + v0 * w := by rw [Int.mul_sub]; omega
      have h1 : v * room / w ≤ (v * (room - w0) + v0 * w) / w := Int.ediv_le_ediv hpos e
      rw [Int.add_mul_ediv_right _ _ (by omega)] at h1
      omega
    · rw [if_neg a1]
      by_cases a2 : room - w0 < w
      · rw [if_pos a2]
        have hpos : 0 < w := by omega
        have h1 := brings_under hw0 (ws := ws) (vs := vs) (room := room - w) (by omega) hvv hw' hv' hf1
        have h2 : v + bringsP (room - w) ws vs - v0 ≤ v * (room - w0) / w := by
          rw [Int.le_ediv_iff_mul_le hpos]
          rw [Int.mul_comm, Int.mul_sub, Int.mul_add, Int.mul_sub]
          rw [Int.mul_sub] at h1
          rw [Int.mul_comm w v, Int.mul_comm w v0]
          omega
        omega
      · rw [if_neg a2]
        have ih := brings_more h0 (ws := ws) (vs := vs) (room := room - w) (by omega) hv0 hw' hv' hu2 hf2
        have e : room - w - w0 = room - w0 - w := by omega
        rw [e] at ih
        omega
/-- one more item that is no worse than the others brings no less -/
theorem brings_front {w v : Int} {ws vs : List Int} {room : Int} (hr : 0 ≤ room) (hw : ∀ x ∈ w :: ws, 0 ≤ x) (hv : ∀ x ∈ v :: vs, 0 ≤ x) (hf : Falls (w :: ws) (v :: vs)) : bringsP room ws vs ≤ bringsP room (w :: ws) (v :: vs) := by
  have hw0 := hw w (by simp)
  have hv0 := hv v (by simp)
  have hw' : ∀ x ∈ ws, 0 ≤ x := fun x hx => hw x (by simp [hx])
  have hv' : ∀ x ∈ vs, 0 ≤ x := fun x hx => hv x (by simp [hx])
  obtain ⟨hu, hf'⟩ := hf
  conv => rhs; unfold bringsP
  split
  · rename_i h
    have hpos : 0 < w := by omega
    have h1 := brings_under hw0 hr hv0 hw' hv' hu
    rw [Int.le_ediv_iff_mul_le hpos, Int.mul_comm]
    exact h1
  · exact brings_more hw0 (by omega) hv0 hw' hv' hu hf'
end Go.Proofs.Ytcpadkaljnnieaa
namespace Go.Proofs.Ytcpadkaljnnieaa

def inOrder (l : List Nat) (v : List Int) : List Int := l.map fun n => v.getD n 0
theorem under_of {v w : List Int} {a : Nat} (hv : ∀ x ∈ v, 0 ≤ x) (hw : ∀ x ∈ w, 0 ≤ x) : ∀ {l : List Nat}, (∀ b ∈ l, strictly (aheadB v w) a b) → Under (w.getD a 0) (v.getD a 0) (inOrder l w) (inOrder l v)
  | [], _ => trivial
  | b :: l, h => by
    refine ⟨?_, under_of hv hw (l := l) fun c hc => h c (by simp [hc])⟩
    have hb := h b (by simp)
    have h2 : aheadB v w b a = false := by
      rcases hb with hb | ⟨hb, _⟩
      · exact (aheadB_weak hw).asym _ _ hb
      · exact hb
    unfold aheadB at h2
    have va := nonneg_getD hv a
    have wa := nonneg_getD hw a
    have wb := nonneg_getD hw b
    by_cases a0 : w.getD a 0 = 0
    · rw [a0, Int.mul_zero]; exact Int.mul_nonneg va wb
    · rw [if_neg a0] at h2
      by_cases b0 : w.getD b 0 = 0
      · rw [if_pos b0] at h2; cases h2
      · rw [if_neg b0] at h2
        have := of_decide_eq_false h2
        show v.getD b 0 * w.getD a 0 ≤ v.getD a 0 * w.getD b 0
        omega
theorem falls_of {v w : List Int} (hv : ∀ x ∈ v, 0 ≤ x) (hw : ∀ x ∈ w, 0 ≤ x) : ∀ {l : List Nat}, l.Pairwise (strictly (aheadB v w)) → Falls (inOrder l w) (inOrder l v)
  | [], _ => trivial
  | a :: l, h => by
    have h' := List.pairwise_cons.1 h
    exact ⟨under_of hv hw h'.1, falls_of hv hw h'.2⟩
theorem Falls.drop : ∀ {k : Nat} {ws vs : List Int}, Falls ws vs → Falls (ws.drop k) (vs.drop k)
  | 0, ws, vs, h => h
  | k + 1, [], vs, h => by simp [Falls]
  | k + 1, w :: ws, [], h => by simp [Falls]
  | k + 1, w :: ws, v :: vs, h => by rw [List.drop_succ_cons, List.drop_succ_cons]; exact Falls.drop h.2
/-- the least cost of all answers behind a state -/
def bestP (room out : Int) : List Int → List Int → Int
  | w :: ws, v :: vs => if w ≤ room then (if bestP room (out + v) ws vs < bestP (room - w) out ws vs then bestP room (out + v) ws vs else bestP (room - w) out ws vs) else bestP room (out + v) ws vs
  | _, _ => out
theorem bestP_ge : ∀ {ws vs : List Int} {room out : Int}, 0 ≤ room → (∀ x ∈ ws, 0 ≤ x) → (∀ x ∈ vs, 0 ≤ x) → ws.length = vs.length → Falls ws vs → out + sumL vs - bringsP room ws vs ≤ bestP room out ws vs
  | [], [], room, out, _, _, _, _, _ => by simp [sumL, bringsP, bestP]
  | [], _ :: _, _, _, _, _, _, h, _ => by simp at h
  | _ :: _, [], _, _, _, _, _, h, _ => by simp at h
  | w :: ws, v :: vs, room, out, h0, hw, hv, hl, hf => by
    have hfr := brings_front h0 hw hv hf
    have hw' : ∀ x ∈ ws, 0 ≤ x := fun x hx => hw x (by simp [hx])
    have hv' : ∀ x ∈ vs, 0 ≤ x := fun x hx => hv x (by simp [hx])
    have hl' : ws.length = vs.length := by simpa using hl
    have h1 := bestP_ge (out := out + v) h0 hw' hv' hl' hf.2
    unfold bestP
    simp only [sumL]
    split
    · rename_i hle
      have h2 := bestP_ge (room := room - w) (out := out) (by omega) hw' hv' hl' hf.2
      have e : bringsP room (w :: ws) (v :: vs) = v + bringsP (room - w) ws vs := by rw [bringsP, if_neg (by omega)]
      rw [e] at hfr ⊢
      split <;> omega
    · omega
theorem bestP_nonneg : ∀ {ws vs : List Int} {room out : Int}, 0 ≤ out → (∀ x ∈ vs, 0 ≤ x) → 0 ≤ bestP room out ws vs
  | [], vs, room, out, h, _ => by cases vs <;> simpa [bestP] using h
  | w :: ws, [], room, out, h, _ => by simpa [bestP] using h
  | w :: ws, v :: vs, room, out, h, hv => by
    have hv0 := hv v (by simp)
    have hv' : ∀ x ∈ vs, 0 ≤ x := fun x hx => hv x (by simp [hx])
    have h1 := bestP_nonneg (ws := ws) (vs := vs) (room := room) (out := out + v) (by omega) hv'
    have h2 := bestP_nonneg (ws := ws) (vs := vs) (room := room - w) (out := out) h hv'
    unfold bestP
    split
    · split <;> assumption
    · assumption
theorem sumL_perm {a b : List Int} (h : a.Perm b) : sumL a = sumL b := by
  induction h with
  | nil => rfl
  | cons x _ ih => simp [sumL, ih]
  | swap x y l => simp [sumL]; omega
  | trans _ _ h1 h2 => rw [h1, h2]
theorem sumL_app (a b : List Int) : sumL (a ++ b) = sumL a + sumL b := by
  induction a with
  | nil => simp [sumL]
  | cons x a ih => simp [sumL, ih]; omega
/-- the answer of a whole beginning: each item's number -/
def ansP (l : List Nat) (p : List Int) : Nat → List Int
  | 0 => List.replicate l.length 0
  | k + 1 => (ansP l p k).set (l.getD k 0) (p.getD k 0)
theorem ansP_len (l : List Nat) (p : List Int) : ∀ k, (ansP l p k).length = l.length
  | 0 => by simp [ansP]
  | k + 1 => by simp [ansP, ansP_len l p k]
theorem ansP_at {l : List Nat} {p : List Int} (hn : l.Nodup) (hl : ∀ a ∈ l, a < l.length) : ∀ k, k ≤ l.length → ∀ j, j < k → (ansP l p k)[l.getD j 0]? = some (p.getD j 0)
  | 0, _, j, h => by omega
  | k + 1, hk, j, h => by
    unfold ansP
    have ek : l.getD k 0 = l[k] := by simp [List.getD, List.getElem?_eq_getElem (show k < l.length by omega)]
    have ej : l.getD j 0 = l[j] := by simp [List.getD, List.getElem?_eq_getElem (show j < l.length by omega)]
    by_cases hj : j = k
    · subst hj
      rw [List.getElem?_set_self (by rw [ansP_len, ek]; exact hl _ (List.getElem_mem _))]
    · have hne : l.getD k 0 ≠ l.getD j 0 := fun h' => hj (((List.getElem?_inj (i := j) (j := k) (by omega) hn).1 (by
        rw [List.getElem?_eq_getElem (show k < l.length by omega), List.getElem?_eq_getElem (show j < l.length by omega), ← ek, ← ej, h'])))
      rw [List.getElem?_set_ne hne, ansP_at hn hl k (by omega) j (by omega)]
end Go.Proofs.Ytcpadkaljnnieaa
namespace Go.Proofs.Ytcpadkaljnnieaa

/-- the weights taken and the values left of an answer -/
def takenL (x ws : List Int) : Int := sumL (List.zipWith (fun x w => if x = 1 then w else 0) x ws)
def leftL (x vs : List Int) : Int := sumL (List.zipWith (fun x v => if x = 1 then 0 else v) x vs)
theorem sumZip_take (f : Int → Int → Int) : ∀ (k : Nat) (x ws : List Int) {v u : Int}, x[k]? = some v → ws[k]? = some u → sumL (List.zipWith f (x.take (k + 1)) ws) = sumL (List.zipWith f (x.take k) ws) + f v u
  | 0, _ :: _, _ :: _, _, _, h1, h2 => by
    simp only [List.getElem?_cons_zero, Option.some.injEq] at h1 h2
    subst h1 h2
    simp [sumL]
  | k + 1, _ :: x, _ :: ws, v, u, h1, h2 => by
    have h := sumZip_take f k x ws (v := v) (u := u) (by simpa using h1) (by simpa using h2)
    simp only [List.take_succ_cons, List.zipWith_cons_cons, sumL] at h ⊢
    omega
  | _, [], _, _, _, h1, _ => by simp at h1
  | _, _ :: _, [], _, _, _, h2 => by simp at h2
/-- the answer's worth: the price and the error -/
def costP (cap : Int) (ws vs x : List Int) : Int × Int := if cap < takenL x ws then (0, 9) else (leftL x vs, 0)
theorem sumZip_range (f : Int → Int → Int) (x w : List Int) (h : x.length = w.length) : List.zipWith f x w = (List.range x.length).map fun j => f (x.getD j 0) (w.getD j 0) := by
  apply List.ext_getElem
  · simp [h]
  · intro k h1 h2
    have k1 : k < x.length := by simp at h2; omega
    have k2 : k < w.length := by omega
    simp [List.getD, List.getElem?_eq_getElem k1, List.getElem?_eq_getElem k2]
theorem sumZip_order (f : Int → Int → Int) {l : List Nat} {n : Nat} (hp : l.Perm (List.range n)) {p w : List Int} (lp : p.length = n) (lw : w.length = n) :
    sumL (List.zipWith f (ansP l p n) w) = sumL (List.zipWith f p (inOrder l w)) := by
  have hl : l.length = n := by rw [hp.length_eq, List.length_range]
  have hnd : l.Nodup := hp.nodup_iff.2 List.nodup_range
  have hlt : ∀ a ∈ l, a < l.length := fun a ha => by rw [hl]; exact List.mem_range.1 (hp.mem_iff.1 ha)
  have la : (ansP l p n).length = n := by rw [ansP_len, hl]
  rw [sumZip_range f _ w (by rw [la, lw]), la, ← sumL_perm (hp.map _), sumZip_range f p (inOrder l w) (by simp [inOrder, lp, hl]), lp]
  congr 1
  apply List.ext_getElem
  · simp [hl]
  · intro k h1 h2
    have hk : k < l.length := by simpa using h1
    have hk' : k < n := by omega
    simp only [List.getElem_map, List.getElem_range]
    have e1 : (ansP l p n).getD (l[k]) 0 = p.getD k 0 := by
      have h := ansP_at (p := p) hnd hlt n (by omega) k hk'
      have ek : l.getD k 0 = l[k] := by simp [List.getD, List.getElem?_eq_getElem hk]
      rw [ek] at h
      simp [List.getD, h]
    have e2 : (inOrder l w).getD k 0 = w.getD (l[k]) 0 := by
      unfold inOrder
      simp [List.getD, List.getElem?_map, List.getElem?_eq_getElem hk]
    rw [e1, e2]
theorem ansP_01 {l : List Nat} {p : List Int} (h : ∀ x ∈ p, x = 0 ∨ x = 1) : ∀ k, ∀ x ∈ ansP l p k, x = 0 ∨ x = 1
  | 0, x, hx => .inl (List.eq_of_mem_replicate hx)
  | k + 1, x, hx => by
    rcases List.mem_or_eq_of_mem_set hx with h1 | h1
    · exact ansP_01 h k x h1
    · subst h1
      cases hv : p[k]? with
      | none => simp [List.getD, hv]
      | some y => simpa [List.getD, hv] using h y (List.mem_of_getElem? hv)
/-- the least cost of the answers behind a beginning; -1: it is none -/
def bestAt (cap : Int) (ws vs p : List Int) : Int := match stP cap 0 ws vs p with
  | none => -1
  | some (r, o) => bestP r o (ws.drop p.length) (vs.drop p.length)
section
variable {cap : Int} {ws vs p ws' vs' : List Int} {r o w v : Int}
theorem drop_snoc {l l' p : List Int} {x y : Int} (h : l.drop p.length = x :: l') : l.drop (p ++ [y]).length = l' := by
  have h1 := congrArg List.tail h
  rw [List.tail_drop] at h1
  simpa using h1
theorem bestAt_of (h : stP cap 0 ws vs p = some (r, o)) : bestAt cap ws vs p = bestP r o (ws.drop p.length) (vs.drop p.length) := by unfold bestAt; rw [h]
theorem stP_snoc1 (h : stP cap 0 ws vs p = some (r, o)) (hw : ws.drop p.length = w :: ws') (hv : vs.drop p.length = v :: vs') (hle : w ≤ r) : stP cap 0 ws vs (p ++ [1]) = some (r - w, o) := by
  rw [stP_app, h]
  simp only [Option.bind_some, hw, hv, stP, if_true]
  rw [if_neg (by omega)]
theorem stP_snoc0 (h : stP cap 0 ws vs p = some (r, o)) (hw : ws.drop p.length = w :: ws') (hv : vs.drop p.length = v :: vs') (h0 : 0 ≤ r) : stP cap 0 ws vs (p ++ [0]) = some (r, o + v) := by
  rw [stP_app, h]
  simp only [Option.bind_some, hw, hv, stP, if_true]
  rw [if_neg (by decide), if_neg (by omega)]
theorem bestAt_1 (h : stP cap 0 ws vs p = some (r, o)) (hw : ws.drop p.length = w :: ws') (hv : vs.drop p.length = v :: vs') (hle : w ≤ r) : bestAt cap ws vs (p ++ [1]) = bestP (r - w) o ws' vs' := by
  rw [bestAt_of (stP_snoc1 h hw hv hle), drop_snoc hw, drop_snoc hv]
theorem bestAt_0 (h : stP cap 0 ws vs p = some (r, o)) (hw : ws.drop p.length = w :: ws') (hv : vs.drop p.length = v :: vs') (h0 : 0 ≤ r) : bestAt cap ws vs (p ++ [0]) = bestP r (o + v) ws' vs' := by
  rw [bestAt_of (stP_snoc0 h hw hv h0), drop_snoc hw, drop_snoc hv]
end
/-- the least one but -1 of what comes, by the loop's own words -/
def leastF (f : Int → Int) : Int → List Int → Int
  | b, [] => b
  | b, x :: l => leastF f (if b < 0 then f x else if f x < b then f x else b) l
theorem leastF_kids {cap : Int} {ws vs p : List Int} {r o : Int} (h : stP cap 0 ws vs p = some (r, o)) (h0 : 0 ≤ r) (hl : p.length < ws.length) (hlv : ws.length = vs.length) (hv0 : ∀ x ∈ vs, 0 ≤ x) (ho : 0 ≤ o) :
    leastF (fun x => bestAt cap ws vs (p ++ [x])) (-1) (kidsP cap ws vs p).1 = bestAt cap ws vs p := by
  obtain ⟨w, ws', hw⟩ : ∃ w ws', ws.drop p.length = w :: ws' := ⟨_, _, List.drop_eq_getElem_cons hl⟩
  obtain ⟨v, vs', hv⟩ : ∃ v vs', vs.drop p.length = v :: vs' := ⟨_, _, List.drop_eq_getElem_cons (by omega)⟩
  have hvs : ∀ x ∈ v :: vs', 0 ≤ x := fun x hx => hv0 x (List.mem_of_mem_drop (hv ▸ hx))
  have e := bestAt_of h
  rw [hw, hv] at e
  unfold kidsP
  rw [h, e]
  simp only [hw]
  have h2 := bestAt_0 h hw hv h0
  unfold bestP
  split
  · rename_i hle
    have h1 := bestAt_1 h hw hv hle
    have n1 : 0 ≤ bestP (r - w) o ws' vs' := bestP_nonneg ho fun x hx => hvs x (by simp [hx])
    simp only [leastF, h1, h2]
    rw [if_pos (show (-1 : Int) < 0 by decide), if_neg (show ¬ bestP (r - w) o ws' vs' < 0 by omega)]
  · simp only [leastF, h2]
    rw [if_pos (show (-1 : Int) < 0 by decide)]
/-- a bound is no number below nought, and none above the least cost -/
theorem bound_below {cap : Int} {ws vs p : List Int} (h0 : 0 ≤ cap) (hw : ∀ x ∈ ws, 0 ≤ x) (hv : ∀ x ∈ vs, 0 ≤ x ∧ x ≤ 2147483647) (hl : ws.length = vs.length) (hf : Falls ws vs) (he : (boundP cap ws vs p).2 = 0) :
    0 ≤ (boundP cap ws vs p).1 ∧ (boundP cap ws vs p).1 ≤ bestAt cap ws vs p := by
  unfold boundP at he ⊢
  cases hs : stP cap 0 ws vs p with
  | none => rw [hs] at he; simp at he
  | some q =>
    obtain ⟨r, o⟩ := q
    have h1 := (stP_room hw h0 hs).1
    have h2 := (stP_out hv hs).1
    have hw' : ∀ x ∈ ws.drop p.length, 0 ≤ x := fun x hx => hw x (List.mem_of_mem_drop hx)
    have hv' : ∀ x ∈ vs.drop p.length, 0 ≤ x := fun x hx => (hv x (List.mem_of_mem_drop hx)).1
    rw [bestAt_of hs]
    simp only
    have h3 := bringsP_le h1 hw' hv'
    have h4 := bestP_ge (out := o) h1 hw' hv' (by simp [hl]) hf.drop
    exact ⟨by omega, h4⟩
theorem bound_err (cap : Int) (ws vs p : List Int) : (boundP cap ws vs p).2 = 0 ∨ ((boundP cap ws vs p).2 = 1 ∧ stP cap 0 ws vs p = none) := by
  unfold boundP
  cases hs : stP cap 0 ws vs p with
  | none => exact .inr ⟨rfl, rfl⟩
  | some q => exact .inl rfl
/-- at a whole beginning -/
theorem whole_at {cap : Int} {ws vs p : List Int} {r o : Int} (h : stP cap 0 ws vs p = some (r, o)) (hl : p.length = ws.length) (hlv : ws.length = vs.length) : boundP cap ws vs p = (o, 0) ∧ bestAt cap ws vs p = o := by
  have d1 : ws.drop p.length = [] := List.drop_of_length_le (by omega)
  have d2 : vs.drop p.length = [] := List.drop_of_length_le (by omega)
  rw [bestAt_of h]
  unfold boundP
  rw [h]
  simp [d1, d2, sumL, bringsP, bestP]
end Go.Proofs.Ytcpadkaljnnieaa
namespace Go.Proofs.Ytcpadkaljnnieaa

def intsN (l : List Nat) : List Int := l.map fun n : Nat => (n : Int)
theorem intsN_len (l : List Nat) : (intsN l).length = l.length := by simp [intsN]
/-- what a beginning costs -/
def costF : List (List Int) → List Int → Int
  | row :: rows, c :: p => row.getD c.toNat 0 + costF rows p
  | _, _ => 0
/-- each row at its column costs no less than its least one and the column's -/
theorem costF_ge {F : Nat → Int} : ∀ {rows : List (List Int)} {off : List Int} {q : List Nat}, rows.length = q.length → off.length = q.length → (∀ (k c : Nat) (x : List Int) (o : Int), rows[k]? = some x → off[k]? = some o → q[k]? = some c → o + F c ≤ x.getD c 0) → sumL off + sumL (q.map F) ≤ costF rows (intsN q)
  | [], off, q, h1, h2, _ => by
    have : q = [] := List.eq_nil_of_length_eq_zero (by simpa using h1.symm)
    subst this
    have : off = [] := List.eq_nil_of_length_eq_zero (by simpa using h2)
    subst this
    simp [sumL, costF, intsN]
  | r :: rows, [], q, h1, h2, _ => by
    exfalso
    simp at h1 h2
    omega
  | r :: rows, o :: off, [], h1, _, _ => by simp at h1
  | r :: rows, o :: off, c :: q, h1, h2, h => by
    have h3 := h 0 c r o rfl rfl rfl
    have ih := costF_ge (F := F) (rows := rows) (off := off) (q := q) (by simpa using h1) (by simpa using h2) fun k c x o a b d => h (k + 1) c x o a b d
    simp only [intsN, List.map_cons, sumL, costF] at ih ⊢
    rw [Int.toNat_natCast]
    omega
def costAt (rows : List (List Int)) (a b : Nat) : Int := (rows.getD a []).getD b 0
/-- the kernel's rows, in form -/
structure RowsOk (rows : List (List Int)) : Prop where
  n1 : 1 ≤ rows.length
  n2 : rows.length ≤ 24
  row : ∀ row ∈ rows, row.length = rows.length
  num : ∀ row ∈ rows, ∀ x ∈ row, 0 ≤ x ∧ x ≤ 2147483647
theorem RowsOk.get {rows : List (List Int)} (h : RowsOk rows) {row : List Int} (hr : row ∈ rows) {c : Nat} (hc : c < rows.length) : 0 ≤ row.getD c 0 ∧ row.getD c 0 ≤ 2147483647 := by
  have h1 : c < row.length := by rw [h.row row hr]; exact hc
  have h2 : row.getD c 0 = row[c] := by simp [List.getD, List.getElem?_eq_getElem h1]
  rw [h2]
  exact h.num row hr _ (List.getElem_mem _)
theorem sumL_append (a b : List Int) : sumL (a ++ b) = sumL a + sumL b := by
  induction a with
  | nil => simp [sumL]
  | cons x a ih => simp only [List.cons_append, sumL, ih]; omega
end Go.Proofs.Ytcpadkaljnnieaa
namespace Go.Proofs.Ytcpadkaljnnieaa
open Go

def andNotN (a b : Nat) : Nat := (BitVec.ofNat 64 a &&& ~~~ BitVec.ofNat 64 b).toNat
theorem andNotN_lt (a b : Nat) : andNotN a b < 18446744073709551616 := (BitVec.ofNat 64 a &&& ~~~ BitVec.ofNat 64 b).isLt
theorem andNotN_bit {a b j : Nat} (ha : a < 18446744073709551616) : (andNotN a b).testBit j = (a.testBit j && !b.testBit j) := by
  unfold andNotN
  rw [BitVec.testBit_toNat, BitVec.getLsbD_and, BitVec.getLsbD_not, BitVec.getLsbD_ofNat, BitVec.getLsbD_ofNat]
  by_cases hj : j < 64
  · simp [hj]
  · have : a.testBit j = false := Nat.testBit_lt_two_pow (Nat.lt_of_lt_of_le ha (by
      have : 2 ^ 64 ≤ 2 ^ j := Nat.pow_le_pow_right (by omega) (by omega)
      omega))
    simp [hj, this]
/-- which are in, rising -/
def memsM (m : Nat) : List Nat := (List.range 64).filter fun j => m.testBit j
theorem memsM_mem {m j : Nat} : j ∈ memsM m ↔ j < 64 ∧ m.testBit j = true := by simp [memsM]
theorem memsM_sorted (m : Nat) : (memsM m).Pairwise (· < ·) := List.Pairwise.filter _ List.pairwise_lt_range
theorem memsM_le (m : Nat) : (memsM m).length ≤ 64 := by
  have := List.length_filter_le (fun j => m.testBit j) (List.range 64)
  simpa [memsM] using this
/-- without one -/
def clrM (m i : Nat) : Nat := andNotN m (2 ^ i)
theorem clrM_bit {m i j : Nat} (h : m < 18446744073709551616) : (clrM m i).testBit j = (m.testBit j && decide (i ≠ j)) := by
  unfold clrM
  rw [andNotN_bit h, Nat.testBit_two_pow]
  by_cases hij : i = j <;> simp [hij]
theorem memsM_clr {m i : Nat} (h : m < 18446744073709551616) : memsM (clrM m i) = (memsM m).filter fun j => decide (i ≠ j) := by
  unfold memsM
  rw [List.filter_filter]
  refine List.filter_congr fun j _ => ?_
  rw [clrM_bit h, Bool.and_comm]
theorem memsM_full {n : Nat} (h : n ≤ 64) : memsM (2 ^ n - 1) = List.range n := by
  have e : List.range 64 = List.range n ++ (List.range (64 - n)).map (n + ·) := by
    rw [← List.range_add]
    congr 1
    omega
  unfold memsM
  rw [e, List.filter_append, List.filter_eq_self.2 (fun j hj => by
    rw [Nat.testBit_two_pow_sub_one]; simpa using hj), List.filter_eq_nil_iff.2 (fun j hj => by
    obtain ⟨a, _, rfl⟩ := List.mem_map.1 hj
    rw [Nat.testBit_two_pow_sub_one]
    simp), List.append_nil]
end Go.Proofs.Ytcpadkaljnnieaa
namespace Go.Proofs.Ytcpadkaljnnieaa
open Go.RowKit Go.ChangeShapes Go.WideShapes Go.ChangeAt Go.Deep

end Go.Proofs.Ytcpadkaljnnieaa
namespace Go.Proofs.Ytcpadkaljnnieaa
open Go.RowKit Go.ChangeShapes Go.WideShapes Go.ChangeAt Go.Deep Go.Shelf
attribute [local go_sem] Oper.semAt_some

end Go.Proofs.Ytcpadkaljnnieaa
namespace Go.Proofs.Ytcpadkaljnnieaa
open Go.RowKit Go.ChangeShapes Go.WideShapes Go.ChangeAt Go.Deep Go.Shelf
attribute [local go_sem] Oper.semAt_some

end Go.Proofs.Ytcpadkaljnnieaa
namespace Go.Proofs.Ytcpadkaljnnieaa
open Go.RowKit Go.ChangeShapes Go.WideShapes Go.ChangeAt Go.Deep

set_option maxRecDepth 100000 in
set_option maxHeartbeats 4000000 in
theorem rcheck_size (k n cap : Int) (a b c : Value) (w : World) (h : sizeP k n ≠ 0) :
    Calls Try.prog 56 #[.agg #[.int .i64 k, .int .i64 n, .int .i64 cap, a, b, c]] w fun e w' => e = .returned (.int .i64 (sizeP k n)) ∧ Ext w w' := by
  by_cases k0 : k < 1
  · have hs : Hid (sizeP k n = 14) := by
      have h : sizeP k n = 14 := by unfold sizeP; rw [if_neg (by omega), if_neg (by omega), if_neg (by omega)]
      exact h
    clear h
    go_enter Try.func56, Try.ntmps56
    go_wp2
    go_ret
    exact ⟨ret_i hs.out.symm, by (repeat (first | assumption | exact Ext.rf _ | apply Ext.drew | apply Ext.drewN | apply Ext.alloc))⟩
  · by_cases k3 : 3 < k
    · have hs : Hid (sizeP k n = 14) := by
        have h : sizeP k n = 14 := by unfold sizeP; rw [if_neg (by omega), if_neg (by omega), if_neg (by omega)]
        exact h
      clear h
      go_enter Try.func56, Try.ntmps56
      go_wp2
      go_ret
      exact ⟨ret_i hs.out.symm, by (repeat (first | assumption | exact Ext.rf _ | apply Ext.drew | apply Ext.drewN | apply Ext.alloc))⟩
    · by_cases n1 : n < 1
      · have hs : Hid (sizeP k n = 1) := by
          have h : sizeP k n = 1 := by
            unfold sizeP
            by_cases a1 : k = 1
            · rw [if_pos a1, if_pos n1]
            · rw [if_neg a1]
              by_cases a2 : k = 2
              · rw [if_pos a2, if_pos n1]
              · rw [if_neg a2, if_pos (by omega), if_pos n1]
          exact h
        clear h
        go_enter Try.func56, Try.ntmps56
        go_wp2
        go_ret
        exact ⟨ret_i hs.out.symm, by (repeat (first | assumption | exact Ext.rf _ | apply Ext.drew | apply Ext.drewN | apply Ext.alloc))⟩
      · by_cases a1 : k = 1
        · subst a1
          have n64 : 64 < n := by
            unfold sizeP at h
            rw [if_pos rfl, if_neg n1] at h
            by_cases h2 : 64 < n
            · exact h2
            · rw [if_neg h2] at h; exact absurd rfl h
          have hs : Hid (sizeP 1 n = 5) := by
            have h : sizeP 1 n = 5 := by unfold sizeP; rw [if_pos rfl, if_neg n1, if_pos n64]
            exact h
          clear h
          go_enter Try.func56, Try.ntmps56
          go_wp2
          go_ret
          exact ⟨ret_i hs.out.symm, by (repeat (first | assumption | exact Ext.rf _ | apply Ext.drew | apply Ext.drewN | apply Ext.alloc))⟩
        · have n24 : 24 < n := by
            unfold sizeP at h
            rw [if_neg a1] at h
            by_cases a2 : k = 2
            · rw [if_pos a2, if_neg n1] at h
              by_cases h2 : 24 < n
              · exact h2
              · rw [if_neg h2] at h; exact absurd rfl h
            · rw [if_neg a2, if_pos (by omega), if_neg n1] at h
              by_cases h2 : 24 < n
              · exact h2
              · rw [if_neg h2] at h; exact absurd rfl h
          have hs : Hid (sizeP k n = 5) := by
            have h : sizeP k n = 5 := by
              unfold sizeP
              rw [if_neg a1]
              by_cases a2 : k = 2
              · rw [if_pos a2, if_neg n1, if_pos n24]
              · rw [if_neg a2, if_pos (by omega), if_neg n1, if_pos n24]
            exact h
          have a1' : (k == 1) = false := by simpa using a1
          clear h a1
          have k1 : 1 < k := by
            have : k ≠ 1 := by simpa using a1'
            omega
          go_enter Try.func56, Try.ntmps56
          go_wp2
          go_ret
          exact ⟨ret_i hs.out.symm, by (repeat (first | assumption | exact Ext.rf _ | apply Ext.drew | apply Ext.drewN | apply Ext.alloc))⟩
set_option maxRecDepth 100000 in
set_option maxHeartbeats 4000000 in
theorem rcheck_1 (n : Nat) (cap : Int) (A B C : Option Addr) (a b c : Nat) (xs ys : List Int) (l : List (List Int)) (w : World) (hA : RdI w A xs) (hB : RdI w B ys) (n1 : 1 ≤ n) (n2 : n ≤ 64) :
    Calls Try.prog 56 #[.agg #[.int .i64 1, .int .i64 n, .int .i64 cap, .slice A xs.length a, .slice B ys.length b, .slice C l.length c]] w fun e w' => e = .returned (.int .i64 (if (((xs.length : Int) == (n : Int)) && ((ys.length : Int) == (n : Int)) && ((l.length : Int) == 0)) = true then itemsP cap xs ys xs.length else 8)) ∧ Ext w w' := by
  have B1 : Hid (Blk (w.alloc (.cells #[.int .i64 1, .int .i64 n, .int .i64 cap, .slice A xs.length a, .slice B ys.length b, .slice C l.length c] 61)) w.heap.size 61 #[.int .i64 1, .int .i64 n, .int .i64 cap, .slice A xs.length a, .slice B ys.length b, .slice C l.length c]) := .new rfl
  have nn1 : ¬ ((n : Int) < 1) := by omega
  have nn2 : ¬ ((64 : Int) < n) := by omega
  cases h1 : ((xs.length : Int) == (n : Int))
  · have h1' : ((xs.length : Int) != (n : Int)) = true := by simp only [bne, h1]; rfl
    go_enter Try.func56, Try.ntmps56
    go_wp2
    go_ret
    exact ⟨rfl, by (repeat (first | assumption | exact Ext.rf _ | apply Ext.drew | apply Ext.drewN | apply Ext.alloc))⟩
  · have h1' : ((xs.length : Int) != (n : Int)) = false := by simp only [bne, h1]; rfl
    cases h2 : ((ys.length : Int) == (n : Int))
    · have h2' : ((ys.length : Int) != (n : Int)) = true := by simp only [bne, h2]; rfl
      go_enter Try.func56, Try.ntmps56
      go_wp2
      go_ret
      exact ⟨rfl, by (repeat (first | assumption | exact Ext.rf _ | apply Ext.drew | apply Ext.drewN | apply Ext.alloc))⟩
    · have h2' : ((ys.length : Int) != (n : Int)) = false := by simp only [bne, h2]; rfl
      cases h3 : ((l.length : Int) == 0)
      · have h3' : ((l.length : Int) != 0) = true := by simp only [bne, h3]; rfl
        go_enter Try.func56, Try.ntmps56
        go_wp2
        go_ret
        exact ⟨rfl, by (repeat (first | assumption | exact Ext.rf _ | apply Ext.drew | apply Ext.drewN | apply Ext.alloc))⟩
      · have h3' : ((l.length : Int) != 0) = false := by simp only [bne, h3]; rfl
        have e1 : xs.length = n := by simp only [beq_iff_eq] at h1; omega
        have e2 : ys.length = n := by simp only [beq_iff_eq] at h2; omega
        have e3 : l.length = 0 := by simp only [beq_iff_eq] at h3; omega
        simp only [Bool.and_true, if_true]
        have HI := Lib.hid (itemsP_zero cap xs ys)
        have HST : Hid (∀ k, itemsP cap xs ys k ≠ 0 → itemsP cap xs ys xs.length = itemsP cap xs ys k) := fun k hk => itemsP_stop (by omega) hk
        rw [e1, e2, e3] at B1
        rw [e1] at HST
        rw [e1, e2, e3]
        clear h1 h1' h2 h2' h3 h3' e3
        replace e1 := Lib.hid e1
        replace e2 := Lib.hid e2
        go_enter Try.func56, Try.ntmps56
        go_wp2_with (fail)
        refine (number_any cap _).mono ?_
        rintro e w2 ⟨rfl, x2⟩
        have X2 := Lib.hid (Ext.tr (a := w) (by (repeat (first | assumption | exact Ext.rf _ | apply Ext.drew | apply Ext.drewN | apply Ext.alloc))) x2)
        have B2 := Lib.hid (B1.out.ext x2)
        clear x2
        by_cases hc : numP cap = 0
        · have hc' : (numP cap != 0) = false := by simpa using hc
          have H0 : Hid (itemsP cap xs ys 0 = 0) := by
            have h := HI.out
            rw [hc] at h
            exact h
          clear hc
          have d1 : w2.cell? ⟨w.heap.size, 1, none⟩ = some (.int .i64 n) := B2.out.cell 1
          go_wp2_with (fail)
          go_loopw [4] (fun i wr => ∃ k : Nat, i = .int .i64 k ∧ k ≤ n ∧ Hid (itemsP cap xs ys k = 0) ∧ Ext w wr ∧ Hid (Blk wr w.heap.size 61 #[.int .i64 1, .int .i64 n, .int .i64 cap, .slice A n a, .slice B n b, .slice C 0 c])) (fun i _ => n - (intOf i).toNat)
          case atStart => exact ⟨0, rfl, by omega, H0, X2.out, B2⟩
          case round =>
            obtain ⟨wo, rfl⟩ : ∃ wo : World, wo = wr := ⟨_, rfl⟩
            obtain ⟨k, rfl, hk, HK, Y, BB⟩ := hrel
            have c1 : wo.cell? ⟨w.heap.size, 1, none⟩ = some (.int .i64 n) := BB.out.cell 1
            have c3 : wo.cell? ⟨w.heap.size, 3, none⟩ = some (.slice A n a) := BB.out.cell 3
            by_cases hlt : k < n
            · obtain ⟨bb, off, x, rfl, _, hc1, hx1, _⟩ := (hA.ext Y).at (k := k) (by rw [e1.out]; exact hlt)
              obtain ⟨bb', off', y, rfl, zy, hc2, hy1, _⟩ := (hB.ext Y).at (k := k) (by rw [e2.out]; exact hlt)
              have S := Lib.hid (itemsP_succ hx1.out hy1.out HK.out)
              go_wp2_with (fail)
              refine (number_any x _).mono ?_
              rintro e w3 ⟨rfl, x3⟩
              have Y3 := Ext.tr Y x3
              have B3 := Lib.hid (BB.out.ext x3)
              have c4' : w3.cell? ⟨w.heap.size, 4, none⟩ = some (.slice (some ⟨bb', off', none⟩) n b) := B3.out.cell 4
              have hc2' := keepEL x3 zy hc2
              by_cases hn : numP x = 0
              · have hn' : (numP x != 0) = false := by simpa using hn
                have HN := Lib.hid hn
                clear hn c1 c3 hc1 hc2
                go_wp2_with (fail)
                refine (number_any y _).mono ?_
                rintro e w4 ⟨rfl, x4⟩
                have Y4 := Ext.tr Y3 x4
                have B4 := Lib.hid (B3.out.ext x4)
                have HR : Hid (itemsP cap xs ys (k + 1) = numP y) := by
                  have h1 := S.out
                  rw [if_pos HN.out] at h1
                  exact h1
                clear c4' hc2' hn'
                by_cases hm : numP y = 0
                · have hm' : (numP y != 0) = false := by simpa using hm
                  have HR2 : Hid (itemsP cap xs ys (k + 1) = 0) := by
                    have h := HR.out
                    rw [hm] at h
                    exact h
                  clear hm
                  go_wp2
                  go_roundw
                  case rel => exact ⟨k + 1, by go_num, by omega, HR2, Y4, B4⟩
                  case measure => simp [intOf]; omega
                · have hm' : (numP y != 0) = true := by simpa using hm
                  have HR2 : Hid (itemsP cap xs ys n = numP y) := by
                    have h := HST.out (k + 1) (by rw [HR.out]; exact hm)
                    rw [HR.out] at h
                    exact h
                  clear hm
                  go_wp2
                  go_ret
                  exact ⟨ret_i HR2.out.symm, Y4⟩
              · have hn' : (numP x != 0) = true := by simpa using hn
                have HR2 : Hid (itemsP cap xs ys n = numP x) := by
                  have h1 := S.out
                  rw [if_neg hn] at h1
                  have h := HST.out (k + 1) (by rw [h1]; exact hn)
                  rw [h1] at h
                  exact h
                clear hn c1 c3 c4' hc1 hc2 hc2'
                go_wp2
                go_ret
                exact ⟨ret_i HR2.out.symm, Y3⟩
            · obtain rfl : k = n := by omega
              clear c3
              go_wp2
              go_ret
              exact ⟨ret_i HK.out.symm, Y⟩
        · have hc' : (numP cap != 0) = true := by simpa using hc
          have HR2 : Hid (itemsP cap xs ys n = numP cap) := by
            have h := HST.out 0 (by rw [HI.out]; exact hc)
            rw [HI.out] at h
            exact h
          clear hc
          go_wp2
          go_ret
          exact ⟨ret_i HR2.out.symm, X2.out⟩
end Go.Proofs.Ytcpadkaljnnieaa
namespace Go.Proofs.Ytcpadkaljnnieaa
open Go.RowKit Go.ChangeShapes Go.WideShapes Go.ChangeAt Go.Deep

set_option maxRecDepth 100000 in
set_option maxHeartbeats 4000000 in
theorem rcheck_flat (k : Int) (n : Nat) (cap : Int) (A B C : Option Addr) (a b c : Nat) (xs ys : List Int) (l : List (List Int)) (w : World) (hk : k = 2 ∨ k = 3) (n1 : 1 ≤ n) (n2 : n ≤ 24)
    (h : (((l.length : Int) == (n : Int)) && (cap == 0) && decide (xs.length + ys.length = 0)) = false) :
    Calls Try.prog 56 #[.agg #[.int .i64 k, .int .i64 n, .int .i64 cap, .slice A xs.length a, .slice B ys.length b, .slice C l.length c]] w fun e w' => e = .returned (.int .i64 8) ∧ Ext w w' := by
  have nn1 : ¬ ((n : Int) < 1) := by omega
  have nn2 : ¬ ((24 : Int) < n) := by omega
  have k0 : ¬ k < 1 := by omega
  have k3 : ¬ 3 < k := by omega
  have k1 : 1 < k := by omega
  have kb : (k == 1) = false := by rw [beq_eq_false_iff_ne]; omega
  clear hk
  cases h1 : ((l.length : Int) == (n : Int))
  · have h1' : ((l.length : Int) != (n : Int)) = true := by simp only [bne, h1]; rfl
    clear h
    go_enter Try.func56, Try.ntmps56
    go_wp2
    go_ret
    exact ⟨rfl, by (repeat (first | assumption | exact Ext.rf _ | apply Ext.drew | apply Ext.drewN | apply Ext.alloc))⟩
  · have h1' : ((l.length : Int) != (n : Int)) = false := by simp only [bne, h1]; rfl
    cases h2 : (cap == 0)
    · have h2' : (cap != 0) = true := by simp only [bne, h2]; rfl
      clear h
      go_enter Try.func56, Try.ntmps56
      go_wp2
      go_ret
      exact ⟨rfl, by (repeat (first | assumption | exact Ext.rf _ | apply Ext.drew | apply Ext.drewN | apply Ext.alloc))⟩
    · have h2' : (cap != 0) = false := by simp only [bne, h2]; rfl
      have h3 : ¬ (xs.length + ys.length = 0) := by rw [h1, h2] at h; simpa using h
      clear h
      by_cases hx : xs.length = 0
      · have hxb : ((xs.length : Int) != 0) = false := by rw [bne_eq_false_iff_eq]; omega
        have hyb : ((ys.length : Int) != 0) = true := by rw [bne_iff_ne]; omega
        clear hx h3
        go_enter Try.func56, Try.ntmps56
        go_wp2
        go_ret
        exact ⟨rfl, by (repeat (first | assumption | exact Ext.rf _ | apply Ext.drew | apply Ext.drewN | apply Ext.alloc))⟩
      · have hxb : ((xs.length : Int) != 0) = true := by rw [bne_iff_ne]; omega
        clear hx h3
        go_enter Try.func56, Try.ntmps56
        go_wp2
        go_ret
        exact ⟨rfl, by (repeat (first | assumption | exact Ext.rf _ | apply Ext.drew | apply Ext.drewN | apply Ext.alloc))⟩
theorem any_take_succ {l : List (List Int)} {r : Nat} {row : List Int} (p : List Int → Bool) (h : l[r]? = some row) : (l.take (r + 1)).any p = ((l.take r).any p || p row) := by
  obtain ⟨hr, h⟩ := List.getElem?_eq_some_iff.1 h
  rw [List.take_succ_eq_append_getElem hr, List.any_append, h]
  simp
set_option maxRecDepth 100000 in
set_option maxHeartbeats 8000000 in
theorem rcheck_sq (k : Int) (n : Nat) (A B C : Option Addr) (a b c : Nat) (l : List (List Int)) (w : World) (hC : RdE 1 RInts w C l) (hk : k = 2 ∨ k = 3) (n1 : 1 ≤ n) (n2 : n ≤ 24) (hl : l.length = n) :
    Calls Try.prog 56 #[.agg #[.int .i64 k, .int .i64 n, .int .i64 0, .slice A 0 a, .slice B 0 b, .slice C n c]] w fun e w' => e = .returned (.int .i64 (if (l.any fun r => (r.length : Int) != (n : Int)) = true then 8 else rowsE k 0 l)) ∧ Ext w w' := by
  have nn1 : ¬ ((n : Int) < 1) := by omega
  have nn2 : ¬ ((24 : Int) < n) := by omega
  have k0 : ¬ k < 1 := by omega
  have k3 : ¬ 3 < k := by omega
  have k1 : 1 < k := by omega
  have kb : (k == 1) = false := by rw [beq_eq_false_iff_ne]; omega
  have B1 : Hid (Blk (w.alloc (.cells #[.int .i64 k, .int .i64 n, .int .i64 0, .slice A 0 a, .slice B 0 b, .slice C n c] 61)) w.heap.size 61 #[.int .i64 k, .int .i64 n, .int .i64 0, .slice A 0 a, .slice B 0 b, .slice C n c]) := .new rfl
  clear hk
  replace hl := Lib.hid hl
  obtain ⟨res, hres⟩ : ∃ res, Hid (res = if (l.any fun r => (r.length : Int) != (n : Int)) = true then 8 else rowsE k 0 l) := ⟨_, rfl⟩
  rw [← hres.out]
  go_enter Try.func56, Try.ntmps56
  go_wp2_with (fail)
  go_loopw [7] (fun i wr => ∃ r : Nat, i = .int .i64 r ∧ r ≤ n ∧ Hid (((l.take r).any fun r => (r.length : Int) != (n : Int)) = false) ∧ Ext w wr ∧ Hid (Blk wr w.heap.size 61 #[.int .i64 k, .int .i64 n, .int .i64 0, .slice A 0 a, .slice B 0 b, .slice C n c])) (fun i _ => n - (intOf i).toNat)
  case atStart => exact ⟨0, rfl, by omega, by exact rfl, by (repeat (first | assumption | exact Ext.rf _ | apply Ext.drew | apply Ext.drewN | apply Ext.alloc)), B1⟩
  case round =>
    obtain ⟨wo, rfl⟩ : ∃ wo : World, wo = wr := ⟨_, rfl⟩
    obtain ⟨r, rfl, hr, HA, Y, BB⟩ := hrel
    have c1 : wo.cell? ⟨w.heap.size, 1, none⟩ = some (.int .i64 n) := BB.out.cell 1
    have c5 : wo.cell? ⟨w.heap.size, 5, none⟩ = some (.slice C n c) := BB.out.cell 5
    by_cases hlt : r < n
    · obtain ⟨cb, co, D, row, d, rfl, _, hc1, hrow, HD, rr, ir, ld, md⟩ := (hC.ext Y fun _ _ h => h.ext Y).ints (r := r) (by rw [hl.out]; exact hlt)
      by_cases hlen : row.length = n
      · have hlb : ((row.length : Int) != (n : Int)) = false := by rw [bne_eq_false_iff_eq]; omega
        have HN : Hid (((l.take (r + 1)).any fun r => (r.length : Int) != (n : Int)) = false) := by
          have h : ((l.take (r + 1)).any fun r => (r.length : Int) != (n : Int)) = false := by rw [any_take_succ _ hrow.out, HA.out, hlb]; rfl
          exact h
        replace hlen := Lib.hid hlen
        go_wp2_with (go_quiet (fail))
        go_roundw
        case rel => exact ⟨r + 1, by go_num, by omega, HN, by repeat (first | exact Y | apply Ext.drewN), by repeat (first | exact BB | exact (Lib.hid BB.out))⟩
        case measure => simp [intOf]; omega
      · have hlb : ((row.length : Int) != (n : Int)) = true := by rw [bne_iff_ne]; omega
        have HN : Hid (res = 8) := by
          have h : res = 8 := by
            rw [hres.out, if_pos]
            exact List.any_eq_true.2 ⟨row, List.mem_of_getElem? hrow.out, hlb⟩
          exact h
        clear hlen
        go_wp2_with (go_quiet (fail))
        go_ret
        exact ⟨ret_i HN.out.symm, by repeat (first | exact Y | apply Ext.drewN)⟩
    · obtain rfl : r = n := by omega
      have HN : Hid (res = rowsE k 0 l) := by
        have h := HA.out
        rw [List.take_of_length_le (by rw [hl.out]; exact Nat.le_refl _)] at h
        have h2 : res = rowsE k 0 l := by rw [hres.out, if_neg (by rw [h]; decide)]
        exact h2
      have HL : Hid (∀ row ∈ l, row.length = r) := fun row hrow => by
        have h := HA.out
        rw [List.take_of_length_le (by rw [hl.out]; exact Nat.le_refl _)] at h
        have h2 := List.any_eq_false.1 h row hrow
        simp at h2
        omega
      clear HA hlt
      clear c5
      go_wp2_with (fail)
      clear c1
      go_loopw [8] (fun i wr => ∃ q : Nat, i = .int .i64 q ∧ q ≤ r ∧ Hid (rowsE k 0 l = rowsE k q (l.drop q)) ∧ Ext w wr ∧ Hid (Blk wr w.heap.size 61 #[.int .i64 k, .int .i64 r, .int .i64 0, .slice A 0 a, .slice B 0 b, .slice C r c])) (fun i _ => r - (intOf i).toNat)
      case atStart => exact ⟨0, rfl, by omega, by exact rfl, Y, BB⟩
      case round =>
        obtain ⟨w1, rfl⟩ : ∃ w1 : World, w1 = wr := ⟨_, rfl⟩
        obtain ⟨q, rfl, hq, HT, Y1, B2⟩ := hrel
        have c1 : w1.cell? ⟨w.heap.size, 1, none⟩ = some (.int .i64 r) := B2.out.cell 1
        by_cases hlt : q < r
        · obtain ⟨cb, co, D, row, d, rfl, _, hc1, hrow, HD, rr, ir, ld, md⟩ := (hC.ext Y1 fun _ _ h => h.ext Y1).ints (r := q) (by rw [hl.out]; exact hlt)
          have hlen : Hid (row.length = r) := HL.out row (List.mem_of_getElem? hrow.out)
          have hlen2 : row.length = r := hlen.out
          rw [hlen2] at hc1 ld
          clear hlen2 hc1
          go_wp2_with (fail)
          go_loopw [9] (fun i wr => ∃ j : Nat, i = .int .i64 j ∧ j ≤ r ∧ Hid (rowE k q 0 row = rowE k q j (row.drop j)) ∧ Ext w wr ∧ Hid (Blk wr w.heap.size 61 #[.int .i64 k, .int .i64 r, .int .i64 0, .slice A 0 a, .slice B 0 b, .slice (some ⟨cb, co, none⟩) r c])) (fun i _ => r - (intOf i).toNat)
          case atStart => exact ⟨0, rfl, by omega, by exact rfl, Y1, B2⟩
          case round =>
            obtain ⟨w3, rfl⟩ : ∃ w3 : World, w3 = wr := ⟨_, rfl⟩
            obtain ⟨j, rfl, hj, HJ, Y2, B3⟩ := hrel
            have c1' : w3.cell? ⟨w.heap.size, 1, none⟩ = some (.int .i64 r) := B3.out.cell 1
            by_cases hlj : j < r
            · obtain ⟨cb', co', D', row', d', e9, zc, hc1, hrow', _, rr', ir', ld', md'⟩ := (hC.ext Y2 fun _ _ h => h.ext Y2).ints (r := q) (by rw [hl.out]; exact hlt)
              obtain ⟨rfl, rfl⟩ : cb = cb' ∧ co = co' := by injection e9 with h; injection h with h1 h2; exact ⟨h1, h2⟩
              obtain rfl : row = row' := by
                have h := hrow.out
                rw [hrow'.out] at h
                exact (Option.some.inj h).symm
              obtain ⟨bb, off', x, rfl, zx, hc2, _, hd2⟩ := rr'.at (k := j) (by rw [hlen.out]; exact hlj)
              have hl9 : row.length = r := hlen.out
              rw [hl9] at hc1 ld'
              have c5' : w3.cell? ⟨w.heap.size, 5, none⟩ = some (.slice (some ⟨cb, co, none⟩) r c) := B3.out.cell 5
              clear hl9 e9
              go_wp2_with (fail)
              refine (number_any x _).mono ?_
              rintro e w4 ⟨rfl, x4⟩
              have Y3 := Ext.tr Y2 x4
              have B4 := Lib.hid (B3.out.ext x4)
              have k0' : w4.cell? ⟨w.heap.size, 0, none⟩ = some (.int .i64 k) := B4.out.cell 0
              have k5' : w4.cell? ⟨w.heap.size, 5, none⟩ = some (.slice (some ⟨cb, co, none⟩) r c) := B4.out.cell 5
              have hc1' := keepEL x4 zc hc1
              have hc2' := keepEL x4 zx hc2
              clear hc1 hc2 c5' c1'
              by_cases hn : numP x = 0
              · have hn' : (numP x != 0) = false := by simpa using hn
                have HN0 := Lib.hid hn
                clear hn
                by_cases k3e : k = 3
                · subst k3e
                  by_cases hrj : q = j
                  · subst hrj
                    by_cases hx : x = 0
                    · have hx' : (x != 0) = false := by simpa using hx
                      have HR : Hid (rowE 3 q 0 row = rowE 3 q (q + 1) (row.drop (q + 1))) := by
                        have h1 := HJ.out
                        rw [hd2.out, rowE, if_pos HN0.out, if_neg (by simp [hx])] at h1
                        exact h1
                      clear hx
                      go_wp2
                      go_roundw
                      case rel => exact ⟨q + 1, by go_num, by omega, HR, Y3, B4⟩
                      case measure => simp [intOf]; omega
                    · have hx' : (x != 0) = true := by simpa using hx
                      have HR : Hid (res = 8) := by
                        have h1 := HJ.out
                        rw [hd2.out, rowE, if_pos HN0.out, if_pos ⟨rfl, rfl, hx⟩] at h1
                        have h2 := HT.out
                        rw [HD.out, rowsE, h1] at h2
                        have h3 : res = 8 := by rw [HN.out]; exact h2
                        exact h3
                      clear hx
                      go_wp2
                      go_ret
                      exact ⟨ret_i HR.out.symm, Y3⟩
                  · have hrj' : ((q : Int) == (j : Int)) = false := by rw [beq_eq_false_iff_ne]; omega
                    have HR : Hid (rowE 3 q 0 row = rowE 3 q (j + 1) (row.drop (j + 1))) := by
                      have h1 := HJ.out
                      rw [hd2.out, rowE, if_pos HN0.out, if_neg (by simp [hrj])] at h1
                      exact h1
                    go_wp2
                    go_roundw
                    case rel => exact ⟨j + 1, by go_num, by omega, HR, Y3, B4⟩
                    case measure => simp [intOf]; omega
                · have k3' : (k == 3) = false := by rw [beq_eq_false_iff_ne]; exact k3e
                  have HR : Hid (rowE k q 0 row = rowE k q (j + 1) (row.drop (j + 1))) := by
                    have h1 := HJ.out
                    rw [hd2.out, rowE, if_pos HN0.out, if_neg (by simp [k3e])] at h1
                    exact h1
                  clear k3e
                  go_wp2
                  go_roundw
                  case rel => exact ⟨j + 1, by go_num, by omega, HR, Y3, B4⟩
                  case measure => simp [intOf]; omega
              · have hn' : (numP x != 0) = true := by simpa using hn
                have HR : Hid (res = numP x) := by
                  have h1 := HJ.out
                  rw [hd2.out, rowE, if_neg hn] at h1
                  have h2 := HT.out
                  rw [HD.out, rowsE, h1, if_neg hn] at h2
                  have h3 : res = numP x := by rw [HN.out]; exact h2
                  exact h3
                clear hn
                go_wp2
                go_ret
                exact ⟨ret_i HR.out.symm, Y3⟩
            · have hd2 := drop_nil (xs := row) (k := j) (by rw [hlen.out]; omega)
              have HR : Hid (rowsE k 0 l = rowsE k (q + 1) (l.drop (q + 1))) := by
                have h1 := HJ.out
                rw [hd2.out, rowE] at h1
                have h2 := HT.out
                rw [HD.out, rowsE, if_pos h1] at h2
                exact h2
              clear hd2
              go_wp2
              go_roundw
              case rel => exact ⟨q + 1, by go_num, by omega, HR, Y2, B3⟩
              case measure => simp [intOf]; omega
        · have hd := drop_nil (xs := l) (k := q) (by rw [hl.out]; omega)
          have HR : Hid (res = 0) := by
            have h1 := HT.out
            rw [hd.out, rowsE] at h1
            have h3 : res = 0 := by rw [HN.out]; exact h1
            exact h3
          clear hd
          go_wp2
          go_ret
          exact ⟨ret_i HR.out.symm, Y1⟩
set_option maxRecDepth 100000 in
theorem rcheck_any (i : InstP) (vs : List Value) (w : World) (H : RInst w vs i) : Calls Try.prog 56 #[.agg (List.toArray vs)] w fun e w' => e = .returned (.int .i64 (checkP i)) ∧ Ext w w' := by
  obtain ⟨k, nn, cap, xs, ys, l⟩ := i
  obtain ⟨A, a, B, b, C, c, rfl, ⟨rA, iA, lA, mA⟩, ⟨rB, iB, lB, mB⟩, ⟨rC, lC, mC⟩⟩ := H
  simp only at *
  by_cases hs : sizeP k nn = 0
  · have kk := sizeP_kind hs
    have hn : 1 ≤ nn ∧ nn ≤ 64 ∧ (k ≠ 1 → nn ≤ 24) := by
      unfold sizeP at hs
      split at hs
      · split at hs
        · cases hs
        · split at hs
          · cases hs
          · exact ⟨by omega, by omega, fun h => absurd ‹_› h⟩
      · split at hs
        · split at hs
          · cases hs
          · split at hs
            · cases hs
            · exact ⟨by omega, by omega, fun _ => by omega⟩
        · split at hs
          · split at hs
            · cases hs
            · split at hs
              · cases hs
              · exact ⟨by omega, by omega, fun _ => by omega⟩
          · cases hs
    obtain ⟨n1, n2, n3⟩ := hn
    obtain ⟨n, rfl⟩ : ∃ n : Nat, nn = (n : Int) := ⟨nn.toNat, by omega⟩
    unfold checkP
    simp only [if_pos hs]
    unfold shapeP
    simp only
    by_cases k1 : k = 1
    · subst k1
      simp only [if_true]
      exact rcheck_1 n cap A B C a b c xs ys l w rA rB (by omega) (by omega)
    · rw [if_neg k1, if_neg k1]
      have hk : k = 2 ∨ k = 3 := by omega
      cases hf : (((l.length : Int) == (n : Int)) && (cap == 0) && decide (xs.length + ys.length = 0)) with
      | false =>
        simp only [Bool.false_and, Bool.false_eq_true, if_false]
        exact rcheck_flat k n cap A B C a b c xs ys l w hk (by omega) (by have := n3 k1; omega) hf
      | true =>
        simp only [Bool.and_eq_true, beq_iff_eq, decide_eq_true_eq] at hf
        obtain ⟨⟨h1, rfl⟩, h3⟩ := hf
        have e1 : xs = [] := List.eq_nil_of_length_eq_zero (by omega)
        have e2 : ys = [] := List.eq_nil_of_length_eq_zero (by omega)
        have e3 : l.length = n := by omega
        subst e1 e2
        have R := rcheck_sq k n A B C a b c l w rC hk (by omega) (by have := n3 k1; omega) e3
        rw [e3]
        simp only [List.length_nil]
        cases hany : (l.any fun r => (r.length : Int) != (n : Int)) with
        | true => rw [hany] at R; simpa using R
        | false => rw [hany] at R; simpa using R
  · have e : checkP ⟨k, nn, cap, xs, ys, l⟩ = sizeP k nn := by unfold checkP; simp only [if_neg hs]
    rw [e]
    exact rcheck_size k nn cap _ _ _ w hs
end Go.Proofs.Ytcpadkaljnnieaa
namespace Go.Proofs.Ytcpadkaljnnieaa
open Go.RowKit Go.ChangeShapes Go.WideShapes Go.ChangeAt Go.Deep

/-- each number is an int -/
def InstInts (i : InstP) : Prop := Ints i.weight ∧ Ints i.value ∧ ∀ r ∈ i.cost, Ints r
theorem RInst.ints {w : World} {vs : List Value} {i : InstP} (h : RInst w vs i) : InstInts i := by
  obtain ⟨A, a, B, b, C, c, rfl, ⟨_, h2, _⟩, ⟨_, h4, _⟩, ⟨h5, _⟩⟩ := h
  refine ⟨h2, h4, fun r hr => ?_⟩
  obtain ⟨k, hk, rfl⟩ := List.mem_iff_getElem.1 hr
  obtain ⟨_, _, _, row, _, _, _, _, he, _, _, hi, _⟩ := h5.ints hk
  have h := he.out
  rw [List.getElem?_eq_getElem hk] at h
  rw [Option.some.inj h]
  exact hi
theorem InstInts.copy {i : InstP} (h : InstInts i) : InstInts (copyP i) := by
  refine ⟨h.1.take _, h.2.1.take _, fun r hr => ?_⟩
  simp only [copyP, wantC, List.mem_map] at hr
  obtain ⟨q, hq, rfl⟩ := hr
  exact (h.2.2 q (List.mem_of_mem_take hq)).take _
theorem InstO.rinst {w : World} {base : Nat} {vs : List Value} {i : InstP} (h : InstO w base vs i) (hi : InstInts i) : RInst w vs i := by
  obtain ⟨A, a, B, b, C, c, us, rfl, h1, h2, h3, h4⟩ := h
  refine ⟨A, a, B, b, C, c, rfl, ⟨h1.read, hi.1, h1.le.1, h1.le.2⟩, ⟨h2.read, hi.2.1, h2.le.1, h2.le.2⟩, ?_, h3.le.1, h3.le.2⟩
  rcases h3.read with h0 | ⟨b', off, cur, hA, hb, hc⟩
  · left
    have := h4.1
    rw [h0] at this
    exact List.eq_nil_of_length_eq_zero this.symm
  · refine .inr ⟨b', off, hA, (Array.getElem?_eq_some_iff.1 hb).1, fun k r hr => ?_⟩
    obtain ⟨A', c', hu, ho⟩ := h4.2 k r hr
    refine ⟨[.slice A' r.length c'], ⟨A', c', rfl, ho.read, hi.2.2 r (List.mem_of_getElem? hr), ho.le.1, ho.le.2⟩, rfl, fun j v hj => ?_⟩
    cases j with
    | zero =>
      simp at hj
      subst hj
      rw [cell_of_row w b' _ cur _ (0, 0) hb]
      simpa using hc k _ hu
    | succ j => simp at hj
theorem InstO.ext {w w' : World} {base : Nat} {vs : List Value} {i : InstP} (h : InstO w base vs i) (x : Ext w w') : InstO w' base vs i := by
  obtain ⟨A, a, B, b, C, c, us, rfl, h1, h2, h3, h4⟩ := h
  exact ⟨A, a, B, b, C, c, us, rfl, h1.ext x, h2.ext x, h3.ext x, h4.ext x⟩
theorem InstO.modT {w w' : World} {base base' : Nat} {ts : List TypeId} {vs : List Value} {i : InstP} (h : InstO w base vs i) (k : ModT base' ts w w') (h1 : 3 ∉ ts) (h2 : 22 ∉ ts) : InstO w' base vs i := by
  obtain ⟨A, a, B, b, C, c, us, rfl, g1, g2, g3, g4⟩ := h
  exact ⟨A, a, B, b, C, c, us, rfl, g1.modT k h1, g2.modT k h1, g3.modT k h2, g4.modT k h1⟩
theorem copyP_lens (i : InstP) : (copyP i).weight.length ≤ 70 ∧ (copyP i).value.length ≤ 70 ∧ (copyP i).cost.length ≤ 30 := by
  refine ⟨List.length_take_le _ _, List.length_take_le _ _, ?_⟩
  simp [copyP, wantC]
  omega
/-- the copied problem put in the place of the given one -/
theorem put_copy {w w2 : World} {a0 a1 a2 a3 a4 a5 u0 u1 u2 u3 u4 u5 : Value} {j : InstP} {base : Nat}
    (hB : Blk w2 w.heap.size 61 #[a0, a1, a2, a3, a4, a5]) (x : Ext w w2) (hO : InstO w2 base [u0, u1, u2, u3, u4, u5] j) :
    Ext w ((((((w2.setCell ⟨w.heap.size, 0, none⟩ u0).setCell ⟨w.heap.size, 1, none⟩ u1).setCell ⟨w.heap.size, 2, none⟩ u2).setCell ⟨w.heap.size, 3, none⟩ u3).setCell ⟨w.heap.size, 4, none⟩ u4).setCell ⟨w.heap.size, 5, none⟩ u5) ∧
    Blk ((((((w2.setCell ⟨w.heap.size, 0, none⟩ u0).setCell ⟨w.heap.size, 1, none⟩ u1).setCell ⟨w.heap.size, 2, none⟩ u2).setCell ⟨w.heap.size, 3, none⟩ u3).setCell ⟨w.heap.size, 4, none⟩ u4).setCell ⟨w.heap.size, 5, none⟩ u5) w.heap.size 61 #[u0, u1, u2, u3, u4, u5] ∧
    InstO ((((((w2.setCell ⟨w.heap.size, 0, none⟩ u0).setCell ⟨w.heap.size, 1, none⟩ u1).setCell ⟨w.heap.size, 2, none⟩ u2).setCell ⟨w.heap.size, 3, none⟩ u3).setCell ⟨w.heap.size, 4, none⟩ u4).setCell ⟨w.heap.size, 5, none⟩ u5) base [u0, u1, u2, u3, u4, u5] j := by
  obtain ⟨h1, h2⟩ := set6 hB (base := w.heap.size) (Nat.le_refl _) u0 u1 u2 u3 u4 u5
  exact ⟨x.modT h2 (Nat.le_refl _), h1, hO.modT h2 (by decide) (by decide)⟩
theorem InstO.six {w : World} {base : Nat} {vs : List Value} {i : InstP} (h : InstO w base vs i) : ∃ A3 l3 c3 A4 l4 c4 A5 l5 c5, vs = [.int .i64 i.kind, .int .i64 i.n, .int .i64 i.cap, .slice A3 l3 c3, .slice A4 l4 c4, .slice A5 l5 c5] := by
  obtain ⟨A, a, B, b, C, c, us, rfl, _⟩ := h
  exact ⟨_, _, _, _, _, _, _, _, _, rfl⟩
def CopyTo (j : InstP) (w : World) (e : Ending) (w' : World) : Prop := ∃ vs, e = .returned (.agg (List.toArray vs)) ∧ InstO w' w.heap.size vs j ∧ Ext w w'
theorem copy_to {i j : InstP} (hj : j = copyP i) (vs : List Value) (w : World) (H : RInst w vs i) : Calls Try.prog 27 #[.agg (List.toArray vs)] w (CopyTo j w) := by subst hj; exact copy_any vs i w H
end Go.Proofs.Ytcpadkaljnnieaa
namespace Go.Proofs.Ytcpadkaljnnieaa

/-- a problem over a square, in form -/
structure SquareOk (i : InstP) : Prop where
  n1 : 1 ≤ i.n
  n2 : i.n ≤ 24
  len : (i.cost.length : Int) = i.n
  row : ∀ r ∈ i.cost, (r.length : Int) = i.n
  num : ∀ r ∈ i.cost, ∀ x ∈ r, 0 ≤ x ∧ x ≤ 2147483647
  w : i.weight = []
  v : i.value = []
theorem numP_none {n : Int} (h : numP n = 0) : 0 ≤ n ∧ n ≤ 2147483647 := by
  unfold numP at h
  split at h
  · cases h
  · split at h
    · cases h
    · omega
theorem rowE_zero : ∀ {l : List Int} {k : Int} {r c : Nat}, rowE k r c l = 0 → ∀ x ∈ l, 0 ≤ x ∧ x ≤ 2147483647
  | [], _, _, _, _, x, hx => by cases hx
  | n :: l, k, r, c, h, x, hx => by
    unfold rowE at h
    split at h
    · rename_i hn
      split at h
      · cases h
      · rcases List.mem_cons.1 hx with rfl | hx
        · exact numP_none hn
        · exact rowE_zero h x hx
    · rename_i hn
      exact absurd h hn
theorem rowsE_zero : ∀ {l : List (List Int)} {k : Int} {r : Nat}, rowsE k r l = 0 → ∀ q ∈ l, ∀ x ∈ q, 0 ≤ x ∧ x ≤ 2147483647
  | [], _, _, _, q, hq => by cases hq
  | row :: l, k, r, h, q, hq => by
    unfold rowsE at h
    split at h
    · rename_i hr
      rcases List.mem_cons.1 hq with rfl | hq
      · exact rowE_zero hr
      · exact rowsE_zero h q hq
    · rename_i hr
      exact absurd h hr
theorem square_ok {i : InstP} (h : checkP i = 0) (hk : i.kind ≠ 1) : SquareOk i := by
  unfold checkP at h
  by_cases hs : sizeP i.kind i.n = 0
  · rw [if_pos hs] at h
    by_cases hsh : shapeP i = true
    · rw [if_pos hsh, if_neg hk] at h
      unfold shapeP at hsh
      rw [if_neg hk] at hsh
      simp only [Bool.and_eq_true, beq_iff_eq, decide_eq_true_eq, Bool.not_eq_true', List.any_eq_false, bne_iff_ne, ne_eq, Decidable.not_not] at hsh
      obtain ⟨⟨⟨h1, h2⟩, h3⟩, h4⟩ := hsh
      unfold sizeP at hs
      rw [if_neg hk] at hs
      have hn : 1 ≤ i.n ∧ i.n ≤ 24 := by
        split at hs
        · split at hs
          · cases hs
          · split at hs
            · cases hs
            · omega
        · split at hs
          · split at hs
            · cases hs
            · split at hs
              · cases hs
              · omega
          · cases hs
      exact ⟨hn.1, hn.2, h1, h4, rowsE_zero h, List.eq_nil_of_length_eq_zero (by omega), List.eq_nil_of_length_eq_zero (by omega)⟩
    · rw [if_neg hsh] at h
      cases h
  · rw [if_neg hs] at h
    exact absurd h hs
/-- which columns are left; none: no beginning -/
def freeM (m : Nat) : List Int → Option Nat
  | [] => some m
  | c :: p => if 0 ≤ c ∧ c < 64 ∧ m.testBit c.toNat = true then freeM (clrM m c.toNat) p else none
def freeP (n : Nat) (p : List Int) : Option Nat := if n < p.length then none else freeM (2 ^ n - 1) p
theorem clrM_lt (m i : Nat) : clrM m i < 18446744073709551616 := andNotN_lt _ _
/-- a set of numbers below n -/
def SubN (n m : Nat) : Prop := m < 18446744073709551616 ∧ ∀ x ∈ memsM m, x < n
theorem subN_full {n : Nat} (h : n ≤ 24) : SubN n (2 ^ n - 1) := by
  refine ⟨?_, fun x hx => ?_⟩
  · have : 2 ^ n ≤ 2 ^ 24 := Nat.pow_le_pow_right (by omega) h
    omega
  · rw [memsM_full (by omega)] at hx
    exact List.mem_range.1 hx
theorem SubN.clr {n m : Nat} (h : SubN n m) (i : Nat) : SubN n (clrM m i) := by
  refine ⟨clrM_lt _ _, fun x hx => h.2 x ?_⟩
  rw [memsM_clr h.1] at hx
  exact (List.mem_filter.1 hx).1
theorem freeM_sub {n : Nat} : ∀ {p : List Int} {m q : Nat}, SubN n m → freeM m p = some q → SubN n q
  | [], m, q, h, e => by
    simp only [freeM, Option.some.injEq] at e
    subst e
    exact h
  | c :: p, m, q, h, e => by
    unfold freeM at e
    split at e
    · exact freeM_sub (h.clr _) e
    · cases e
theorem rows_ok {i : InstP} (h : SquareOk i) : RowsOk i.cost := by
  have h1 := h.n1
  have h2 := h.n2
  have h3 := h.len
  refine ⟨by omega, by omega, fun r hr => ?_, h.num⟩
  have := h.row r hr
  omega
end Go.Proofs.Ytcpadkaljnnieaa
namespace Go.Proofs.Ytcpadkaljnnieaa
open Go.RowKit Go.ChangeShapes Go.WideShapes Go.ChangeAt Go.Deep

theorem freeM_cons (m : Nat) (c : Int) (p : List Int) : freeM m (c :: p) = if 0 ≤ c ∧ c < 64 ∧ m.testBit c.toNat = true then freeM (clrM m c.toNat) p else none := rfl
end Go.Proofs.Ytcpadkaljnnieaa
namespace Go.Proofs.Ytcpadkaljnnieaa
open Go.RowKit Go.ChangeShapes Go.WideShapes Go.ChangeAt Go.Deep Go.Shelf
attribute [local go_sem] Oper.semAt_some

/-- the least one, by the loop's own words -/
def leastN (f : Nat → Int) (b : Int) (l : List Nat) : Int := l.foldl (fun b x => if b < 0 then f x else if f x < b then f x else b) b
theorem leastN_snoc (f : Nat → Int) (b : Int) (l : List Nat) (x : Nat) : leastN f b (l ++ [x]) = if leastN f b l < 0 then f x else if f x < leastN f b l then f x else leastN f b l := by
  unfold leastN
  rw [List.foldl_append]
  rfl
end Go.Proofs.Ytcpadkaljnnieaa
namespace Go.Proofs.Ytcpadkaljnnieaa
open Go.RowKit Go.ChangeShapes Go.WideShapes Go.ChangeAt Go.Deep Go.Shelf
attribute [local go_sem] Oper.semAt_some

def offL (rows : List (List Int)) (l : List Nat) : List Int := rows.map fun row => leastN (fun c => row.getD c 0) (-1) l
/-- the least of a column beyond what the rows cost, from row k on -/
def colF (c : Nat) (b : Int) : List (List Int) → List Int → Int
  | row :: rows, o :: off => colF c (if b < 0 then row.getD c 0 - o else if row.getD c 0 - o < b then row.getD c 0 - o else b) rows off
  | _, _ => b
def reduceP (rows : List (List Int)) (l : List Nat) : Int := sumL (offL rows l) + sumL (l.map fun c => colF c (-1) rows (offL rows l))
theorem leastN_bd {f : Nat → Int} {B : Int} : ∀ {l : List Nat} {b : Int}, (∀ c ∈ l, -B ≤ f c ∧ f c ≤ B) → -B ≤ b → b ≤ B → -B ≤ leastN f b l ∧ leastN f b l ≤ B
  | [], b, _, h1, h2 => ⟨h1, h2⟩
  | c :: l, b, h, h1, h2 => by
    have hc := h c (by simp)
    have e : leastN f b (c :: l) = leastN f (if b < 0 then f c else if f c < b then f c else b) l := rfl
    rw [e]
    refine leastN_bd (fun x hx => h x (by simp [hx])) ?_ ?_ <;> split <;> (try split) <;> omega
theorem colF_bd {c : Nat} {B : Int} : ∀ {rows : List (List Int)} {off : List Int} {b : Int}, (∀ row ∈ rows, 0 ≤ row.getD c 0 ∧ row.getD c 0 ≤ B) → (∀ o ∈ off, -B ≤ o ∧ o ≤ B) → 0 ≤ B → -(2 * B) ≤ b → b ≤ 2 * B → -(2 * B) ≤ colF c b rows off ∧ colF c b rows off ≤ 2 * B
  | [], off, b, _, _, _, h1, h2 => by cases off <;> exact ⟨h1, h2⟩
  | _ :: _, [], b, _, _, _, h1, h2 => ⟨h1, h2⟩
  | row :: rows, o :: off, b, hr, ho, h0, h1, h2 => by
    have a1 := hr row (by simp)
    have a2 := ho o (by simp)
    unfold colF
    refine colF_bd (fun x hx => hr x (by simp [hx])) (fun x hx => ho x (by simp [hx])) h0 ?_ ?_ <;> split <;> (try split) <;> omega
theorem sumA_snoc (a : List Int) (x : Int) : sumL (a ++ [x]) = sumL a + x := by rw [sumL_app]; simp [sumL]
theorem sumA_bd {B : Int} : ∀ {l : List Int}, (∀ x ∈ l, -B ≤ x ∧ x ≤ B) → -(B * l.length) ≤ sumL l ∧ sumL l ≤ B * l.length
  | [], _ => by simp [sumL]
  | x :: l, h => by
    have h1 := h x (by simp)
    have h2 := sumA_bd (l := l) fun y hy => h y (by simp [hy])
    simp only [sumL, List.length_cons, Int.natCast_add, Int.natCast_one, Int.mul_add, Int.mul_one]
    omega
end Go.Proofs.Ytcpadkaljnnieaa
namespace Go.Proofs.Ytcpadkaljnnieaa
open Go

section
variable {F : Fence} {n : Nat} {P : Program} {ops : Array Oper} {md : Region.Mode} {C : World → Prop}
end
end Go.Proofs.Ytcpadkaljnnieaa
namespace Go.Proofs.Ytcpadkaljnnieaa
open Go.RowKit Go.ChangeShapes Go.WideShapes Go.ChangeAt Go.Deep Go.Shelf
attribute [local go_sem] Oper.semAt_some

end Go.Proofs.Ytcpadkaljnnieaa
namespace Go.Proofs.Ytcpadkaljnnieaa
open Go.RowKit Go.ChangeShapes Go.WideShapes Go.ChangeAt Go.Deep Go.Shelf

def boundA (rows : List (List Int)) (p : List Int) : Int × Int :=
  match freeP rows.length p with
  | none => (0, 1)
  | some m => (costF rows p + (if p.length < rows.length then reduceP (rows.drop p.length) (memsM m) else 0), 0)
theorem freeM_in {n : Nat} : ∀ {p : List Int} {m q : Nat}, SubN n m → freeM m p = some q → ∀ c ∈ p, 0 ≤ c ∧ c < n
  | [], _, _, _, _, c, hc => by cases hc
  | d :: p, m, q, h, e, c, hc => by
    unfold freeM at e
    split at e
    · rename_i hd
      rcases List.mem_cons.1 hc with rfl | hc
      · have := h.2 c.toNat (memsM_mem.2 ⟨by omega, hd.2.2⟩)
        omega
      · exact freeM_in (h.clr _) e c hc
    · cases e
theorem freeP_in {n : Nat} (h24 : n ≤ 24) {p : List Int} {q : Nat} (e : freeP n p = some q) : p.length ≤ n ∧ (∀ c ∈ p, 0 ≤ c ∧ c < n) ∧ SubN n q := by
  unfold freeP at e
  split at e
  · cases e
  · exact ⟨by omega, freeM_in (subN_full h24) e, freeM_sub (subN_full h24) e⟩
theorem costF_snoc : ∀ {rows : List (List Int)} {p : List Int} {k : Nat} {row : List Int} {c : Int}, rows[k]? = some row → p[k]? = some c → costF rows (p.take (k + 1)) = costF rows (p.take k) + row.getD c.toNat 0
  | r :: rows, d :: p, 0, row, c, h1, h2 => by
    simp at h1 h2
    subst h1 h2
    cases rows <;> simp [costF]
  | r :: rows, d :: p, k + 1, row, c, h1, h2 => by
    simp at h1 h2
    simp only [List.take_succ_cons, costF]
    rw [costF_snoc h1 h2]
    omega
  | [], _, _, _, _, h1, _ => by simp at h1
  | _ :: _, [], _, _, _, _, h2 => by simp at h2
theorem costF_bd {B : Int} (hB : 0 ≤ B) : ∀ {rows : List (List Int)} {p : List Int}, (∀ row ∈ rows, ∀ c ∈ p, 0 ≤ row.getD c.toNat 0 ∧ row.getD c.toNat 0 ≤ B) → 0 ≤ costF rows p ∧ costF rows p ≤ B * p.length
  | [], p, _ => by
    have : 0 ≤ B * (p.length : Int) := Int.mul_nonneg hB (by omega)
    simp only [costF]
    omega
  | _ :: _, [], _ => by simp [costF]
  | r :: rows, d :: p, h => by
    have h1 := h r (by simp) d (by simp)
    have h2 := costF_bd hB (rows := rows) (p := p) fun row hr c hc => h row (by simp [hr]) c (by simp [hc])
    simp only [costF, List.length_cons, Int.natCast_add, Int.natCast_one, Int.mul_add, Int.mul_one]
    omega
theorem reduceP_bd {rows : List (List Int)} {m : Nat} (hr : rows.length ≤ 24) (h : ∀ row ∈ rows, ∀ c ∈ memsM m, 0 ≤ row.getD c 0 ∧ row.getD c 0 ≤ 2147483647) : -(2147483647 * 300) ≤ reduceP rows (memsM m) ∧ reduceP rows (memsM m) ≤ 2147483647 * 300 := by
  have h1 : ∀ o ∈ offL rows (memsM m), -2147483647 ≤ o ∧ o ≤ 2147483647 := fun o ho => by
    obtain ⟨row, hr, rfl⟩ := List.mem_map.1 ho
    exact leastN_bd (fun c hc => by have := h row hr c hc; omega) (by omega) (by omega)
  have h2 := sumA_bd (B := 2147483647) h1
  have h3 : (offL rows (memsM m)).length = rows.length := by simp [offL]
  have h4 := sumA_bd (B := 2 * 2147483647) (l := (memsM m).map fun c => colF c (-1) rows (offL rows (memsM m))) fun z hz => by
    obtain ⟨c, hc, rfl⟩ := List.mem_map.1 hz
    exact colF_bd (fun row hr => h row hr c hc) h1 (by omega) (by omega) (by omega)
  have h5 := memsM_le m
  rw [List.length_map] at h4
  unfold reduceP
  omega
theorem RowsO.drop {w : World} {base : Nat} {us : List Value} {rows : List (List Int)} (h : RowsO w base us rows) (k : Nat) : RowsO w base (us.drop k) (rows.drop k) := by
  refine ⟨by rw [List.length_drop, List.length_drop, h.1], fun i r hr => ?_⟩
  rw [List.getElem?_drop] at hr
  obtain ⟨A, c, h1, h2⟩ := h.2 (k + i) r hr
  exact ⟨A, c, by rw [List.getElem?_drop]; exact h1, h2⟩
end Go.Proofs.Ytcpadkaljnnieaa
namespace Go.Proofs.Ytcpadkaljnnieaa
open Go.RowKit Go.ChangeShapes Go.WideShapes Go.ChangeAt Go.Deep

end Go.Proofs.Ytcpadkaljnnieaa
namespace Go.Proofs.Ytcpadkaljnnieaa
open Go.RowKit Go.ChangeShapes Go.WideShapes Go.ChangeAt Go.Deep

/-- a list of its own, and a word -/
def OwnPost (ks : List Int) (err : Int) (w : World) (e : Ending) (w' : World) : Prop := ∃ A c, e = .returned (.tuple #[.slice A ks.length c, .int .i64 err]) ∧ OwI w' w.heap.size A c ks ∧ Ext w w'
end Go.Proofs.Ytcpadkaljnnieaa
namespace Go.Proofs.Ytcpadkaljnnieaa

/-- sorted by the strict order -/
abbrev Srt (lt : Nat → Nat → Bool) (l : List Nat) : Prop := l.Pairwise (strictly lt)
/-- a list that is sorted, and just these numbers -/
def Is (lt : Nat → Nat → Bool) (l m : List Nat) : Prop := m.Perm l ∧ Srt lt m
theorem strictly.le {lt : Nat → Nat → Bool} (h : Weak lt) {x y : Nat} (hs : strictly lt x y) : lt y x = false := by
  rcases hs with h1 | ⟨h1, _⟩
  · exact h.asym _ _ h1
  · exact h1
end Go.Proofs.Ytcpadkaljnnieaa
namespace Go.Proofs.Ytcpadkaljnnieaa

section
variable {α : Type}
end

theorem Is.rf {lt : Nat → Nat → Bool} {l : List Nat} (h : Srt lt l) : Is lt l l := ⟨List.Perm.refl _, h⟩
theorem Is.perm {lt : Nat → Nat → Bool} {l l' m : List Nat} (h : Is lt l m) (hp : l.Perm l') : Is lt l' m := ⟨h.1.trans hp, h.2⟩
theorem Is.len {lt : Nat → Nat → Bool} {l m : List Nat} (h : Is lt l m) : m.length = l.length := h.1.length_eq
theorem Is.mem {lt : Nat → Nat → Bool} {l m : List Nat} (h : Is lt l m) {x : Nat} : x ∈ m ↔ x ∈ l := h.1.mem_iff
/-- of two that are sorted of the same there is one -/
theorem Is.one {lt : Nat → Nat → Bool} (h : Weak lt) {l m m' : List Nat} (h1 : Is lt l m) (h2 : Is lt l m') : m = m' :=
  List.Perm.eq_of_pairwise (le := strictly lt) (fun _ _ _ _ h3 h4 => absurd h4 (h.asymm h3)) h1.2 h2.2 (h1.1.trans h2.1.symm)
end Go.Proofs.Ytcpadkaljnnieaa
namespace Go.Proofs.Ytcpadkaljnnieaa

def strB (lt : Nat → Nat → Bool) (a b : Nat) : Bool := lt a b || (!lt b a && decide (a < b))
theorem strB_iff {lt : Nat → Nat → Bool} {a b : Nat} : strB lt a b = true ↔ strictly lt a b := by
  unfold strB strictly
  cases lt a b <;> cases lt b a <;> simp
/-- how many of these stand ahead of a -/
def aheadL (lt : Nat → Nat → Bool) (l : List Nat) (a : Nat) : Nat := l.countP fun b => strB lt b a
theorem aheadL_snoc (lt : Nat → Nat → Bool) (l : List Nat) (a b : Nat) : aheadL lt (l ++ [b]) a = aheadL lt l a + if strB lt b a = true then 1 else 0 := by
  unfold aheadL
  rw [List.countP_append]
  simp [List.countP_cons]
theorem aheadL_le (lt : Nat → Nat → Bool) (l : List Nat) (a : Nat) : aheadL lt l a ≤ l.length := List.countP_le_length
/-- each of these at its place, so many of them -/
def placeK (f : Nat → Nat) (l : List Nat) : Nat → List Int
  | 0 => List.replicate l.length 0
  | k + 1 => (placeK f l k).set (f (l.getD k 0)) ((l.getD k 0 : Nat) : Int)
theorem placeK_len (f : Nat → Nat) (l : List Nat) : ∀ m, (placeK f l m).length = l.length
  | 0 => by simp [placeK]
  | m + 1 => by simp [placeK, placeK_len f l m]
theorem placeK_at {f : Nat → Nat} {l : List Nat} (hf : ∀ a b, a ∈ l → b ∈ l → f a = f b → a = b) (hn : ∀ a ∈ l, f a < l.length) : ∀ m, m ≤ l.length → ∀ i a, i < m → l[i]? = some a → (placeK f l m)[f a]? = some (a : Int)
  | 0, _, i, a, h, _ => by omega
  | m + 1, hm, i, a, h, ha => by
    unfold placeK
    have hmem := List.mem_of_getElem? ha
    have hk : l[m]? = some l[m] := List.getElem?_eq_getElem (by omega)
    rw [List.getD_eq_getElem?_getD, hk, Option.getD_some]
    by_cases e : f l[m] = f a
    · have e' := hf _ _ (List.getElem_mem _) hmem e
      rw [e, List.getElem?_set_self (by rw [placeK_len]; exact hn a hmem), e']
    · rw [List.getElem?_set_ne e]
      refine placeK_at hf hn m (by omega) i a ?_ ha
      rcases Nat.lt_or_eq_of_le (Nat.le_of_lt_succ h) with h' | rfl
      · exact h'
      · rw [hk] at ha
        exact absurd (by rw [Option.some.inj ha]) e
def sortP (lt : Nat → Nat → Bool) (l : List Nat) : List Nat := msortP lt l.length l
theorem sortP_is {lt : Nat → Nat → Bool} (h : Weak lt) {l : List Nat} (hr : l.Pairwise (· < ·)) : Is lt l (sortP lt l) := ⟨msortP_perm _ _ _, msortP_sorted h _ _ (by omega) hr⟩
theorem sortP_len (lt : Nat → Nat → Bool) (l : List Nat) : (sortP lt l).length = l.length := (msortP_perm _ _ _).length_eq
theorem aheadL_at {lt : Nat → Nat → Bool} (h : Weak lt) {l : List Nat} (hr : l.Pairwise (· < ·)) {k a : Nat} (ha : (sortP lt l)[k]? = some a) : aheadL lt l a = k := by
  have hs := sortP_is h hr
  unfold aheadL
  rw [← hs.1.countP_eq]
  exact count_at (R := strictly lt) (fun x y h1 h2 => h.asymm h1 h2) h.irrefl hs.2 ha fun b => strB_iff
theorem place_sort {lt : Nat → Nat → Bool} (h : Weak lt) {l : List Nat} (hr : l.Pairwise (· < ·)) : placeK (aheadL lt l) l l.length = (sortP lt l).map (fun n : Nat => (n : Int)) := by
  have at' : ∀ a ∈ l, ∃ k, (sortP lt l)[k]? = some a ∧ aheadL lt l a = k ∧ k < l.length := fun a ha => by
    obtain ⟨k, hk, e⟩ := List.mem_iff_getElem.1 ((sortP_is h hr).mem.2 ha)
    have e' : (sortP lt l)[k]? = some a := by rw [List.getElem?_eq_getElem hk, e]
    exact ⟨k, e', aheadL_at h hr e', by rwa [sortP_len] at hk⟩
  have inj : ∀ a b, a ∈ l → b ∈ l → aheadL lt l a = aheadL lt l b → a = b := fun a b ha hb e => by
    obtain ⟨k, h1, h2, _⟩ := at' a ha
    obtain ⟨j, h3, h4, _⟩ := at' b hb
    have : k = j := by omega
    subst this
    rw [h1] at h3
    exact Option.some.inj h3
  refine List.ext_getElem? fun k => ?_
  by_cases hk : k < l.length
  · have hk' : k < (sortP lt l).length := by rw [sortP_len]; exact hk
    have e : (sortP lt l)[k]? = some (sortP lt l)[k] := List.getElem?_eq_getElem hk'
    have h1 := aheadL_at h hr e
    have hm : (sortP lt l)[k] ∈ l := (sortP_is h hr).mem.1 (List.mem_of_getElem? e)
    obtain ⟨i, hi, ei⟩ := List.mem_iff_getElem.1 hm
    have h2 := placeK_at (f := aheadL lt l) inj (fun a ha => by obtain ⟨_, _, _, _⟩ := at' a ha; omega) l.length (Nat.le_refl _) i _ hi (by rw [List.getElem?_eq_getElem hi, ei])
    simp only [h1] at h2
    rw [h2, List.getElem?_map, e]
    rfl
  · rw [List.getElem?_eq_none (by rw [placeK_len]; omega), List.getElem?_eq_none (by rw [List.length_map, sortP_len]; omega)]
end Go.Proofs.Ytcpadkaljnnieaa
namespace Go.Proofs.Ytcpadkaljnnieaa
open Go.RowKit Go.ChangeShapes Go.WideShapes Go.ChangeAt Go.Deep

theorem intsN_get {l : List Nat} {k n : Nat} (h : l[k]? = some n) : (intsN l)[k]? = some (n : Int) := by simp [intsN, h]
end Go.Proofs.Ytcpadkaljnnieaa
namespace Go.Proofs.Ytcpadkaljnnieaa
open Go.RowKit Go.ChangeShapes Go.WideShapes Go.ChangeAt Go.Deep

def ltC (cf : Nat → Nat → Int) (x y : Nat) : Bool := decide (cf x y < 0)
end Go.Proofs.Ytcpadkaljnnieaa
namespace Go.Proofs.Ytcpadkaljnnieaa
open Go.RowKit Go.ChangeShapes Go.WideShapes Go.ChangeAt Go.Deep

end Go.Proofs.Ytcpadkaljnnieaa
namespace Go.Proofs.Ytcpadkaljnnieaa
open Go.RowKit Go.ChangeShapes Go.WideShapes Go.ChangeAt Go.Deep

end Go.Proofs.Ytcpadkaljnnieaa
namespace Go.Proofs.Ytcpadkaljnnieaa
open Go.RowKit Go.ChangeShapes Go.WideShapes Go.ChangeAt Go.Deep

end Go.Proofs.Ytcpadkaljnnieaa
namespace Go.Proofs.Ytcpadkaljnnieaa
open Go.RowKit Go.ChangeShapes Go.WideShapes Go.ChangeAt Go.Deep

/-- what a row's numbers say of two columns -/
def cfR (row : List Int) (a b : Nat) : Int := row.getD a 0 - row.getD b 0
theorem cfR_weak (row : List Int) : Weak (ltC (cfR row)) where
  asym a b h := by
    unfold ltC cfR at *
    simp only [decide_eq_true_eq, decide_eq_false_iff_not] at *
    omega
  neg a b c h := by
    unfold ltC cfR at *
    simp only [decide_eq_true_eq] at *
    omega
def kidsA (rows : List (List Int)) (p : List Int) : List Int × Int :=
  match freeP rows.length p with
  | none => ([], 1)
  | some m => (intsN (sortP (ltC (cfR (rows.getD p.length []))) (memsM m)), 0)
theorem filter_ne_len {i : Nat} : ∀ {l : List Nat}, l.Pairwise (· < ·) → i ∈ l → (l.filter fun j => decide (i ≠ j)).length + 1 = l.length
  | [], _, h => by cases h
  | x :: l, hp, h => by
    have hp' := List.pairwise_cons.1 hp
    by_cases e : i = x
    · subst e
      have : l.filter (fun j => decide (i ≠ j)) = l := List.filter_eq_self.2 fun y hy => by
        have := hp'.1 y hy
        simp; omega
      rw [List.filter_cons_of_neg (by simp), this]; rfl
    · rcases List.mem_cons.1 h with h | h
      · exact absurd h e
      · rw [List.filter_cons_of_pos (by simpa using e), List.length_cons, List.length_cons, filter_ne_len hp'.2 h]
theorem freeM_len {n : Nat} : ∀ {p : List Int} {m q : Nat}, SubN n m → freeM m p = some q → (memsM q).length + p.length = (memsM m).length
  | [], m, q, _, e => by
    simp only [freeM, Option.some.injEq] at e
    subst e; rfl
  | c :: p, m, q, h, e => by
    unfold freeM at e
    split at e
    · rename_i hc
      have h1 := freeM_len (h.clr _) e
      have h2 := filter_ne_len (memsM_sorted m) (memsM_mem.2 ⟨by omega, hc.2.2⟩ : c.toNat ∈ memsM m)
      rw [← memsM_clr h.1] at h2
      rw [List.length_cons]
      omega
    · cases e
theorem freeP_len {n : Nat} (h24 : n ≤ 24) {p : List Int} {q : Nat} (e : freeP n p = some q) : (memsM q).length + p.length = n := by
  unfold freeP at e
  split at e
  · cases e
  · rw [freeM_len (subN_full h24) e, memsM_full (by omega), List.length_range]
theorem Mod.heap {g : Nat} {w w' : World} (h : Mod (fun k => k = g) w w') {a : World} (x : Ext a w) (hg : a.heap.size ≤ g) : Ext a w' := x.mod h fun k hk e => by omega
end Go.Proofs.Ytcpadkaljnnieaa
namespace Go.Proofs.Ytcpadkaljnnieaa
open Go.RowKit Go.ChangeShapes Go.WideShapes Go.ChangeAt Go.Deep

end Go.Proofs.Ytcpadkaljnnieaa
namespace Go.Proofs.Ytcpadkaljnnieaa
open Go.RowKit Go.ChangeShapes Go.WideShapes Go.ChangeAt Go.Deep

/-- which columns are used, as the cells say -/
def usedC (n m : Nat) : Array Value := ((List.range 24).map fun c => Value.bool (decide (c < n) && !m.testBit c)).toArray
theorem usedC_at {n m c : Nat} (hc : c < 24) : (usedC n m)[c]? = some (.bool (decide (c < n) && !m.testBit c)) := by
  unfold usedC
  simp [hc]
theorem usedC_set {n m c : Nat} (h : m < 18446744073709551616) (hc : c < n) : (usedC n m).setIfInBounds c (.bool true) = usedC n (clrM m c) := by
  apply Array.ext_getElem?
  intro i
  by_cases hi : i < 24
  · rw [usedC_at hi]
    by_cases e : c = i
    · subst e
      rw [Array.getElem?_setIfInBounds_self_of_lt (by unfold usedC; simp; omega), clrM_bit h]
      simp [hc]
    · rw [Array.getElem?_setIfInBounds_ne e, usedC_at hi, clrM_bit h]
      simp [e]
  · rw [Array.getElem?_eq_none (by unfold usedC; simp; omega), Array.getElem?_eq_none (by unfold usedC; simp; omega)]
abbrev used0 : Array Value := #[.bool false, .bool false, .bool false, .bool false, .bool false, .bool false, .bool false, .bool false, .bool false, .bool false, .bool false, .bool false, .bool false, .bool false, .bool false, .bool false, .bool false, .bool false, .bool false, .bool false, .bool false, .bool false, .bool false, .bool false]
theorem usedC_full {n : Nat} (h : n ≤ 24) : usedC n (2 ^ n - 1) = used0 := by
  apply Array.ext_getElem?
  intro i
  by_cases hi : i < 24
  · rw [usedC_at hi]
    have e : (decide (i < n) && !(2 ^ n - 1).testBit i) = false := by
      rw [Nat.testBit_two_pow_sub_one]
      cases decide (i < n) <;> rfl
    rw [e]
    have : i = 0 ∨ i = 1 ∨ i = 2 ∨ i = 3 ∨ i = 4 ∨ i = 5 ∨ i = 6 ∨ i = 7 ∨ i = 8 ∨ i = 9 ∨ i = 10 ∨ i = 11 ∨ i = 12 ∨ i = 13 ∨ i = 14 ∨ i = 15 ∨ i = 16 ∨ i = 17 ∨ i = 18 ∨ i = 19 ∨ i = 20 ∨ i = 21 ∨ i = 22 ∨ i = 23 := by omega
    rcases this with rfl | rfl | rfl | rfl | rfl | rfl | rfl | rfl | rfl | rfl | rfl | rfl | rfl | rfl | rfl | rfl | rfl | rfl | rfl | rfl | rfl | rfl | rfl | rfl <;> rfl
  · rw [Array.getElem?_eq_none (by unfold usedC; simp; omega), Array.getElem?_eq_none (by simp; omega)]
theorem memsM_range {n m : Nat} (h : SubN n m) (hn : n ≤ 64) : memsM m = (List.range n).filter fun c => m.testBit c := by
  refine List.Perm.eq_of_pairwise (le := (· < ·)) (fun a b _ _ h1 h2 => by omega) (memsM_sorted m) (List.Pairwise.filter _ List.pairwise_lt_range) ?_
  refine (List.perm_ext_iff_of_nodup ((memsM_sorted m).imp fun h => Nat.ne_of_lt h) ((List.Pairwise.filter _ List.pairwise_lt_range).imp fun h => Nat.ne_of_lt h)).2 fun c => ?_
  rw [memsM_mem]
  simp only [List.mem_filter, List.mem_range]
  constructor
  · rintro ⟨h1, h2⟩
    exact ⟨h.2 c (memsM_mem.2 ⟨h1, h2⟩), h2⟩
  · rintro ⟨h1, h2⟩
    exact ⟨by omega, h2⟩
def FreeSome (m : Nat) (w : World) (e : Ending) (w' : World) : Prop := ∃ A c, e = .returned (.tuple #[.slice A (memsM m).length c, .bool true]) ∧ OwI w' w.heap.size A c (intsN (memsM m)) ∧ Ext w w'
def RFree (r : Option Nat) (w : World) (e : Ending) (w' : World) : Prop := match r with
  | none => e = .returned (.tuple #[.slice none 0 0, .bool false]) ∧ Ext w w'
  | some m => FreeSome m w e w'
def upTo (m k : Nat) : List Nat := (List.range k).filter fun c => m.testBit c
theorem upTo_succ (m k : Nat) : upTo m (k + 1) = upTo m k ++ if m.testBit k = true then [k] else [] := by
  unfold upTo
  rw [List.range_succ, List.filter_append]
  by_cases h : m.testBit k = true
  · rw [if_pos h]; simp [h]
  · rw [if_neg h]; simp [h]
theorem upTo_len (m k : Nat) : (upTo m k).length ≤ k := by
  have := List.length_filter_le (fun c => m.testBit c) (List.range k)
  rwa [List.length_range] at this
set_option maxRecDepth 100000 in
set_option maxHeartbeats 4000000 in
theorem rfree_any (i : InstP) (us : List Value) (P : Option Addr) (pc : Nat) (p : List Int) (w : World) (H : RInst w us i) (n : Nat) (hn : i.n = n) (h1 : 1 ≤ n) (h24 : n ≤ 24) (hP : RdI w P p) (lp : p.length ≤ 1000000000) :
    Calls Try.prog 119 #[.agg (List.toArray us), .slice P p.length pc] w (RFree (freeP n p) w) := by
  obtain ⟨kind, nn, cap, xw, xv, co⟩ := i
  obtain ⟨A, a, B, b, D, d, rfl, -, -, -⟩ := H
  simp only at *
  subst hn
  have UF := Lib.hid (subN_full h24)
  obtain ⟨r, hr⟩ : ∃ r, Hid (freeP n p = r) := ⟨_, rfl⟩
  rw [hr.out]
  unfold freeP at hr
  replace hP := Lib.hid hP
  have B1 : Hid (Blk (w.alloc (.cells #[.int .i64 kind, .int .i64 n, .int .i64 cap, .slice A xw.length a, .slice B xv.length b, .slice D co.length d] 61)) w.heap.size 61 #[.int .i64 kind, .int .i64 n, .int .i64 cap, .slice A xw.length a, .slice B xv.length b, .slice D co.length d]) := .new rfl
  by_cases hlen : n < p.length
  · have hr2 : Hid (r = none) := by
      have h := hr.out
      rw [if_pos hlen] at h
      exact h.symm
    have hlb : (n : Int) < (p.length : Int) := by omega
    rw [hr2.out]
    unfold RFree
    clear hr hr2
    go_enter Try.func119, Try.ntmps119
    go_wp2_with (fail)
    go_ret2
    exact ⟨rfl, by (repeat (first | assumption | exact Ext.rf _ | apply Ext.drew | apply Ext.drewN | apply Ext.alloc))⟩
  · have hr2 : Hid (freeM (2 ^ n - 1) p = r) := by
      have h := hr.out
      rw [if_neg hlen] at h
      exact h
    have hlb : ¬ (n : Int) < (p.length : Int) := by omega
    obtain ⟨m0, hm0⟩ : ∃ m0, Hid (m0 = 2 ^ n - 1) := ⟨2 ^ n - 1, by exact rfl⟩
    have FU2 : Hid (usedC n m0 = used0) := by rw [hm0.out]; exact usedC_full h24
    rw [← hm0.out] at hr2 UF
    have START : Hid (Ext w ((w.alloc (.cells #[.int .i64 kind, .int .i64 n, .int .i64 cap, .slice A xw.length a, .slice B xv.length b, .slice D co.length d] 61)).alloc (.cells #[.bool false, .bool false, .bool false, .bool false, .bool false, .bool false, .bool false, .bool false, .bool false, .bool false, .bool false, .bool false, .bool false, .bool false, .bool false, .bool false, .bool false, .bool false, .bool false, .bool false, .bool false, .bool false, .bool false, .bool false] 156)) ∧ Blk ((w.alloc (.cells #[.int .i64 kind, .int .i64 n, .int .i64 cap, .slice A xw.length a, .slice B xv.length b, .slice D co.length d] 61)).alloc (.cells #[.bool false, .bool false, .bool false, .bool false, .bool false, .bool false, .bool false, .bool false, .bool false, .bool false, .bool false, .bool false, .bool false, .bool false, .bool false, .bool false, .bool false, .bool false, .bool false, .bool false, .bool false, .bool false, .bool false, .bool false] 156)) w.heap.size 61 #[.int .i64 kind, .int .i64 n, .int .i64 cap, .slice A xw.length a, .slice B xv.length b, .slice D co.length d] ∧ Blk ((w.alloc (.cells #[.int .i64 kind, .int .i64 n, .int .i64 cap, .slice A xw.length a, .slice B xv.length b, .slice D co.length d] 61)).alloc (.cells #[.bool false, .bool false, .bool false, .bool false, .bool false, .bool false, .bool false, .bool false, .bool false, .bool false, .bool false, .bool false, .bool false, .bool false, .bool false, .bool false, .bool false, .bool false, .bool false, .bool false, .bool false, .bool false, .bool false, .bool false] 156)) (w.heap.size + 1) 156 (usedC n m0)) :=
      ⟨((Ext.rf _).alloc _).alloc _, B1.out.alloc _, by rw [FU2.out]; exact .new (by simp)⟩
    clear hr
    go_enter Try.func119, Try.ntmps119
    go_wp2_with (fail)
    go_loopw [7] (fun v wr => ∃ (k m : Nat), v = .int .i64 k ∧ k ≤ p.length ∧ Hid (freeM m (p.drop k) = r) ∧ Hid (SubN n m) ∧ Hid (Ext w wr ∧ Blk wr w.heap.size 61 #[.int .i64 kind, .int .i64 n, .int .i64 cap, .slice A xw.length a, .slice B xv.length b, .slice D co.length d] ∧ Blk wr (w.heap.size + 1) 156 (usedC n m))) (fun v _ => p.length - (intOf v).toNat)
    case atStart => exact ⟨0, m0, rfl, by omega, hr2, UF, START⟩
    case round =>
      obtain ⟨wo, rfl⟩ : ∃ wo : World, wo = wr := ⟨_, rfl⟩
      clear START FU2
      obtain ⟨k, m, rfl, hk, HF, HU, HH⟩ := hrel
      obtain ⟨Y, bI, bU⟩ := HH.out
      have cN : wo.cell? ⟨w.heap.size, 1, none⟩ = some (.int .i64 n) := bI.cell 1
      replace Y := Lib.hid Y
      replace bI := Lib.hid bI
      replace bU := Lib.hid bU
      clear HH
      by_cases hlt : k < p.length
      · obtain ⟨pb, po, c, rfl, zp, cp, ep, dp⟩ := (hP.out.ext Y.out).at hlt
        have HF2 : Hid (r = if 0 ≤ c ∧ c < 64 ∧ m.testBit c.toNat = true then freeM (clrM m c.toNat) (p.drop (k + 1)) else none) := by
          have h := HF.out
          rw [dp.out, freeM_cons] at h
          exact h.symm
        have q1 : (k : Int) < (p.length : Int) := by omega
        clear HF ep dp
        by_cases c0 : c < 0
        · have HN : Hid (r = none) := by
            have h := HF2.out
            rw [if_neg (by omega)] at h
            exact h
          have t0 : decide (c < 0) = true := decide_eq_true c0
          go_wp2_with (fail)
          go_quiet (fail)
          go_wp2_with (fail)
          go_ret2
          rw [HN.out]
          exact ⟨rfl, Y.out.drewN _⟩
        · have t0 : decide (c < 0) = false := decide_eq_false c0
          obtain ⟨ci, rfl⟩ : ∃ ci : Nat, c = (ci : Int) := ⟨c.toNat, by omega⟩
          rw [Int.toNat_natCast] at HF2
          clear c0 t0
          by_cases c1 : n ≤ ci
          · have HN : Hid (r = none) := by
              have h := HF2.out
              rw [if_neg (by rintro ⟨_, h1, h2⟩; have := HU.out.2 ci (memsM_mem.2 ⟨by omega, h2⟩); omega)] at h
              exact h
            have t1 : decide (n ≤ ci) = true := decide_eq_true c1
            have t2 : decide ((n : Int) ≤ (ci : Int)) = true := decide_eq_true (by omega)
            go_wp2_with (fail)
            go_quiet (fail)
            go_wp2_with (fail)
            go_ret2
            rw [HN.out]
            exact ⟨rfl, Y.out.drewN _⟩
          · have t1 : decide (n ≤ ci) = false := decide_eq_false c1
            have t2 : decide ((n : Int) ≤ (ci : Int)) = false := decide_eq_false (by omega)
            have cin : ci < n := by omega
            have ci24 : (ci : Int) < 24 := by omega
            have dn : decide (ci < n) = true := decide_eq_true cin
            cases hb : m.testBit ci with
            | false =>
              have HN : Hid (r = none) := by
                have h := HF2.out
                rw [if_neg (by rintro ⟨_, h1, h2⟩; rw [hb] at h2; cases h2)] at h
                exact h
              have cu : wo.cell? ⟨w.heap.size + 1, ci, none⟩ = some (.bool true) := by rw [bU.out.cell, usedC_at (by omega), dn, hb]; rfl
              clear HF2 hb dn
              go_wp2_with (fail)
              go_quiet (fail)
              go_wp2_with (fail)
              go_ret2
              rw [HN.out]
              exact ⟨rfl, Y.out.drewN _⟩
            | true =>
              have HF3 : Hid (freeM (clrM m ci) (p.drop (k + 1)) = r) := by
                have h := HF2.out
                rw [if_pos ⟨by omega, by omega, hb⟩] at h
                exact h.symm
              have cu : wo.cell? ⟨w.heap.size + 1, ci, none⟩ = some (.bool false) := by rw [bU.out.cell, usedC_at (by omega), dn, hb]; rfl
              have fu := bU.out.free ci
              have HU2 := Lib.hid (HU.out.clr ci)
              have NX : Hid (∀ q, Ext w ((wo.drewN q).setCell ⟨w.heap.size + 1, ci, none⟩ (.bool true)) ∧ Blk ((wo.drewN q).setCell ⟨w.heap.size + 1, ci, none⟩ (.bool true)) w.heap.size 61 #[.int .i64 kind, .int .i64 n, .int .i64 cap, .slice A xw.length a, .slice B xv.length b, .slice D co.length d] ∧ Blk ((wo.drewN q).setCell ⟨w.heap.size + 1, ci, none⟩ (.bool true)) (w.heap.size + 1) 156 (usedC n (clrM m ci))) := by
                intro q
                refine ⟨(Y.out.drewN q).setNew (by simp) _, (bI.out.drewN q).far (by simp) _, ?_⟩
                rw [← usedC_set HU.out.1 cin]
                exact (bU.out.drewN q).set ci _
              clear HF2 hb dn
              generalize clrM m ci = m2 at *
              go_wp2_with (fail)
              go_quiet (fail)
              go_wp2_with (fail)
              go_roundw
              case rel => exact ⟨k + 1, m2, by go_num, by omega, HF3, HU2, NX.out _⟩
              case measure => simp [intOf]; omega
      · have HF2 : Hid (some m = r) := by
          have h := HF.out
          rw [show p.drop k = [] from List.drop_of_length_le (by omega)] at h
          exact h
        have q1 : ¬ (k : Int) < (p.length : Int) := by omega
        have HM : Hid (memsM m = upTo m n) := memsM_range HU.out (by omega)
        have X9 := Lib.hid (Y.out.alloc (.cells #[] 3))
        have bI9 := Lib.hid (bI.out.alloc (.cells #[] 3))
        have bU9 := Lib.hid (bU.out.alloc (.cells #[] 3))
        have zY := Y.out.size
        have o9 : Hid (OwI (wo.alloc (.cells #[] 3)) w.heap.size (some ⟨wo.heap.size, 0, none⟩) 0 (intsN (upTo m 0))) := OwI.new (xs := []) rfl zY (by simp [maxLen])
        clear HF HU hr2
        go_wp2_with (fail)
        go_loopw [9, 8] (fun v o wr => ∃ (k : Nat) (A' : Option Addr) (c' : Nat), v = .int .i64 k ∧ o = .slice A' (upTo m k).length c' ∧ k ≤ n ∧ Hid (OwI wr w.heap.size A' c' (intsN (upTo m k))) ∧ Hid (Ext w wr) ∧ Hid (Blk wr w.heap.size 61 #[.int .i64 kind, .int .i64 n, .int .i64 cap, .slice A xw.length a, .slice B xv.length b, .slice D co.length d]) ∧ Hid (Blk wr (w.heap.size + 1) 156 (usedC n m))) (fun v _ _ => n - (intOf v).toNat)
        case atStart => exact ⟨0, _, _, rfl, rfl, by omega, o9, X9, bI9, bU9⟩
        case round =>
          obtain ⟨wi, rfl⟩ : ∃ wi : World, wi = wr := ⟨_, rfl⟩
          obtain ⟨j, A', c', rfl, rfl, hj, oJ, YJ, bIJ, bUJ⟩ := hrel
          clear X9 bI9 bU9 o9
          have cN2 : wi.cell? ⟨w.heap.size, 1, none⟩ = some (.int .i64 n) := bIJ.out.cell 1
          have US := Lib.hid (upTo_succ m j)
          have UL := upTo_len m j
          by_cases hjn : j < n
          · have j24 : (j : Int) < 24 := by omega
            have dn : decide (j < n) = true := decide_eq_true hjn
            have q3 : (j : Int) < (n : Int) := by omega
            cases hb : m.testBit j with
            | false =>
              have cu : wi.cell? ⟨w.heap.size + 1, j, none⟩ = some (.bool true) := by rw [bUJ.out.cell, usedC_at (by omega), dn, hb]; rfl
              have HE : Hid (upTo m (j + 1) = upTo m j) := by
                have h := US.out
                rw [hb, if_neg (by simp), List.append_nil] at h
                exact h
              clear US hb dn
              go_wp2_with (fail)
              go_roundw
              case rel => exact ⟨j + 1, A', c', by go_num, by rw [HE.out], by omega, by rw [HE.out]; exact oJ, YJ, bIJ, bUJ⟩
              case measure => simp [intOf]; omega
            | true =>
              have cu : wi.cell? ⟨w.heap.size + 1, j, none⟩ = some (.bool false) := by rw [bUJ.out.cell, usedC_at (by omega), dn, hb]; rfl
              have HE : Hid (upTo m (j + 1) = upTo m j ++ [j]) := by
                have h := US.out
                rw [hb, if_pos rfl] at h
                exact h
              have HE2 : Hid (intsN (upTo m (j + 1)) = intsN (upTo m j) ++ [(j : Int)]) := by
                have h : intsN (upTo m (j + 1)) = intsN (upTo m j) ++ [(j : Int)] := by rw [HE.out]; simp [intsN]
                exact h
              have HL : Hid ((upTo m (j + 1)).length = (upTo m j).length + 1) := by
                have h : (upTo m (j + 1)).length = (upTo m j).length + 1 := by rw [HE.out]; simp
                exact h
              have zJ := YJ.out.size
              have e0 : (upTo m j).length = (intsN (upTo m j)).length := (intsN_len _).symm
              have l0 : (intsN (upTo m j)).length ≤ 24 := by rw [intsN_len]; omega
              rw [e0]
              clear US hb dn UL e0 HE
              replace l0 := Lib.hid l0
              go_wp2_with (at_builtin; refine wpl_app_i _ rfl _ _ rfl w.heap.size A' (intsN (upTo m j)).length c' (intsN (upTo m j)) [(j : Int)] (some ⟨wi.heap.size, 0, none⟩) 1 rfl rfl rfl ?_ ?_ ?_ ?_ ?_; (exact oJ.out.ext ((Ext.rf _).alloc _)); (exact .blk (.new (by simp)) rfl); (have := l0.out; simp; omega); (first | exact Nat.le_refl _ | omega | (focus (simp; try omega))); rintro A5 c5 w5 o5 g5 _; have X5 := Lib.hid (Ext.grow (YJ.out.alloc _) g5 (fun k hk => (oJ.out.lt k hk).1)); have bI5 : Hid (Blk w5 w.heap.size 61 #[.int .i64 kind, .int .i64 n, .int .i64 cap, .slice A xw.length a, .slice B xv.length b, .slice D co.length d]) := (bIJ.out.alloc _).mod (Mod.grown (S := fun k => bl A' = some k) g5 (fun _ h => h)) (fun h => absurd rfl (oJ.out.ne bIJ.out (by decide) _ h)); have bU5 : Hid (Blk w5 (w.heap.size + 1) 156 (usedC n m)) := (bUJ.out.alloc _).mod (Mod.grown (S := fun k => bl A' = some k) g5 (fun _ h => h)) (fun h => absurd rfl (oJ.out.ne bUJ.out (by decide) _ h)); rw [← HE2.out] at o5; replace o5 := Lib.hid o5; clear g5)
              go_roundw
              case rel => exact ⟨j + 1, A5, c5, by go_num, by rw [HL.out, intsN_len], by omega, o5, X5, bI5, bU5⟩
              case measure => simp [intOf]; omega
          · obtain rfl : j = n := by omega
            have q3 : ¬ (j : Int) < (j : Int) := by omega
            have FIN : Hid (FreeSome m w (.returned (.tuple #[.slice A' (upTo m j).length c', .bool true])) wi) := ⟨A', c', by rw [HM.out], by rw [HM.out]; exact oJ.out, YJ.out⟩
            clear US UL
            go_wp2_with (fail)
            go_ret2
            rw [← HF2.out]
            exact FIN.out
end Go.Proofs.Ytcpadkaljnnieaa
namespace Go.Proofs.Ytcpadkaljnnieaa
open Go.RowKit Go.ChangeShapes Go.WideShapes Go.ChangeAt Go.Deep

theorem strB_cfR (row : List Int) (x y : Nat) : strB (ltC (cfR row)) x y = (decide (row.getD x 0 < row.getD y 0) || (decide (row.getD x 0 = row.getD y 0) && decide (x < y))) := by
  unfold strB ltC cfR
  rw [Bool.eq_iff_iff]
  simp only [Bool.or_eq_true, Bool.and_eq_true, Bool.not_eq_true', decide_eq_true_eq, decide_eq_false_iff_not]
  omega
theorem rise_lt {l : List Nat} (h : l.Pairwise (· < ·)) {i j x y : Nat} (hx : l[i]? = some x) (hy : l[j]? = some y) : decide (x < y) = decide (i < j) := by
  obtain ⟨h1, rfl⟩ := List.getElem?_eq_some_iff.1 hx
  obtain ⟨h2, rfl⟩ := List.getElem?_eq_some_iff.1 hy
  rw [decide_eq_decide]
  rcases Nat.lt_trichotomy i j with hc | hc | hc
  · exact ⟨fun _ => hc, fun _ => List.pairwise_iff_getElem.1 h i j h1 h2 hc⟩
  · subst hc; omega
  · have := List.pairwise_iff_getElem.1 h j i h2 h1 hc
    omega
set_option maxRecDepth 100000 in
set_option maxHeartbeats 8000000 in
theorem rkids12_any (i : InstP) (us : List Value) (P : Option Addr) (pc : Nat) (p : List Int) (w : World) (H : RInst w us i) (ok : SquareOk i) (hP : RdI w P p) (lp : p.length ≤ 1000000000) :
    Calls Try.prog 125 #[.agg (List.toArray us), .slice P p.length pc] w (OwnPost (kidsA i.cost p).1 (kidsA i.cost p).2 w) := by
  have rok := rows_ok ok
  have l1 := rok.n1
  have l2 := rok.n2
  have hnn : i.n = (i.cost.length : Int) := ok.len.symm
  have FR := fun (W : World) (x : Ext w W) => rfree_any i us P pc p W (H.ext x) i.cost.length hnn l1 l2 (hP.ext x) lp
  clear ok
  obtain ⟨kind, nn, cap, xw, xv, co⟩ := i
  obtain ⟨A, a, B, b, D, d, rfl, -, -, ⟨hC, -, -⟩⟩ := H
  simp only at *
  subst hnn
  obtain ⟨r, hr⟩ : ∃ r, Hid (freeP co.length p = r) := ⟨_, rfl⟩
  rw [hr.out] at FR
  replace hP := Lib.hid hP
  have B1 : Hid (Blk (w.alloc (.cells #[.int .i64 kind, .int .i64 co.length, .int .i64 cap, .slice A xw.length a, .slice B xv.length b, .slice D co.length d] 61)) w.heap.size 61 #[.int .i64 kind, .int .i64 co.length, .int .i64 cap, .slice A xw.length a, .slice B xv.length b, .slice D co.length d]) := .new rfl
  cases r with
  | none =>
    have e : kidsA co p = ([], 1) := by unfold kidsA; rw [hr.out]
    rw [e]
    unfold RFree at FR
    replace FR := Lib.hid FR
    go_enter Try.func125, Try.ntmps125
    go_wp2_with (fail)
    refine (FR.out _ (by (repeat (first | assumption | exact Ext.rf _ | apply Ext.drew | apply Ext.drewN | apply Ext.alloc)))).mono ?_
    rintro e w1 ⟨rfl, x1⟩
    have X1 := Lib.hid (Ext.tr (a := w) (by (repeat (first | assumption | exact Ext.rf _ | apply Ext.drew | apply Ext.drewN | apply Ext.alloc))) x1)
    clear x1
    go_wp2_with (fail)
    go_ret2
    exact ⟨none, 0, rfl, OwI.nil _ _, X1.out⟩
  | some m =>
    obtain ⟨hpl, hin, hS⟩ := freeP_in l2 hr.out
    have hlen := freeP_len l2 hr.out
    have e : kidsA co p = (intsN (sortP (ltC (cfR (co.getD p.length []))) (memsM m)), 0) := by unfold kidsA; rw [hr.out]
    rw [e]
    clear e
    have hsub := Lib.hid hS.2
    have hsrt := Lib.hid (memsM_sorted m)
    replace FR := fun (W : World) (x : Ext w W) => (show Calls _ _ _ W (FreeSome m W) from FR W x)
    unfold FreeSome at FR
    replace FR := Lib.hid FR
    clear hr hS hin
    generalize memsM m = l at *
    by_cases hpn : p.length = co.length
    · obtain rfl : l = [] := List.eq_nil_of_length_eq_zero (by omega)
      have e : sortP (ltC (cfR (co.getD p.length []))) [] = [] := rfl
      rw [e]
      have hb : ((p.length : Int) == (co.length : Int)) = true := by rw [beq_iff_eq]; omega
      replace hpn := Lib.hid hpn
      clear e
      go_enter Try.func125, Try.ntmps125
      go_wp2_with (fail)
      refine (FR.out _ (by (repeat (first | assumption | exact Ext.rf _ | apply Ext.drew | apply Ext.drewN | apply Ext.alloc)))).mono ?_
      rintro e w1 ⟨A1, c1, rfl, o1, x1⟩
      have X1 := Lib.hid (Ext.tr (a := w) (by (repeat (first | assumption | exact Ext.rf _ | apply Ext.drew | apply Ext.drewN | apply Ext.alloc))) x1)
      have BB := B1.out.ext x1
      have d1 : w1.cell? ⟨w.heap.size, 1, none⟩ = some (.int .i64 co.length) := BB.cell 1
      clear x1 o1 BB
      go_wp2_with (fail)
      go_ret2
      exact ⟨none, 0, rfl, OwI.nil _ _, X1.out⟩
    · have hb : ((p.length : Int) == (co.length : Int)) = false := by rw [beq_eq_false_iff_ne]; omega
      have hkr : p.length < co.length := by omega
      have er : co[p.length]? = some co[p.length] := List.getElem?_eq_getElem hkr
      have eg : co.getD p.length [] = co[p.length] := by simp [List.getD, er]
      rw [eg]
      clear eg
      replace hC := Lib.hid hC
      have hmem : co[p.length] ∈ co := List.getElem_mem hkr
      have lrow := rok.row _ hmem
      clear hmem
      have HCO : Hid (∀ W, Ext w W → ∃ bb off D' row d', D = some ⟨bb, off, none⟩ ∧ W.cell? ⟨bb, off + p.length, none⟩ = some (.slice D' row.length d') ∧ RdI W D' row ∧ row = co[p.length]) := by
        intro W x
        obtain ⟨bb, off, D', row, d', h1, _, h3, h4, _, h6, _⟩ := (hC.out.ext x fun _ _ h => h.ext x).ints hkr
        refine ⟨bb, off, D', row, d', h1, h3, h6, ?_⟩
        have := h4.out
        rw [er] at this
        exact (Option.some.inj this).symm
      generalize co[p.length] = row0 at *
      clear er
      have q1 : (p.length : Int) < (co.length : Int) := by omega
      have hl24 : l.length ≤ 24 := by omega
      replace lrow := Lib.hid lrow
      replace hlen := Lib.hid hlen
      clear hpn
      go_enter Try.func125, Try.ntmps125
      go_wp2_with (fail)
      refine (FR.out _ (by (repeat (first | assumption | exact Ext.rf _ | apply Ext.drew | apply Ext.drewN | apply Ext.alloc)))).mono ?_
      rintro e w1 ⟨A1, c1, rfl, o1, x1⟩
      have X1 := Lib.hid (Ext.tr (a := w) (by (repeat (first | assumption | exact Ext.rf _ | apply Ext.drew | apply Ext.drewN | apply Ext.alloc))) x1)
      have BB := Lib.hid (B1.out.ext x1)
      obtain ⟨bb, off, D', row, d', rfl, cD, rD, rfl⟩ := HCO.out _ X1.out
      have d1 : w1.cell? ⟨w.heap.size, 1, none⟩ = some (.int .i64 co.length) := BB.out.cell 1
      have d5 : w1.cell? ⟨w.heap.size, 5, none⟩ = some (.slice (some ⟨bb, off, none⟩) co.length d) := BB.out.cell 5
      have z1 := X1.out.size
      have zo := o1.lt
      replace o1 := Lib.hid o1.read
      replace rD := Lib.hid rD
      clear x1 HCO zo
      go_wp2_with (at_make; refine wpl_make_i _ rfl _ _ rfl w1.heap.size _ _ l.length rfl rfl rfl rfl (by omega) (Nat.le_refl _) ?_; rintro w3 o3 g3)
      have x3 : Ext w1 w3 := (Ext.rf _).grownNone g3
      have S3 : Hid (OwI w3 w1.heap.size (some ⟨w1.heap.size, 0, none⟩) l.length (placeK (aheadL (ltC (cfR row)) l) l 0) ∧ Ext w1 w3) := ⟨o3, x3⟩
      clear o3 g3 x3 d1 d5 cD
      go_wp2_with (fail)
      go_loopw [10] (fun v wr => ∃ k : Nat, v = .int .i64 k ∧ k ≤ l.length ∧ Hid (OwI wr w1.heap.size (some ⟨w1.heap.size, 0, none⟩) l.length (placeK (aheadL (ltC (cfR row)) l) l k) ∧ Ext w1 wr)) (fun v _ => l.length - (intOf v).toNat)
      case atStart => exact ⟨0, rfl, by omega, S3⟩
      case round =>
        obtain ⟨wo, rfl⟩ : ∃ wo : World, wo = wr := ⟨_, rfl⟩
        obtain ⟨k, rfl, hk, HS⟩ := hrel
        clear S3
        by_cases hlt : k < l.length
        · have q2 : (k : Int) < (l.length : Int) := by omega
          have ek : l[k]? = some l[k] := List.getElem?_eq_getElem hlt
          have hkm : l[k] ∈ l := List.getElem_mem hlt
          have HPK : Hid (placeK (aheadL (ltC (cfR row)) l) l (k + 1) = (placeK (aheadL (ltC (cfR row)) l) l k).set (aheadL (ltC (cfR row)) l l[k]) ((l[k] : Nat) : Int)) := by
            have h : placeK (aheadL (ltC (cfR row)) l) l (k + 1) = (placeK (aheadL (ltC (cfR row)) l) l k).set (aheadL (ltC (cfR row)) l (l.getD k 0)) ((l.getD k 0 : Nat) : Int) := rfl
            rw [show l.getD k 0 = l[k] by simp [List.getD, ek]] at h
            exact h
          have hxs := hsub.out _ hkm
          generalize l[k] = x at *
          obtain ⟨O, Y⟩ := HS.out
          clear HS
          replace O := Lib.hid O
          replace Y := Lib.hid Y
          go_wp2_with (fail)
          go_loopw [12, 11] (fun v nv wr => ∃ j : Nat, v = .int .i64 j ∧ nv = .int .i64 (aheadL (ltC (cfR row)) (l.take j) x : Nat) ∧ j ≤ l.length ∧ Hid (Ext wo wr)) (fun v _ _ => l.length - (intOf v).toNat)
          case atStart => exact ⟨0, rfl, rfl, by omega, Ext.rf _⟩
          case round =>
            obtain ⟨wi, rfl⟩ : ∃ wi : World, wi = wr := ⟨_, rfl⟩
            obtain ⟨j, rfl, rfl, hj, YI⟩ := hrel
            have hale := aheadL_le (ltC (cfR row)) (l.take j) x
            rw [List.length_take] at hale
            have rl : RdI wi A1 (intsN l) := (o1.out.ext Y.out).ext YI.out
            have rr : RdI wi D' row := (rD.out.ext Y.out).ext YI.out
            obtain ⟨lb, lo, xk, rfl, _, ck, exk, _⟩ := rl.at (k := k) (by rw [intsN_len]; exact hlt)
            obtain rfl : xk = (x : Int) := by
              have h := exk.out
              rw [intsN_get ek] at h
              exact (Option.some.inj h).symm
            obtain ⟨rb, ro, yk, rfl, _, cxk, eyk, _⟩ := rr.at (k := x) (by rw [lrow.out]; exact hxs)
            have gk : row.getD x 0 = yk := getD_some eyk.out
            clear exk eyk
            by_cases hjl : j < l.length
            · have q3 : (j : Int) < (l.length : Int) := by omega
              have ej : l[j]? = some l[j] := List.getElem?_eq_getElem hjl
              have hjs := hsub.out _ (List.getElem_mem hjl)
              have HA : Hid (aheadL (ltC (cfR row)) (l.take (j + 1)) x = aheadL (ltC (cfR row)) (l.take j) x + if strB (ltC (cfR row)) l[j] x = true then 1 else 0) := by
                have h : l.take (j + 1) = l.take j ++ [l[j]] := by rw [List.take_add_one, ej]; rfl
                have h2 := aheadL_snoc (ltC (cfR row)) (l.take j) x l[j]
                rw [← h] at h2
                exact h2
              have HB := rise_lt hsrt.out ej ek
              generalize l[j] = y at *
              obtain ⟨lb2, lo2, xj, hq, _, cj, exj, _⟩ := rl.at (k := j) (by rw [intsN_len]; exact hjl)
              obtain ⟨rfl, rfl⟩ : lb = lb2 ∧ lo = lo2 := by simpa using hq
              obtain rfl : xj = (y : Int) := by
                have h := exj.out
                rw [intsN_get ej] at h
                exact (Option.some.inj h).symm
              obtain ⟨rb2, ro2, yj, hq2, _, cxj, eyj, _⟩ := rr.at (k := y) (by rw [lrow.out]; exact hjs)
              obtain ⟨rfl, rfl⟩ : rb = rb2 ∧ ro = ro2 := by simpa using hq2
              have gj : row.getD y 0 = yj := getD_some eyj.out
              have HA2 : Hid (aheadL (ltC (cfR row)) (l.take (j + 1)) x = aheadL (ltC (cfR row)) (l.take j) x + if (decide (yj < yk) || (decide (yj = yk) && decide (j < k))) = true then 1 else 0) := by
                have h := HA.out
                rw [strB_cfR, gj, gk, HB] at h
                exact h
              have qx : (x : Int) < (row.length : Int) := by rw [lrow.out]; omega
              have qy : (y : Int) < (row.length : Int) := by rw [lrow.out]; omega
              clear HA HB ej exj eyj hq hq2 gj gk rl rr
              generalize aheadL (ltC (cfR row)) (l.take j) x = ah at *
              by_cases t1 : yj < yk
              · have d1 : decide (yj < yk) = true := decide_eq_true t1
                have HA3 : Hid (aheadL (ltC (cfR row)) (l.take (j + 1)) x = ah + 1) := by
                  have h := HA2.out
                  rw [d1, Bool.true_or, if_pos rfl] at h
                  exact h
                clear HA2
                go_wp2_with (fail)
                go_quiet (fail)
                go_wp2_with (fail)
                go_roundw
                case rel => exact ⟨j + 1, by go_num, by rw [HA3.out]; go_num, by omega, YI.out.drewN _⟩
                case measure => simp [intOf]; omega
              · have d1 : decide (yj < yk) = false := decide_eq_false t1
                by_cases t2 : yj = yk
                · have d2 : (yj == yk) = true := by rw [beq_iff_eq]; exact t2
                  have d2' : decide (yj = yk) = true := decide_eq_true t2
                  replace t2 := Lib.hid t2
                  by_cases t3 : j < k
                  · have d3 : decide (j < k) = true := decide_eq_true t3
                    have HA3 : Hid (aheadL (ltC (cfR row)) (l.take (j + 1)) x = ah + 1) := by
                      have h := HA2.out
                      rw [d1, d2', d3] at h
                      exact h
                    clear HA2 d2'
                    go_wp2_with (fail)
                    go_quiet (fail)
                    go_wp2_with (fail)
                    go_roundw
                    case rel => exact ⟨j + 1, by go_num, by rw [HA3.out]; go_num, by omega, YI.out.drewN _⟩
                    case measure => simp [intOf]; omega
                  · have d3 : decide (j < k) = false := decide_eq_false t3
                    have HA3 : Hid (aheadL (ltC (cfR row)) (l.take (j + 1)) x = ah) := by
                      have h := HA2.out
                      rw [d1, d2', d3] at h
                      exact h
                    clear HA2 d2'
                    go_wp2_with (fail)
                    go_quiet (fail)
                    go_wp2_with (fail)
                    go_roundw
                    case rel => exact ⟨j + 1, by go_num, by rw [HA3.out], by omega, YI.out.drewN _⟩
                    case measure => simp [intOf]; omega
                · have d2 : (yj == yk) = false := by rw [beq_eq_false_iff_ne]; exact t2
                  have d2' : decide (yj = yk) = false := decide_eq_false t2
                  have HA3 : Hid (aheadL (ltC (cfR row)) (l.take (j + 1)) x = ah) := by
                    have h := HA2.out
                    rw [d1, d2'] at h
                    exact h
                  clear HA2 d2'
                  go_wp2_with (fail)
                  go_quiet (fail)
                  go_wp2_with (fail)
                  go_roundw
                  case rel => exact ⟨j + 1, by go_num, by rw [HA3.out], by omega, YI.out.drewN _⟩
                  case measure => simp [intOf]; omega
            · obtain rfl : j = l.length := by omega
              have q3 : ¬ (l.length : Int) < (l.length : Int) := by omega
              have e0 : l.take l.length = l := List.take_length
              rw [e0]
              have hal : aheadL (ltC (cfR row)) l x < l.length := by
                have W := cfR_weak row
                obtain ⟨k', hk', e'⟩ := List.mem_iff_getElem.1 ((sortP_is W hsrt.out).mem.2 hkm)
                rw [aheadL_at W hsrt.out (by rw [List.getElem?_eq_getElem hk', e'])]
                rwa [sortP_len] at hk'
              clear e0 hale gk
              generalize aheadL (ltC (cfR row)) l x = ah at *
              obtain ⟨v9, c9, f9, _, _, s9⟩ := OwI.cell (OwI.ext O.out YI.out) (k := ah) (by rw [placeK_len]; exact hal)
              have q4 : (ah : Int) < (l.length : Int) := by omega
              have NX : Hid (∀ W2, Ext wi W2 → OwI (W2.setCell ⟨w1.heap.size, ah, none⟩ (.int .i64 x)) w1.heap.size (some ⟨w1.heap.size, 0, none⟩) l.length (placeK (aheadL (ltC (cfR row)) l) l (k + 1)) ∧ Ext w1 (W2.setCell ⟨w1.heap.size, ah, none⟩ (.int .i64 x))) := by
                intro W2 x2
                rw [HPK.out]
                obtain ⟨_, _, _, _, _, s8⟩ := OwI.cell (OwI.ext (OwI.ext O.out YI.out) x2) (k := ah) (by rw [placeK_len]; exact hal)
                exact ⟨s8.out _, ((Y.out.tr YI.out).tr x2).setNew (p := ⟨w1.heap.size, ah, none⟩) (Nat.le_refl _) _⟩
              clear s9 HPK rl rr
              go_wp2_with (first | go_quiet (fail) | go_region)
              go_roundw
              case rel => exact ⟨k + 1, by go_num, by omega, NX.out _ (by (repeat (first | assumption | exact Ext.rf _ | apply Ext.drew | apply Ext.drewN | apply Ext.alloc)))⟩
              case measure => simp [intOf]; omega
        · obtain rfl : k = l.length := by omega
          have q2 : ¬ (l.length : Int) < (l.length : Int) := by omega
          have FIN : Hid (OwnPost (intsN (sortP (ltC (cfR row)) l)) 0 w (.returned (.tuple #[.slice (some ⟨w1.heap.size, 0, none⟩) l.length l.length, .int .i64 0])) wo) := by
            refine ⟨some ⟨w1.heap.size, 0, none⟩, l.length, by rw [intsN_len, sortP_len], ?_, X1.out.tr HS.out.2⟩
            have h := HS.out.1
            rw [place_sort (cfR_weak row) hsrt.out] at h
            exact OwI.more h z1
          clear HS
          go_wp2_with (fail)
          go_ret2
          exact FIN.out
end Go.Proofs.Ytcpadkaljnnieaa
namespace Go.Proofs.Ytcpadkaljnnieaa
open Go.RowKit Go.ChangeShapes Go.WideShapes Go.ChangeAt Go.Deep

/-- the least one of a row -/
def leastL : Int → List Int → Int
  | b, [] => b
  | b, x :: l => leastL (if b < 0 then x else if x < b then x else b) l
theorem leastL_bd {B : Int} : ∀ {l : List Int} {b : Int}, (∀ x ∈ l, 0 ≤ x ∧ x ≤ B) → b ≤ B → (0 ≤ b ∨ l ≠ []) → 0 ≤ leastL b l ∧ leastL b l ≤ B
  | [], b, _, h1, h2 => by
    rcases h2 with h2 | h2
    · exact ⟨h2, h1⟩
    · exact absurd rfl h2
  | x :: l, b, h, h1, h2 => by
    have hx := h x (by simp)
    unfold leastL
    refine leastL_bd (fun y hy => h y (by simp [hy])) ?_ (.inl ?_) <;> split <;> (try split) <;> omega
theorem leastL_le : ∀ {l : List Int} {b : Int}, (∀ x ∈ l, 0 ≤ x) → (∀ x ∈ l, leastL b l ≤ x) ∧ (0 ≤ b → leastL b l ≤ b)
  | [], b, _ => ⟨fun x hx => absurd hx List.not_mem_nil, fun _ => Int.le_refl _⟩
  | x :: l, b, h => by
    have hx := h x (by simp)
    have ih := leastL_le (l := l) (b := if b < 0 then x else if x < b then x else b) fun y hy => h y (by simp [hy])
    unfold leastL
    refine ⟨fun y hy => ?_, fun hb => ?_⟩
    · rcases List.mem_cons.1 hy with rfl | hy
      · refine Int.le_trans (ih.2 ?_) ?_ <;> split <;> (try split) <;> omega
      · exact ih.1 y hy
    · refine Int.le_trans (ih.2 ?_) ?_ <;> split <;> (try split) <;> omega
theorem leastL_map (f : Nat → Int) : ∀ (l : List Nat) (b : Int), leastL b (l.map f) = leastN f b l
  | [], b => rfl
  | x :: l, b => by
    show leastL _ (l.map f) = _
    rw [leastL_map f l]
    rfl
def offs (ms : List (List Int)) : List Int := ms.map (leastL (-1))
def rcols (ms : List (List Int)) (L : Nat) : List Int := (List.range L).map fun c => colF c (-1) ms (offs ms)
def rreduceP (ms : List (List Int)) (L : Nat) : Int := sumL (offs ms) + sumL (rcols ms L)
theorem colF_map {g : Nat → Nat} {h : List Int → List Int} {c : Nat} : ∀ (rows : List (List Int)) (o : List Int) (b : Int), (∀ row ∈ rows, (h row).getD c 0 = row.getD (g c) 0) → colF c b (rows.map h) o = colF (g c) b rows o
  | [], o, b, _ => by cases o <;> rfl
  | row :: rows, [], b, _ => rfl
  | row :: rows, x :: o, b, hh => by
    have h1 := hh row (by simp)
    simp only [List.map_cons, colF]
    rw [h1]
    exact colF_map rows o _ fun q hq => hh q (by simp [hq])
theorem rreduce_eq (rows : List (List Int)) (l : List Nat) : rreduceP (rows.map fun row => l.map fun c => row.getD c 0) l.length = reduceP rows l := by
  have ho : offs (rows.map fun row => l.map fun c => row.getD c 0) = offL rows l := by
    unfold offs offL
    rw [List.map_map]
    refine List.map_congr_left fun row _ => ?_
    exact leastL_map (fun c => row.getD c 0) l (-1)
  unfold rreduceP reduceP rcols
  rw [ho]
  congr 2
  apply List.ext_getElem
  · simp
  intro k h1 h2
  simp only [List.length_map, List.length_range] at h1 h2
  rw [List.getElem_map, List.getElem_map, List.getElem_range]
  have := colF_map (g := fun k => l.getD k 0) (h := fun row => l.map fun c => row.getD c 0) (c := k) rows (offL rows l) (-1) (fun row _ => by
    simp [List.getD, h2])
  rw [this]
  simp [List.getD, h2]
theorem colF_pos {c : Nat} {B : Int} : ∀ {rows : List (List Int)} {off : List Int} {b : Int}, (∀ (k : Nat) (x : List Int) (o : Int), rows[k]? = some x → off[k]? = some o → 0 ≤ x.getD c 0 - o ∧ x.getD c 0 - o ≤ B) → rows.length = off.length → b ≤ B → (0 ≤ b ∨ rows ≠ []) → 0 ≤ colF c b rows off ∧ colF c b rows off ≤ B
  | [], off, b, _, _, h1, h2 => by
    rcases h2 with h2 | h2
    · cases off <;> exact ⟨h2, h1⟩
    · exact absurd rfl h2
  | row :: rows, [], b, _, hl, _, _ => by simp at hl
  | row :: rows, o :: off, b, h, hl, h1, h2 => by
    have hx := h 0 row o rfl rfl
    unfold colF
    refine colF_pos (fun k x o h3 h4 => h (k + 1) x o h3 h4) (by simpa using hl) ?_ (.inl ?_) <;> split <;> (try split) <;> omega
theorem sum_take_snoc {l : List Int} {k : Nat} {x : Int} (h : l[k]? = some x) : sumL (l.take (k + 1)) = sumL (l.take k) + x := by
  rw [List.take_add_one, h, sumL_app]
  simp [sumL]
theorem sum_take_bd {B : Int} {l : List Int} (h : ∀ x ∈ l, 0 ≤ x ∧ x ≤ B) (hB : 0 ≤ B) : ∀ k : Nat, 0 ≤ sumL (l.take k) ∧ sumL (l.take k) ≤ B * k
  | 0 => by simp [sumL]
  | k + 1 => by
    have h1 := sum_take_bd h hB k
    have e : B * ((k + 1 : Nat) : Int) = B * k + B := by rw [Int.natCast_add, Int.mul_add]; simp
    rw [e]
    by_cases hk : k < l.length
    · have ek : l[k]? = some l[k] := List.getElem?_eq_getElem hk
      rw [sum_take_snoc ek]
      have := h _ (List.getElem_mem hk)
      omega
    · rw [List.take_of_length_le (by omega)]
      rw [List.take_of_length_le (by omega)] at h1
      omega
/-- the rows' least ones, as the cells say -/
def lessC (off : List Int) (k : Nat) : Array Value := ((List.range 30).map fun j => Value.int .i64 (if j < k then off.getD j 0 else 0)).toArray
theorem lessC_at {off : List Int} {k j : Nat} (hj : j < 30) : (lessC off k)[j]? = some (.int .i64 (if j < k then off.getD j 0 else 0)) := by
  unfold lessC
  simp [hj]
theorem lessC_set {off : List Int} {k : Nat} {x : Int} (hk : k < 30) (hx : off[k]? = some x) : (lessC off k).setIfInBounds k (.int .i64 x) = lessC off (k + 1) := by
  apply Array.ext_getElem?
  intro i
  by_cases hi : i < 30
  · rw [lessC_at hi]
    by_cases e : k = i
    · subst e
      rw [Array.getElem?_setIfInBounds_self_of_lt (by unfold lessC; simp; omega), if_pos (by omega), getD_some hx]
    · rw [Array.getElem?_setIfInBounds_ne e, lessC_at hi]
      by_cases hik : i < k
      · rw [if_pos hik, if_pos (by omega)]
      · rw [if_neg hik, if_neg (by omega)]
  · rw [Array.getElem?_eq_none (by unfold lessC; simp; omega), Array.getElem?_eq_none (by unfold lessC; simp; omega)]
abbrev less0 : Array Value := #[.int .i64 0, .int .i64 0, .int .i64 0, .int .i64 0, .int .i64 0, .int .i64 0, .int .i64 0, .int .i64 0, .int .i64 0, .int .i64 0, .int .i64 0, .int .i64 0, .int .i64 0, .int .i64 0, .int .i64 0, .int .i64 0, .int .i64 0, .int .i64 0, .int .i64 0, .int .i64 0, .int .i64 0, .int .i64 0, .int .i64 0, .int .i64 0, .int .i64 0, .int .i64 0, .int .i64 0, .int .i64 0, .int .i64 0, .int .i64 0]
theorem lessC_zero (off : List Int) : lessC off 0 = less0 := by
  apply Array.ext_getElem?
  intro i
  by_cases hi : i < 30
  · rw [lessC_at hi, if_neg (by omega)]
    have : i = 0 ∨ i = 1 ∨ i = 2 ∨ i = 3 ∨ i = 4 ∨ i = 5 ∨ i = 6 ∨ i = 7 ∨ i = 8 ∨ i = 9 ∨ i = 10 ∨ i = 11 ∨ i = 12 ∨ i = 13 ∨ i = 14 ∨ i = 15 ∨ i = 16 ∨ i = 17 ∨ i = 18 ∨ i = 19 ∨ i = 20 ∨ i = 21 ∨ i = 22 ∨ i = 23 ∨ i = 24 ∨ i = 25 ∨ i = 26 ∨ i = 27 ∨ i = 28 ∨ i = 29 := by omega
    rcases this with rfl | rfl | rfl | rfl | rfl | rfl | rfl | rfl | rfl | rfl | rfl | rfl | rfl | rfl | rfl | rfl | rfl | rfl | rfl | rfl | rfl | rfl | rfl | rfl | rfl | rfl | rfl | rfl | rfl | rfl <;> rfl
  · rw [Array.getElem?_eq_none (by unfold lessC; simp; omega), Array.getElem?_eq_none (by simp; omega)]
set_option maxRecDepth 100000 in
theorem rreduce_nil (A : Option Addr) (mc : Nat) (w : World) : Calls Try.prog 120 #[.slice A 0 mc] w fun e w' => e = .returned (.int .i64 0) ∧ Ext w w' := by
  go_enter Try.func120, Try.ntmps120
  go_wp2_with (fail)
  refine wp_loop_rounds 1 ?_
  rw [rounds_succ]
  go_wp2_with (fail)
  refine wp_loop_rounds 1 ?_
  rw [rounds_succ]
  go_wp2_with (fail)
  go_ret
  exact ⟨rfl, by (repeat (first | assumption | exact Ext.rf _ | apply Ext.drew | apply Ext.drewN | apply Ext.alloc))⟩
set_option maxRecDepth 100000 in
set_option maxHeartbeats 8000000 in
theorem rreduce_any (ms : List (List Int)) (L : Nat) (M : Option Addr) (mc : Nat) (w : World) (hM : RdE 1 RInts w M ms) (hl : ∀ row ∈ ms, row.length = L) (h0 : 0 < L) (hL : L ≤ 24) (hn0 : 0 < ms.length) (hn : ms.length ≤ 24) (num : ∀ row ∈ ms, ∀ x ∈ row, 0 ≤ x ∧ x ≤ 2147483647) :
    Calls Try.prog 120 #[.slice M ms.length mc] w fun e w' => e = .returned (.int .i64 (rreduceP ms L)) ∧ Ext w w' := by
  have LO : (offs ms).length = ms.length := by simp [offs]
  have OB : ∀ x ∈ offs ms, 0 ≤ x ∧ x ≤ 2147483647 := fun x hx => by
    obtain ⟨row, hr, rfl⟩ := List.mem_map.1 hx
    exact leastL_bd (num row hr) (by omega) (.inr (by intro e; have := hl row hr; rw [e] at this; simp at this; omega))
  have OG : ∀ k row, ms[k]? = some row → (offs ms)[k]? = some (leastL (-1) row) := fun k row h => by unfold offs; rw [List.getElem?_map, h]; rfl
  have CB : ∀ x ∈ rcols ms L, 0 ≤ x ∧ x ≤ 2147483647 := fun x hx => by
    obtain ⟨c, hc, rfl⟩ := List.mem_map.1 hx
    have hc := List.mem_range.1 hc
    refine colF_pos (fun k row o h1 h2 => ?_) LO.symm (by omega) (.inr (by intro e; rw [e] at hn0; simp at hn0))
    rw [OG k row h1] at h2
    obtain rfl := Option.some.inj h2
    have hr := List.mem_of_getElem? h1
    have hcl : c < row.length := by rw [hl row hr]; exact hc
    have e : row.getD c 0 = row[c] := by simp [List.getD, hcl]
    have h3 := (leastL_le (b := -1) fun x hx => (num row hr x hx).1).1 _ (List.getElem_mem hcl)
    have h4 := num row hr _ (List.getElem_mem hcl)
    have h5 := OB _ (List.mem_map.2 ⟨row, hr, rfl⟩)
    rw [e]
    omega
  have CG : ∀ c, c < L → (rcols ms L)[c]? = some (colF c (-1) ms (offs ms)) := fun c hc => by simp [rcols, hc]
  have LC : (rcols ms L).length = L := by simp [rcols]
  have TOT : Hid (rreduceP ms L = sumL (offs ms) + sumL (rcols ms L)) := rfl
  generalize rreduceP ms L = tot at *
  have SB := sum_take_bd OB (by omega)
  have SC := sum_take_bd CB (by omega)
  have LZ := lessC_zero (offs ms)
  generalize offs ms = off at *
  generalize rcols ms L = cols at *
  have START : Hid (Ext w (w.alloc (.cells #[.int .i64 0, .int .i64 0, .int .i64 0, .int .i64 0, .int .i64 0, .int .i64 0, .int .i64 0, .int .i64 0, .int .i64 0, .int .i64 0, .int .i64 0, .int .i64 0, .int .i64 0, .int .i64 0, .int .i64 0, .int .i64 0, .int .i64 0, .int .i64 0, .int .i64 0, .int .i64 0, .int .i64 0, .int .i64 0, .int .i64 0, .int .i64 0, .int .i64 0, .int .i64 0, .int .i64 0, .int .i64 0, .int .i64 0, .int .i64 0] 157)) ∧ Blk (w.alloc (.cells #[.int .i64 0, .int .i64 0, .int .i64 0, .int .i64 0, .int .i64 0, .int .i64 0, .int .i64 0, .int .i64 0, .int .i64 0, .int .i64 0, .int .i64 0, .int .i64 0, .int .i64 0, .int .i64 0, .int .i64 0, .int .i64 0, .int .i64 0, .int .i64 0, .int .i64 0, .int .i64 0, .int .i64 0, .int .i64 0, .int .i64 0, .int .i64 0, .int .i64 0, .int .i64 0, .int .i64 0, .int .i64 0, .int .i64 0, .int .i64 0] 157)) w.heap.size 157 (lessC off 0)) :=
    ⟨(Ext.rf _).alloc _, by rw [LZ]; exact .new rfl⟩
  replace LO := Lib.hid LO
  replace OB := Lib.hid OB
  replace OG := Lib.hid OG
  replace CB := Lib.hid CB
  replace CG := Lib.hid CG
  replace LC := Lib.hid LC
  replace SB := Lib.hid SB
  replace SC := Lib.hid SC
  replace hl := Lib.hid hl
  replace num := Lib.hid num
  replace hM := Lib.hid hM
  clear LZ
  go_enter Try.func120, Try.ntmps120
  go_wp2_with (fail)
  go_loopw [5, 3] (fun v s wr => ∃ k : Nat, v = .int .i64 k ∧ s = .int .i64 (sumL (off.take k)) ∧ k ≤ ms.length ∧ Hid (Ext w wr ∧ Blk wr w.heap.size 157 (lessC off k))) (fun v _ _ => ms.length - (intOf v).toNat)
  case atStart => exact ⟨0, rfl, rfl, by omega, START⟩
  case round =>
    obtain ⟨wo, rfl⟩ : ∃ wo : World, wo = wr := ⟨_, rfl⟩
    obtain ⟨k, rfl, rfl, hk, HH⟩ := hrel
    clear START
    by_cases hlt : k < ms.length
    · obtain ⟨Y, bL⟩ := HH.out
      obtain ⟨mb, mo, D, row, d, rfl, _, cD, er, _, rD, iD, ld, md⟩ := (hM.out.ext Y fun _ _ h => h.ext Y).ints hlt
      have hr := List.mem_of_getElem? er.out
      have eo := OG.out k row er.out
      have ob := OB.out _ (List.mem_of_getElem? eo)
      have hrl : Hid (row.length = L) := hl.out row hr
      have q1 : (k : Int) < (ms.length : Int) := by omega
      obtain ⟨o, ho⟩ : ∃ o, Hid (leastL (-1) row = o) := ⟨_, rfl⟩
      rw [ho.out] at eo ob
      have SN := sum_take_snoc eo
      have sb1 := SB.out k
      obtain ⟨s, hs⟩ : ∃ s, Hid (s = sumL (off.take k)) := ⟨_, rfl⟩
      rw [← hs.out] at SN sb1 ⊢
      have hnum := Lib.hid (num.out row hr)
      have zD := World.block_lt_of_cell? _ _ cD
      replace SN := Lib.hid SN
      replace eo := Lib.hid eo
      replace Y := Lib.hid Y
      replace bL := Lib.hid bL
      replace rD := Lib.hid rD
      replace iD := Lib.hid iD
      clear er HH hr
      go_wp2_with (fail)
      go_loopw [7, 6] (fun v bv wr => ∃ (j : Nat) (bb : Int), v = .int .i64 j ∧ bv = .int .i64 bb ∧ j ≤ row.length ∧ Hid (leastL bb (row.drop j) = o) ∧ Hid (Ext wo wr)) (fun v _ _ => row.length - (intOf v).toNat)
      case atStart => exact ⟨0, -1, rfl, rfl, by omega, ho, Ext.rf _⟩
      case round =>
        obtain ⟨wi, rfl⟩ : ∃ wi : World, wi = wr := ⟨_, rfl⟩
        obtain ⟨j, bb, rfl, rfl, hj, HB, YI⟩ := hrel
        have cD' : wi.cell? ⟨mb, mo + k, none⟩ = some (.slice D row.length d) := keepEL YI.out zD cD
        by_cases hjl : j < row.length
        · obtain ⟨rb, ro, x, rfl, _, cx, ex, dx⟩ := (rD.out.ext YI.out).at hjl
          have q2 : (j : Int) < (row.length : Int) := by omega
          have hx := hnum.out x (List.mem_of_getElem? ex.out)
          have x0 : (0 : Int) ≤ x := hx.1
          have HB2 : Hid (leastL (if bb < 0 then x else if x < bb then x else bb) (row.drop (j + 1)) = o) := by
            have h := HB.out
            rw [dx.out] at h
            exact h
          clear HB ex dx hx
          by_cases hb0 : bb < 0
          · rw [if_pos hb0] at HB2
            go_wp2_with (fail)
            go_roundw
            case rel => exact ⟨j + 1, x, by go_num, rfl, by omega, HB2, YI⟩
            case measure => simp [intOf]; omega
          · rw [if_neg hb0] at HB2
            by_cases hxb : x < bb
            · rw [if_pos hxb] at HB2
              go_wp2_with (fail)
              go_roundw
              case rel => exact ⟨j + 1, x, by go_num, rfl, by omega, HB2, YI⟩
              case measure => simp [intOf]; omega
            · rw [if_neg hxb] at HB2
              go_wp2_with (fail)
              go_roundw
              case rel => exact ⟨j + 1, bb, by go_num, rfl, by omega, HB2, YI⟩
              case measure => simp [intOf]; omega
        · have q2 : ¬ (j : Int) < (row.length : Int) := by omega
          have hbo : bb = o := by
            have h := HB.out
            rw [List.drop_of_length_le (by omega)] at h
            exact h
          obtain rfl := hbo
          have nb : ¬ bb < 0 := by omega
          have bI := bL.out.ext YI.out
          have fl := bI.free k
          have k30 : (k : Int) < 30 := by omega
          have hw1 : IntKind.i64.wrap (s + bb) = s + bb := IntWalk.i64_in _ (by omega)
          have NX : Hid (Ext w (wi.setCell ⟨w.heap.size, k, none⟩ (.int .i64 bb)) ∧ Blk (wi.setCell ⟨w.heap.size, k, none⟩ (.int .i64 bb)) w.heap.size 157 (lessC off (k + 1))) := by
            refine ⟨(Y.out.tr YI.out).setNew (p := ⟨w.heap.size, k, none⟩) (Nat.le_refl _) _, ?_⟩
            rw [← lessC_set (by omega) eo.out]
            exact bI.set k _
          have cl : wi.cell? ⟨w.heap.size, k, none⟩ = some (.int .i64 (if k < k then off.getD k 0 else 0)) := by rw [bI.cell, lessC_at (by omega)]
          clear HB bI ho
          go_wp2_with (first | go_quiet (fail) | go_region)
          go_roundw
          case rel => exact ⟨k + 1, by go_num, by rw [SN.out], by omega, NX.out⟩
          case measure => simp [intOf]; omega
    · obtain rfl : k = ms.length := by omega
      have q1 : ¬ (ms.length : Int) < (ms.length : Int) := by omega
      have SO : Hid (sumL (off.take ms.length) = sumL off) := by
        have h : sumL (off.take ms.length) = sumL off := by rw [← LO.out, List.take_length]
        exact h
      have so := SB.out ms.length
      rw [SO.out] at so ⊢
      obtain ⟨Y, bL⟩ := HH.out
      replace Y := Lib.hid Y
      replace bL := Lib.hid bL
      have TOT2 : Hid (tot = sumL off + sumL cols) := TOT.out
      obtain ⟨s0, hs0⟩ : ∃ s0, Hid (s0 = sumL off) := ⟨_, rfl⟩
      rw [← hs0.out] at so TOT2 ⊢
      clear HH SO TOT SB
      go_wp2_with (fail)
      go_loopw [8, 3] (fun v s wr => ∃ c : Nat, v = .int .i64 c ∧ s = .int .i64 (s0 + sumL (cols.take c)) ∧ c ≤ L ∧ Hid (Ext wo wr)) (fun v _ _ => L - (intOf v).toNat)
      case atStart => exact ⟨0, rfl, by rw [List.take_zero]; simp [sumL], by omega, Ext.rf _⟩
      case round =>
        obtain ⟨wp, rfl⟩ : ∃ wp : World, wp = wr := ⟨_, rfl⟩
        obtain ⟨c, rfl, rfl, hc, YP⟩ := hrel
        have sc1 := SC.out c
        obtain ⟨mb, mo, D0, row0, d0, rfl, zb, cD0, er0, _, _, _, _, _⟩ := (hM.out.ext (Y.out.tr YP.out) fun _ _ h => h.ext (Y.out.tr YP.out)).ints (r := 0) hn0
        have hl0 : row0.length = L := hl.out row0 (List.mem_of_getElem? er0.out)
        rw [hl0] at cD0
        rw [Nat.add_zero] at cD0
        clear er0 hl0
        by_cases hcl : c < L
        · have q2 : (c : Int) < (L : Int) := by omega
          have ec := CG.out c hcl
          obtain ⟨cv, hcv⟩ : ∃ cv, Hid (colF c (-1) ms off = cv) := ⟨_, rfl⟩
          rw [hcv.out] at ec
          have cb := CB.out _ (List.mem_of_getElem? ec)
          have SN := sum_take_snoc ec
          obtain ⟨s1, hs1⟩ : ∃ s1, Hid (s1 = sumL (cols.take c)) := ⟨_, rfl⟩
          rw [← hs1.out] at SN sc1 ⊢
          replace SN := Lib.hid SN
          clear ec
          go_wp2_with (fail)
          go_loopw [10, 9] (fun v bv wr => ∃ (k : Nat) (bb : Int), v = .int .i64 k ∧ bv = .int .i64 bb ∧ k ≤ ms.length ∧ Hid (colF c bb (ms.drop k) (off.drop k) = cv) ∧ Hid (Ext wp wr)) (fun v _ _ => ms.length - (intOf v).toNat)
          case atStart => exact ⟨0, -1, rfl, rfl, by omega, hcv, Ext.rf _⟩
          case round =>
            obtain ⟨wi, rfl⟩ : ∃ wi : World, wi = wr := ⟨_, rfl⟩
            obtain ⟨k, bb, rfl, rfl, hk, HB, YI⟩ := hrel
            by_cases hkl : k < ms.length
            · have YA := (Y.out.tr YP.out).tr YI.out
              obtain ⟨mb', mo', D, row, d, hq, _, cD, er, dr, rD, iD, ld, md⟩ := (hM.out.ext YA fun _ _ h => h.ext YA).ints hkl
              obtain ⟨rfl, rfl⟩ : mb = mb' ∧ mo = mo' := by simpa using hq
              have hr := List.mem_of_getElem? er.out
              have eo := OG.out k row er.out
              have hrl := hl.out row hr
              obtain ⟨rb, ro, x, rfl, _, cx, ex, _⟩ := rD.at (k := c) (by omega)
              have hx := num.out row hr x (List.mem_of_getElem? ex.out)
              have x0 : (0 : Int) ≤ x := hx.1
              have ob := OB.out _ (List.mem_of_getElem? eo)
              obtain ⟨o, ho⟩ : ∃ o, Hid (leastL (-1) row = o) := ⟨_, rfl⟩
              rw [ho.out] at eo ob
              have dof : off.drop k = o :: off.drop (k + 1) := by
                have hkl2 : k < off.length := by rw [LO.out]; exact hkl
                rw [List.drop_eq_getElem_cons hkl2]
                rw [List.getElem?_eq_getElem hkl2] at eo
                rw [Option.some.inj eo]
              have HB2 : Hid (colF c (if bb < 0 then x - o else if x - o < bb then x - o else bb) (ms.drop (k + 1)) (off.drop (k + 1)) = cv) := by
                have h := HB.out
                rw [dr.out, dof, colF, getD_some ex.out] at h
                exact h
              have cl : wi.cell? ⟨w.heap.size, k, none⟩ = some (.int .i64 o) := by
                rw [((bL.out.ext YP.out).ext YI.out).cell, lessC_at (by omega), if_pos hkl, getD_some eo]
              have q3 : (k : Int) < (ms.length : Int) := by omega
              have q4 : (c : Int) < (row.length : Int) := by omega
              have k30 : (k : Int) < 30 := by omega
              have hw2 : IntKind.i64.wrap (x - o) = x - o := IntWalk.i64_in _ (by omega)
              replace hrl := Lib.hid hrl
              clear HB ex er dr eo dof hr hq rD
              by_cases hb0 : bb < 0
              · rw [if_pos hb0] at HB2
                have t1 : decide (bb < 0) = true := decide_eq_true hb0
                go_wp2_with (fail)
                go_quiet (fail)
                go_wp2_with (fail)
                go_quiet (fail)
                go_wp2_with (fail)
                go_roundw
                case rel => exact ⟨k + 1, x - o, by go_num, rfl, by omega, HB2, YI.out.drewN _⟩
                case measure => simp [intOf]; omega
              · rw [if_neg hb0] at HB2
                have t1 : decide (bb < 0) = false := decide_eq_false hb0
                by_cases hxb : x - o < bb
                · rw [if_pos hxb] at HB2
                  have t2 : decide (x - o < bb) = true := decide_eq_true hxb
                  go_wp2_with (fail)
                  go_quiet (fail)
                  go_wp2_with (fail)
                  go_quiet (fail)
                  go_wp2_with (fail)
                  go_roundw
                  case rel => exact ⟨k + 1, x - o, by go_num, rfl, by omega, HB2, YI.out.drewN _⟩
                  case measure => simp [intOf]; omega
                · rw [if_neg hxb] at HB2
                  have t2 : decide (x - o < bb) = false := decide_eq_false hxb
                  go_wp2_with (fail)
                  go_quiet (fail)
                  go_wp2_with (fail)
                  go_roundw
                  case rel => exact ⟨k + 1, bb, by go_num, rfl, by omega, HB2, YI.out.drewN _⟩
                  case measure => simp [intOf]; omega
            · have q3 : ¬ (k : Int) < (ms.length : Int) := by omega
              have hbo : bb = cv := by
                have h := HB.out
                rw [List.drop_of_length_le (by omega)] at h
                exact h
              obtain rfl := hbo
              have nb : ¬ bb < 0 := by omega
              have hw1 : IntKind.i64.wrap (s0 + s1 + bb) = s0 + s1 + bb := IntWalk.i64_in _ (by omega)
              clear HB hcv
              go_wp2_with (fail)
              go_roundw
              case rel => exact ⟨c + 1, by go_num, by rw [SN.out, Int.add_assoc], by omega, YP.out.tr YI.out⟩
              case measure => simp [intOf]; omega
        · obtain rfl : c = L := by omega
          have q2 : ¬ (c : Int) < (c : Int) := by omega
          have FIN : Hid (s0 + sumL (cols.take c) = tot) := by
            have h : s0 + sumL (cols.take c) = tot := by rw [TOT2.out, ← LC.out, List.take_length]
            exact h
          go_wp2_with (fail)
          go_ret
          exact ⟨ret_i FIN.out, Y.out.tr YP.out⟩
end Go.Proofs.Ytcpadkaljnnieaa
namespace Go.Proofs.Ytcpadkaljnnieaa
open Go.RowKit Go.ChangeShapes Go.WideShapes Go.ChangeAt Go.Deep

theorem rde_of {w : World} {base n c : Nat} {C : Option Addr} {us : List Value} {rows : List (List Int)} (h3 : OwV w base 22 1 C n c us) (h4 : RowsO w base us rows) (hi : ∀ r ∈ rows, Ints r) : RdE 1 RInts w C rows := by
  rcases h3.read with h0 | ⟨b', off, cur, hA, hb, hc⟩
  · left
    have := h4.1
    rw [h0] at this
    exact List.eq_nil_of_length_eq_zero this.symm
  · refine .inr ⟨b', off, hA, (Array.getElem?_eq_some_iff.1 hb).1, fun k r hr => ?_⟩
    obtain ⟨A', c', hu, ho⟩ := h4.2 k r hr
    refine ⟨[.slice A' r.length c'], ⟨A', c', rfl, ho.read, hi r (List.mem_of_getElem? hr), ho.le.1, ho.le.2⟩, rfl, fun j v hj => ?_⟩
    cases j with
    | zero =>
      simp at hj
      subst hj
      rw [cell_of_row w b' _ cur _ (0, 0) hb]
      simpa using hc k _ hu
    | succ j => simp at hj
def subM (rows : List (List Int)) (l : List Nat) : List (List Int) := rows.map fun row => l.map fun c => row.getD c 0
set_option maxRecDepth 100000 in
set_option maxHeartbeats 8000000 in
theorem rbound12_any (i : InstP) (us : List Value) (P : Option Addr) (pc : Nat) (p : List Int) (w : World) (H : RInst w us i) (ok : SquareOk i) (hP : RdI w P p) (lp : p.length ≤ 1000000000) :
    Calls Try.prog 92 #[.agg (List.toArray us), .slice P p.length pc] w fun e w' => e = .returned (.tuple #[.int .i64 (boundA i.cost p).1, .int .i64 (boundA i.cost p).2]) ∧ Ext w w' := by
  have rok := rows_ok ok
  have l1 := rok.n1
  have l2 := rok.n2
  have hnn : i.n = (i.cost.length : Int) := ok.len.symm
  have FR := fun (W : World) (x : Ext w W) => rfree_any i us P pc p W (H.ext x) i.cost.length hnn l1 l2 (hP.ext x) lp
  clear ok
  obtain ⟨kind, nn, cap, xw, xv, co⟩ := i
  obtain ⟨A, a, B, b, D, d, rfl, -, -, ⟨hC, -, -⟩⟩ := H
  simp only at *
  subst hnn
  obtain ⟨r, hr⟩ : ∃ r, Hid (freeP co.length p = r) := ⟨_, rfl⟩
  rw [hr.out] at FR
  replace hP := Lib.hid hP
  replace hC := Lib.hid hC
  have B1 : Hid (Blk (w.alloc (.cells #[.int .i64 kind, .int .i64 co.length, .int .i64 cap, .slice A xw.length a, .slice B xv.length b, .slice D co.length d] 61)) w.heap.size 61 #[.int .i64 kind, .int .i64 co.length, .int .i64 cap, .slice A xw.length a, .slice B xv.length b, .slice D co.length d]) := .new rfl
  cases r with
  | none =>
    have e : boundA co p = (0, 1) := by unfold boundA; rw [hr.out]
    rw [e]
    unfold RFree at FR
    replace FR := Lib.hid FR
    go_enter Try.func92, Try.ntmps92
    go_wp2_with (fail)
    refine (FR.out _ (by (repeat (first | assumption | exact Ext.rf _ | apply Ext.drew | apply Ext.drewN | apply Ext.alloc)))).mono ?_
    rintro e w1 ⟨rfl, x1⟩
    have X1 := Lib.hid (Ext.tr (a := w) (by (repeat (first | assumption | exact Ext.rf _ | apply Ext.drew | apply Ext.drewN | apply Ext.alloc))) x1)
    clear x1
    go_wp2_with (fail)
    go_ret2
    exact ⟨rfl, X1.out⟩
  | some m =>
    obtain ⟨hpl, hin, hS⟩ := freeP_in l2 hr.out
    have hlen := freeP_len l2 hr.out
    obtain ⟨tot, ht⟩ : ∃ tot, Hid (tot = costF co p + (if p.length < co.length then reduceP (co.drop p.length) (memsM m) else 0)) := ⟨_, rfl⟩
    have e : boundA co p = (tot, 0) := by unfold boundA; rw [hr.out]; simp only [← ht.out]
    rw [e]
    clear e
    have RB := Lib.hid (reduceP_bd (rows := co.drop p.length) (m := m) (by rw [List.length_drop]; omega) (fun row hr c hc => rok.get (List.mem_of_mem_drop hr) (hS.2 c hc)))
    have hsub := Lib.hid hS.2
    replace FR := fun (W : World) (x : Ext w W) => (show Calls _ _ _ W (FreeSome m W) from FR W x)
    unfold FreeSome at FR
    replace FR := Lib.hid FR
    clear hr hS
    generalize memsM m = l at *
    replace hin := Lib.hid hin
    replace rok := Lib.hid rok
    go_enter Try.func92, Try.ntmps92
    go_wp2_with (fail)
    refine (FR.out _ (by (repeat (first | assumption | exact Ext.rf _ | apply Ext.drew | apply Ext.drewN | apply Ext.alloc)))).mono ?_
    rintro e w1 ⟨A1, c1, rfl, o1, x1⟩
    have X1 := Lib.hid (Ext.tr (a := w) (by (repeat (first | assumption | exact Ext.rf _ | apply Ext.drew | apply Ext.drewN | apply Ext.alloc))) x1)
    have BB := Lib.hid (B1.out.ext x1)
    replace o1 := Lib.hid o1.read
    clear x1
    go_wp2_with (fail)
    go_loopw [9, 8] (fun v s wr => ∃ (k : Nat) (su : Int), v = .int .i64 k ∧ s = .int .i64 su ∧ k ≤ p.length ∧ Hid (costF co (p.take k) = su) ∧ Hid (Ext w1 wr)) (fun v _ _ => p.length - (intOf v).toNat)
    case atStart => exact ⟨0, 0, rfl, rfl, by omega, (by cases co <;> rfl : costF co (p.take 0) = 0), Ext.rf _⟩
    case round =>
      obtain ⟨wo, rfl⟩ : ∃ wo : World, wo = wr := ⟨_, rfl⟩
      obtain ⟨k, su, rfl, rfl, hk, HS, Y⟩ := hrel
      have bdS : Hid (0 ≤ su ∧ su ≤ 2147483647 * 24) := by
        have h1 := costF_bd (B := 2147483647) (rows := co) (p := p.take k) (by omega) fun row hr c hc => by
          have := hin.out c (List.mem_of_mem_take hc)
          exact rok.out.get hr (by omega)
        have h2 : (p.take k).length ≤ 24 := by rw [List.length_take]; omega
        have h : 0 ≤ su ∧ su ≤ 2147483647 * 24 := by
          rw [← HS.out]
          omega
        exact h
      have d5 : wo.cell? ⟨w.heap.size, 5, none⟩ = some (.slice D co.length d) := (BB.out.ext Y.out).cell 5
      have d1 : wo.cell? ⟨w.heap.size, 1, none⟩ = some (.int .i64 co.length) := (BB.out.ext Y.out).cell 1
      have XW := Lib.hid (X1.out.tr Y.out)
      by_cases hlt : k < p.length
      · have hkr : k < co.length := by omega
        obtain ⟨cb, cof, D', row, d', rfl, _, cD, er, _, rD, iD, ld, md⟩ := (hC.out.ext XW.out fun _ _ h => h.ext XW.out).ints hkr
        have hmem := List.mem_of_getElem? er.out
        obtain ⟨pb, po, c, rfl, zp, cp, ep, _⟩ := (hP.out.ext XW.out).at hlt
        have hc := hin.out c (List.mem_of_getElem? ep.out)
        obtain ⟨i, rfl⟩ : ∃ i : Nat, c = (i : Int) := ⟨c.toNat, by omega⟩
        have lrow := rok.out.row row hmem
        obtain ⟨rb, ro, y, rfl, zy, cy, ey, _⟩ := rD.at (k := i) (by omega)
        have yb := rok.out.get hmem (c := i) (by omega)
        rw [getD_some ey.out] at yb
        have b1 := bdS.out
        have hw : IntKind.i64.wrap (su + y) = su + y := IntWalk.i64_in _ (by omega)
        have HS2 : Hid (costF co (p.take (k + 1)) = su + y) := by
          have h : costF co (p.take (k + 1)) = su + y := by
            rw [costF_snoc er.out ep.out, HS.out, Int.toNat_natCast, getD_some ey.out]
          exact h
        have q1 : (k : Int) < (co.length : Int) := by omega
        have q2 : (k : Int) < (p.length : Int) := by omega
        have q3 : (i : Int) < (row.length : Int) := by omega
        clear er ep ey lrow b1 yb HS hc rD hmem d1
        go_wp2_with (fail)
        go_quiet (fail)
        go_wp2_with (fail)
        go_roundw
        case rel => exact ⟨k + 1, su + y, by go_num, rfl, by omega, HS2, Y.out.drewN _⟩
        case measure => simp [intOf]; omega
      · obtain rfl : k = p.length := by omega
        have HS2 : Hid (costF co p = su) := by
          have h := HS.out
          rw [List.take_length] at h
          exact h
        have q0 : ¬ ((p.length : Int) < (p.length : Int)) := by omega
        obtain ⟨i0, hi, hz0, hz1, hz2⟩ := info_parts (row_info)
        replace hi := Lib.hid hi
        replace hz0 := Lib.hid hz0
        replace hz1 := Lib.hid hz1
        replace hz2 := Lib.hid hz2
        have START : Hid (OwV wo w1.heap.size 22 1 none 0 0 [] ∧ RowsO wo w1.heap.size [] ((subM (co.drop p.length) l).take 0) ∧ Ext w1 wo) := ⟨OwV.nil _ _ _ _, RowsO.nil _ _, Y.out⟩
        clear HS d1 d5
        go_wp2_with (fail)
        go_loopw [11, 10] (fun v mv wr => ∃ (r k : Nat) (M' : Option Addr) (mc : Nat) (ws : List Value), v = .int .i64 r ∧ mv = .slice M' k mc ∧ Hid (r = p.length + k) ∧ r ≤ co.length ∧ Hid (OwV wr w1.heap.size 22 1 M' k mc ws ∧ RowsO wr w1.heap.size ws ((subM (co.drop p.length) l).take k) ∧ Ext w1 wr)) (fun v _ _ => co.length - (intOf v).toNat)
        case atStart => exact ⟨p.length, 0, none, 0, [], rfl, rfl, rfl, by omega, START⟩
        case round =>
          obtain ⟨wp, rfl⟩ : ∃ wp : World, wp = wr := ⟨_, rfl⟩
          obtain ⟨r, k, M', mc, ws, rfl, rfl, hrk, hr, HH⟩ := hrel
          clear START
          obtain ⟨oV, oR, YP⟩ := HH.out
          have XP := Lib.hid (X1.out.tr YP)
          have d1 : wp.cell? ⟨w.heap.size, 1, none⟩ = some (.int .i64 co.length) := (BB.out.ext YP).cell 1
          by_cases hrn : r < co.length
          · have q1 : (r : Int) < (co.length : Int) := by omega
            obtain ⟨cb, cof, D', row, d', rfl, zcb, cD, er, _, rD, iD, ld, md⟩ := (hC.out.ext XP.out fun _ _ h => h.ext XP.out).ints hrn
            have hmem := List.mem_of_getElem? er.out
            have lrow := Lib.hid (rok.out.row row hmem)
            have etk : Hid ((subM (co.drop p.length) l).take (k + 1) = (subM (co.drop p.length) l).take k ++ [l.map fun c => row.getD c 0]) := by
              have e0 : (subM (co.drop p.length) l)[k]? = some (l.map fun c => row.getD c 0) := by
                unfold subM
                rw [List.getElem?_map, List.getElem?_drop, ← hrk.out, er.out]
                rfl
              have h : (subM (co.drop p.length) l).take (k + 1) = (subM (co.drop p.length) l).take k ++ [l.map fun c => row.getD c 0] := by rw [List.take_add_one, e0]; rfl
              exact h
            have z1p := YP.size
            have S0 : Hid (OwI (wp.alloc (.cells #[] 3)) wp.heap.size (some ⟨wp.heap.size, 0, none⟩) 0 []) := OwI.new (xs := []) rfl (Nat.le_refl _) zero_le_maxLen
            have X0 : Hid (Ext wp (wp.alloc (.cells #[] 3))) := (Ext.rf _).alloc _
            have hk24 : k ≤ 24 := by have := hrk.out; omega
            replace oV := Lib.hid oV
            replace oR := Lib.hid oR
            replace YP := Lib.hid YP
            replace rD := Lib.hid rD
            have zD := World.block_lt_of_cell? _ _ cD
            clear er hmem HH
            go_wp2_with (fail)
            go_loopw [13, 12] (fun v rv wr => ∃ (j : Nat) (R' : Option Addr) (rc : Nat) (xs : List Int), v = .int .i64 j ∧ rv = .slice R' xs.length rc ∧ j ≤ l.length ∧ Hid (xs = (l.take j).map fun c => row.getD c 0) ∧ Hid (OwI wr wp.heap.size R' rc xs) ∧ Hid (Ext wp wr)) (fun v _ _ => l.length - (intOf v).toNat)
            case atStart => exact ⟨0, _, _, [], rfl, rfl, by omega, rfl, S0, X0⟩
            case round =>
              obtain ⟨wi, rfl⟩ : ∃ wi : World, wi = wr := ⟨_, rfl⟩
              obtain ⟨j, R', rc, xs, rfl, rfl, hj, hxs, oX, YI⟩ := hrel
              clear S0 X0
              have lxs : xs.length = j := by rw [hxs.out, List.length_map, List.length_take]; omega
              by_cases hjl : j < l.length
              · have YA := Lib.hid (YP.out.tr YI.out)
                have q2 : (j : Int) < (l.length : Int) := by omega
                have e5 : wp.cell? ⟨w.heap.size, 5, none⟩ = some (.slice (some ⟨cb, cof, none⟩) co.length d) := (BB.out.ext YP.out).cell 5
                have z5 : w.heap.size < wp.heap.size := (BB.out.ext YP.out).lt
                have d5 := keepEL YI.out z5 e5
                have cD' : wi.cell? ⟨cb, cof + r, none⟩ = some (.slice D' row.length d') := keepEL YI.out zD cD
                have ej : l[j]? = some l[j] := List.getElem?_eq_getElem hjl
                have hjs := hsub.out _ (List.getElem_mem hjl)
                have hxs2 : Hid (xs ++ [row.getD l[j] 0] = (l.take (j + 1)).map fun c => row.getD c 0) := by
                  have h : xs ++ [row.getD l[j] 0] = (l.take (j + 1)).map fun c => row.getD c 0 := by
                    rw [List.take_add_one, ej, List.map_append, ← hxs.out]; rfl
                  exact h
                generalize l[j] = c at *
                obtain ⟨lb, lo, xk, rfl, zl, ck, exk, _⟩ := (o1.out.ext YP.out).at (k := j) (by rw [intsN_len]; exact hjl)
                obtain rfl : xk = (c : Int) := by
                  have h := exk.out
                  rw [intsN_get ej] at h
                  exact (Option.some.inj h).symm
                obtain ⟨rb, ro, y, rfl, zy, cy, ey, _⟩ := rD.out.at (k := c) (by rw [lrow.out]; exact hjs)
                rw [getD_some ey.out] at hxs2
                have q3 : (c : Int) < (row.length : Int) := by rw [lrow.out]; omega
                have ck' := keepEL YI.out zl ck
                have cy' := keepEL YI.out zy cy
                have zpi := YI.out.size
                replace lxs := Lib.hid lxs
                have hj24 : j < 24 := by omega
                clear exk ej ey hjs
                go_wp2_with (fail)
                go_region_held3 (fun w' => w'.cell? ⟨w.heap.size, 5, none⟩ = some (.slice (some ⟨cb, cof, none⟩) co.length d) ∧ w'.cell? ⟨cb, cof + r, none⟩ = some (.slice (some ⟨rb, ro, none⟩) row.length d') ∧ w'.cell? ⟨lb, lo + j, none⟩ = some (.int .i64 (c : Int)) ∧ w'.cell? ⟨rb, ro + c, none⟩ = some (.int .i64 y)) (go_keep)
                  (first | (refine step_app_i _ (by rfl) _ _ (by rfl) wp.heap.size R' xs.length rc xs [y] (some ⟨wi.heap.size, 0, none⟩) 1 (by rfl) (by rfl) (by rfl) ?_ ?_ ?_ ?_ ?_; (refine OwI.ext oX.out ?_; (repeat (first | assumption | exact Ext.rf _ | apply Ext.drew | apply Ext.drewN | apply Ext.alloc))); (exact .blk (by (first | exact .new (by simp) | exact .drew (.new (by simp)) | exact .alloc (.new (by simp)) _ | exact .drew (.alloc (.new (by simp)) _) | exact .alloc (.alloc (.new (by simp)) _) _ | exact .drew (.alloc (.alloc (.new (by simp)) _) _) | (repeat (first | assumption | (refine Blk.new ?_; (focus (simp; done))) | apply Blk.drew | apply Blk.drewN | apply Blk.alloc)))) rfl); (have h8 := lxs.out; simp; omega); (simp; omega); rintro A7 c7 w7 o7 g7 _; have Y7 : Ext wp w7 := Ext.grow (a := wp) (Ext.tr YI.out (by (repeat (first | assumption | exact Ext.rf _ | apply Ext.drew | apply Ext.drewN | apply Ext.alloc)))) g7 (fun kk hkk => (oX.out.lt kk hkk).1); have s1 := keepEL Y7 z5 e5; have s2 := keepEL Y7 zD cD; have s3 := keepEL Y7 zl ck; have s4 := keepEL Y7 zy cy))
                have O7 : Hid (OwI w7 wp.heap.size A7 c7 (xs ++ [y])) := o7
                replace Y7 := Lib.hid Y7
                clear o7 g7 s1 s2 s3 s4
                go_wp2_with (fail)
                go_roundw
                case rel => exact ⟨j + 1, A7, c7, xs ++ [y], by go_num, by first | rfl | simp, by omega, hxs2, OwI.ext O7.out (by (repeat (first | assumption | exact Ext.rf _ | apply Ext.drew | apply Ext.drewN | apply Ext.alloc))), Ext.tr Y7.out (by (repeat (first | assumption | exact Ext.rf _ | apply Ext.drew | apply Ext.drewN | apply Ext.alloc)))⟩
                case measure => simp [intOf]; omega
              · obtain rfl : j = l.length := by omega
                have q2 : ¬ (l.length : Int) < (l.length : Int) := by omega
                have hxs2 : Hid (xs = l.map fun c => row.getD c 0) := by
                  have h := hxs.out
                  rw [List.take_length] at h
                  exact h
                have X6 := Lib.hid ((Ext.tr YI.out ((Ext.rf wi).alloc (.cells #[.slice R' xs.length rc] 22))))
                have oV5 := oV.out.ext YI.out
                have zz := YI.out.size
                have M5 := Lib.hid (oV5.ext ((Ext.rf wi).alloc (.cells #[.slice R' xs.length rc] 22)))
                clear oV5 hxs
                replace lxs := Lib.hid lxs
                go_wp2_with (at_builtin; refine wpl_app_v _ (e := 22) Try.underlying59 hi.out hz0.out hz1.out hz2.out (by simp [Value.cells]) (by omega) rfl _ _ rfl w1.heap.size M' k mc ws (some ⟨wi.heap.size, 0, none⟩) 1 1 [.slice R' xs.length rc] rfl rfl M5.out (RdV.blk (.new (by simp))).rdC (by simp) (by simp [Value.oneCell']) (by simp only [maxLen]; omega) (by omega) (by simp; omega) ?_; rintro C6 c6 w6 o6 g6 _)
                have M6 := M5.out.grownT g6
                have NEW : Hid (OwV w6 w1.heap.size 22 1 C6 (k + 1) c6 (ws ++ [.slice R' xs.length rc]) ∧ RowsO w6 w1.heap.size (ws ++ [.slice R' xs.length rc]) ((subM (co.drop p.length) l).take (k + 1)) ∧ Ext w1 w6) := by
                  refine ⟨o6, ?_, (YP.out.tr X6.out).modT M6 (Nat.le_refl _)⟩
                  rw [etk.out, ← hxs2.out]
                  exact ((oR.out.ext X6.out).modT M6 (by decide)).snoc (((oX.out.more z1p).ext ((Ext.rf _).alloc _)).modT M6 (by decide))
                clear o6 g6 M6
                go_wp2_with (fail)
                go_roundw
                case rel => exact ⟨r + 1, k + 1, C6, c6, _, by go_num, rfl, by have := hrk.out; show r + 1 = _ + (k + 1); omega, by omega, NEW⟩
                case measure => simp [intOf]; omega
          · obtain rfl : r = co.length := by omega
            have q1 : ¬ (co.length : Int) < (co.length : Int) := by omega
            have hk := hrk.out
            have lsub : (subM (co.drop p.length) l).length = k := by unfold subM; rw [List.length_map, List.length_drop]; omega
            rw [← lsub, List.take_length] at oR
            have bd1 := bdS.out
            have ht2 := ht.out
            rw [HS2.out] at ht2
            by_cases hk0 : k = 0
            · subst hk0
              have e0 : tot = su := by rw [ht2, if_neg (by omega)]; omega
              have RN := Lib.hid (fun (W : World) => rreduce_nil M' mc W)
              have hw9 : IntKind.i64.wrap (su + 0) = su := by rw [Int.add_zero]; exact IntWalk.i64_in _ (by omega)
              replace e0 := Lib.hid e0
              have YP' := Lib.hid YP
              clear HH oV oR YP ht2 hk lsub
              go_wp2_with (fail)
              refine (RN.out _).mono ?_
              rintro e w9 ⟨rfl, x9⟩
              go_wp2_with (fail)
              go_ret2
              rw [e0.out]
              exact ⟨by first | rfl | (congr 2; simp), XP.out.tr x9⟩
            · have e0 : tot = su + reduceP (co.drop p.length) l := by rw [ht2, if_pos (by omega)]
              have RE : Hid (∀ W, Ext wp W → Calls Try.prog 120 #[.slice M' k mc] W fun e w' => e = .returned (.int .i64 (reduceP (co.drop p.length) l)) ∧ Ext W w') := by
                intro W x
                have hsm : ∀ row ∈ subM (co.drop p.length) l, ∃ q ∈ co, row = l.map fun c => q.getD c 0 := fun row h => by
                  obtain ⟨q, hq, rfl⟩ := List.mem_map.1 h
                  exact ⟨q, List.mem_of_mem_drop hq, rfl⟩
                have hnum : ∀ row ∈ subM (co.drop p.length) l, ∀ x ∈ row, 0 ≤ x ∧ x ≤ 2147483647 := fun row h x hx => by
                  obtain ⟨q, hq, rfl⟩ := hsm row h
                  obtain ⟨c, hc, rfl⟩ := List.mem_map.1 hx
                  exact rok.out.get hq (hsub.out c hc)
                have h := rreduce_any (subM (co.drop p.length) l) l.length M' mc W (rde_of (oV.ext x) (oR.ext x) (fun r hr x hx => by have := hnum r hr x hx; omega)) (fun row h => by obtain ⟨q, _, rfl⟩ := hsm row h; simp) (by omega) (by omega) (by omega) (by omega) hnum
                rw [show rreduceP (subM (co.drop p.length) l) l.length = reduceP (co.drop p.length) l from rreduce_eq _ _, lsub] at h
                exact h
              have rb := RB.out
              generalize reduceP (co.drop p.length) l = rp at *
              have hw9 : IntKind.i64.wrap (su + rp) = su + rp := IntWalk.i64_in _ (by omega)
              replace e0 := Lib.hid e0
              clear HH oV oR YP ht2 hk lsub
              go_wp2_with (fail)
              refine (RE.out _ (by (repeat (first | assumption | exact Ext.rf _ | apply Ext.drew | apply Ext.drewN | apply Ext.alloc)))).mono ?_
              rintro e w9 ⟨rfl, x9⟩
              go_wp2_with (fail)
              go_ret2
              rw [e0.out]
              exact ⟨rfl, XP.out.tr x9⟩
end Go.Proofs.Ytcpadkaljnnieaa
namespace Go.Proofs.Ytcpadkaljnnieaa

theorem clr_mem {m c x : Nat} (h : m < 18446744073709551616) : x ∈ memsM (clrM m c) ↔ x ∈ memsM m ∧ x ≠ c := by
  rw [memsM_clr h, List.mem_filter]
  constructor
  · rintro ⟨h1, h2⟩
    exact ⟨h1, fun e => by subst e; simp at h2⟩
  · rintro ⟨h1, h2⟩
    exact ⟨h1, by simp; exact fun e => h2 e.symm⟩
/-- a beginning's columns -/
theorem freeM_cols {n : Nat} : ∀ {p : List Int} {m q : Nat}, SubN n m → freeM m p = some q → ∃ l : List Nat, p = intsN l ∧ l.Nodup ∧ (∀ x ∈ l, x ∈ memsM m) ∧ ∀ x, x ∈ memsM q ↔ x ∈ memsM m ∧ x ∉ l
  | [], m, q, _, e => by
    simp only [freeM, Option.some.injEq] at e
    subst e
    exact ⟨[], rfl, List.Pairwise.nil, by simp, by simp⟩
  | c :: p, m, q, h, e => by
    unfold freeM at e
    split at e
    · rename_i hc
      obtain ⟨l, rfl, h1, h2, h3⟩ := freeM_cols (h.clr _) e
      have hm : c.toNat ∈ memsM m := memsM_mem.2 ⟨by omega, hc.2.2⟩
      have hnot : c.toNat ∉ l := fun hl => ((clr_mem h.1).1 (h2 _ hl)).2 rfl
      refine ⟨c.toNat :: l, ?_, List.nodup_cons.2 ⟨hnot, h1⟩, ?_, fun x => ?_⟩
      · simp only [intsN, List.map_cons, List.cons.injEq, and_true]
        omega
      · intro x hx
        rcases List.mem_cons.1 hx with rfl | hx
        · exact hm
        · exact ((clr_mem h.1).1 (h2 x hx)).1
      · rw [h3 x, clr_mem h.1]
        simp only [List.mem_cons, not_or]
        exact ⟨fun ⟨⟨a, b⟩, c⟩ => ⟨a, b, c⟩, fun ⟨a, b, c⟩ => ⟨⟨a, b⟩, c⟩⟩
    · cases e
theorem freeP_cols {n : Nat} (h24 : n ≤ 24) {p : List Int} {q : Nat} (e : freeP n p = some q) : ∃ l : List Nat, p = intsN l ∧ l.Nodup ∧ (∀ x ∈ l, x < n) ∧ ∀ x, x ∈ memsM q ↔ x < n ∧ x ∉ l := by
  unfold freeP at e
  split at e
  · cases e
  · obtain ⟨l, h1, h2, h3, h4⟩ := freeM_cols (subN_full h24) e
    have hm : ∀ x, x ∈ memsM (2 ^ n - 1) ↔ x < n := fun x => by rw [memsM_full (by omega), List.mem_range]
    exact ⟨l, h1, h2, fun x hx => (hm x).1 (h3 x hx), fun x => by rw [h4 x, hm x]⟩
/-- one step on -/
theorem freeP_snoc {n : Nat} (h24 : n ≤ 24) {p : List Int} {m c : Nat} (e : freeP n p = some m) (hc : c ∈ memsM m) : freeP n (p ++ [(c : Int)]) = some (clrM m c) := by
  have hlen := freeP_len h24 e
  have hpos : 0 < (memsM m).length := List.length_pos_of_mem hc
  unfold freeP at e ⊢
  rw [if_neg (by omega)] at e
  rw [if_neg (by rw [List.length_append, List.length_singleton]; omega)]
  have key : ∀ {p : List Int} {m0 : Nat}, freeM m0 p = some m → freeM m0 (p ++ [(c : Int)]) = some (clrM m c) := by
    intro p
    induction p with
    | nil =>
      intro m0 h
      simp only [freeM, Option.some.injEq] at h
      subst h
      have := memsM_mem.1 hc
      show freeM m0 ((c : Int) :: []) = _
      unfold freeM
      rw [if_pos ⟨by omega, by omega, by rw [Int.toNat_natCast]; exact this.2⟩, Int.toNat_natCast]
      rfl
    | cons d p ih =>
      intro m0 h
      show freeM m0 (d :: (p ++ [(c : Int)])) = _
      unfold freeM at h ⊢
      split at h
      · rename_i hd
        rw [if_pos hd]
        exact ih h
      · cases h
  exact key e
theorem costF_app : ∀ (rows : List (List Int)) (p q : List Int), costF rows (p ++ q) = costF rows p + costF (rows.drop p.length) q
  | rows, [], q => by cases rows <;> simp [costF]
  | [], c :: p, q => by simp [costF]
  | r :: rows, c :: p, q => by
    have := costF_app rows p q
    simp only [List.cons_append, costF, List.length_cons, List.drop_succ_cons]
    omega
theorem colF_le {c : Nat} : ∀ {rows : List (List Int)} {off : List Int} {b : Int}, (∀ (k : Nat) (x : List Int) (o : Int), rows[k]? = some x → off[k]? = some o → 0 ≤ x.getD c 0 - o) → (0 ≤ b → colF c b rows off ≤ b) ∧ ∀ (k : Nat) (x : List Int) (o : Int), rows[k]? = some x → off[k]? = some o → colF c b rows off ≤ x.getD c 0 - o
  | [], off, b, _ => ⟨fun _ => by cases off <;> exact Int.le_refl _, fun k x o h => by simp at h⟩
  | row :: rows, [], b, _ => ⟨fun _ => Int.le_refl _, fun k x o _ h => by simp at h⟩
  | row :: rows, o :: off, b, h => by
    have hx := h 0 row o rfl rfl
    have ih := colF_le (rows := rows) (off := off) (b := if b < 0 then row.getD c 0 - o else if row.getD c 0 - o < b then row.getD c 0 - o else b) (fun k x o h1 h2 => h (k + 1) x o h1 h2)
    unfold colF
    refine ⟨fun hb => ?_, fun k x o' h1 h2 => ?_⟩
    · refine Int.le_trans (ih.1 ?_) ?_ <;> split <;> (try split) <;> omega
    · cases k with
      | zero =>
        simp only [List.getElem?_cons_zero, Option.some.injEq] at h1 h2
        subst h1 h2
        refine Int.le_trans (ih.1 ?_) ?_ <;> split <;> (try split) <;> omega
      | succ k => exact ih.2 k x o' (by simpa using h1) (by simpa using h2)
theorem leastN_eq (row : List Int) (l : List Nat) : leastN (fun c => row.getD c 0) (-1) l = leastL (-1) (l.map fun c => row.getD c 0) := (leastL_map _ _ _).symm
theorem reduce_le {rows : List (List Int)} {l q : List Nat} (hq : q.Perm l) (hl : rows.length = l.length) (num : ∀ row ∈ rows, ∀ c ∈ l, 0 ≤ row.getD c 0) : reduceP rows l ≤ costF rows (intsN q) := by
  have ho : ∀ (k : Nat) (x : List Int) (o : Int), rows[k]? = some x → (offL rows l)[k]? = some o → ∀ c ∈ l, 0 ≤ x.getD c 0 - o := fun k x o h1 h2 c hc => by
    unfold offL at h2
    rw [List.getElem?_map, h1] at h2
    obtain rfl := Option.some.inj h2
    have hx := List.mem_of_getElem? h1
    have h3 := (leastL_le (l := l.map fun c => x.getD c 0) (b := -1) fun y hy => by
      obtain ⟨c', hc', rfl⟩ := List.mem_map.1 hy
      exact num x hx c' hc').1 (x.getD c 0) (List.mem_map.2 ⟨c, hc, rfl⟩)
    show 0 ≤ x.getD c 0 - leastN (fun c => x.getD c 0) (-1) l
    rw [leastN_eq]
    omega
  have h := costF_ge (F := fun c => colF c (-1) rows (offL rows l)) (rows := rows) (off := offL rows l) (q := q) (by rw [hq.length_eq]; exact hl) (by simp [offL, hq.length_eq, hl]) fun k c x o h1 h2 h3 => by
    have hc : c ∈ l := hq.mem_iff.1 (List.mem_of_getElem? h3)
    have := (colF_le (c := c) (b := -1) (rows := rows) (off := offL rows l) fun k x o a b => ho k x o a b c hc).2 k x o h1 h2
    omega
  have e := sumL_perm (hq.map fun c => colF c (-1) rows (offL rows l))
  unfold reduceP
  omega
theorem sumL_pos {l : List Int} (h : ∀ x ∈ l, 0 ≤ x) : 0 ≤ sumL l := sumL_nonneg h
theorem reduce_pos {rows : List (List Int)} {l : List Nat} (hl : l ≠ []) (hr : rows ≠ []) (num : ∀ row ∈ rows, ∀ c ∈ l, 0 ≤ row.getD c 0 ∧ row.getD c 0 ≤ 2147483647) : 0 ≤ reduceP rows l := by
  have ho : ∀ x ∈ offL rows l, 0 ≤ x ∧ x ≤ 2147483647 := fun x hx => by
    obtain ⟨row, h, rfl⟩ := List.mem_map.1 hx
    rw [leastN_eq]
    refine leastL_bd (fun y hy => ?_) (by omega) (.inr (by simpa using hl))
    obtain ⟨c, hc, rfl⟩ := List.mem_map.1 hy
    exact num row h c hc
  have hc : ∀ x ∈ l.map (fun c => colF c (-1) rows (offL rows l)), 0 ≤ x := fun x hx => by
    obtain ⟨c, hc, rfl⟩ := List.mem_map.1 hx
    refine (colF_pos (B := 2147483647) (fun k x o h1 h2 => ?_) (by simp [offL]) (by omega) (.inr hr)).1
    have hx := List.mem_of_getElem? h1
    have hob := ho o (List.mem_of_getElem? h2)
    unfold offL at h2
    rw [List.getElem?_map, h1] at h2
    obtain rfl := Option.some.inj h2
    have h3 := (leastL_le (l := l.map fun c => x.getD c 0) (b := -1) fun y hy => by
      obtain ⟨c', hc', rfl⟩ := List.mem_map.1 hy
      exact (num x hx c' hc').1).1 (x.getD c 0) (List.mem_map.2 ⟨c, hc, rfl⟩)
    have h4 := num x hx c hc
    simp only [leastN_eq] at hob ⊢
    omega
  have h1 := sumL_pos fun x hx => (ho x hx).1
  have h2 := sumL_pos hc
  unfold reduceP
  omega
/-- the least cost of all answers that begin so, by trying -/
def bestA (rows : List (List Int)) (n : Nat) : Nat → List Int → Int
  | 0, p => costF rows p
  | f + 1, p => leastF (fun x => bestA rows n f (p ++ [x])) (-1) (match freeP n p with | none => [] | some m => intsN (memsM m))
theorem leastF_in {f : Int → Int} : ∀ {l : List Int} {b : Int}, (∀ x ∈ l, 0 ≤ f x) → (0 ≤ b ∨ l ≠ []) → (leastF f b l = b ∧ 0 ≤ b) ∨ ∃ x ∈ l, leastF f b l = f x
  | [], b, _, h => by
    rcases h with h | h
    · exact .inl ⟨rfl, h⟩
    · exact absurd rfl h
  | x :: l, b, h, _ => by
    have hx := h x (by simp)
    have ih := leastF_in (f := f) (l := l) (b := if b < 0 then f x else if f x < b then f x else b) (fun y hy => h y (by simp [hy])) (.inl (by split <;> (try split) <;> omega))
    unfold leastF
    rcases ih with ⟨e, _⟩ | ⟨y, hy, e⟩
    · rw [e]
      split
      · exact .inr ⟨x, by simp, rfl⟩
      · split
        · exact .inr ⟨x, by simp, rfl⟩
        · exact .inl ⟨rfl, by omega⟩
    · exact .inr ⟨y, by simp [hy], e⟩
theorem best_some {rows : List (List Int)} (h24 : rows.length ≤ 24) (num : ∀ row ∈ rows, ∀ c, c < rows.length → 0 ≤ row.getD c 0) : ∀ (f : Nat) (p : List Int) (m : Nat), freeP rows.length p = some m → f = rows.length - p.length → ∃ q : List Nat, q.Perm (memsM m) ∧ bestA rows rows.length f p = costF rows (p ++ intsN q)
  | 0, p, m, hp, hf => by
    have hlen := freeP_len h24 hp
    refine ⟨[], ?_, by simp [bestA, intsN]⟩
    rw [List.eq_nil_of_length_eq_zero (show (memsM m).length = 0 by omega)]
  | f + 1, p, m, hp, hf => by
    have hlen := freeP_len h24 hp
    have hsub := (freeP_in h24 hp).2.2
    have ih : ∀ c ∈ memsM m, ∃ q : List Nat, q.Perm (memsM (clrM m c)) ∧ bestA rows rows.length f (p ++ [(c : Int)]) = costF rows (p ++ [(c : Int)] ++ intsN q) := fun c hc =>
      best_some h24 num f _ _ (freeP_snoc h24 hp hc) (by rw [List.length_append, List.length_singleton]; omega)
    have hpos : ∀ x ∈ intsN (memsM m), 0 ≤ bestA rows rows.length f (p ++ [x]) := fun x hx => by
      obtain ⟨c, hc, rfl⟩ := List.mem_map.1 hx
      obtain ⟨q, h1, h2⟩ := ih c hc
      rw [h2]
      have hin := (freeP_in h24 hp).2.1
      have : ∀ (rs : List (List Int)) (l : List Int), (∀ row ∈ rs, row ∈ rows) → (∀ x ∈ l, 0 ≤ x ∧ x < rows.length) → 0 ≤ costF rs l := by
        intro rs
        induction rs with
        | nil => intro l _ _; simp [costF]
        | cons r rs ihr =>
          intro l h3 h4
          cases l with
          | nil => simp [costF]
          | cons d l =>
            have h5 := h4 d (by simp)
            have h6 := num r (h3 r (by simp)) d.toNat (by omega)
            have h7 := ihr l (fun y hy => h3 y (by simp [hy])) (fun y hy => h4 y (by simp [hy]))
            simp only [costF]
            omega
      refine this rows _ (fun _ h => h) fun y hy => ?_
      rcases List.mem_append.1 hy with hy | hy
      · rcases List.mem_append.1 hy with hy | hy
        · exact hin y hy
        · obtain rfl := List.mem_singleton.1 hy
          have := hsub.2 c hc
          omega
      · obtain ⟨d, hd, rfl⟩ := List.mem_map.1 hy
        have := hsub.2 d (((clr_mem hsub.1).1 (h1.mem_iff.1 hd)).1)
        omega
    have hne : memsM m ≠ [] := by
      intro e
      rw [e] at hlen
      simp at hlen
      omega
    have e : bestA rows rows.length (f + 1) p = leastF (fun x => bestA rows rows.length f (p ++ [x])) (-1) (intsN (memsM m)) := by
      show leastF _ (-1) (match freeP rows.length p with | none => [] | some m => intsN (memsM m)) = _
      rw [hp]
    rcases leastF_in (b := -1) hpos (.inr (by simpa [intsN] using hne)) with ⟨_, h⟩ | ⟨x, hx, h⟩
    · omega
    · obtain ⟨c, hc, rfl⟩ := List.mem_map.1 hx
      obtain ⟨q, h1, h2⟩ := ih c hc
      refine ⟨c :: q, ?_, ?_⟩
      · refine (h1.cons c).trans ?_
        refine (List.perm_ext_iff_of_nodup ?_ ((memsM_sorted m).imp fun h => Nat.ne_of_lt h)).2 fun x => ?_
        · refine List.nodup_cons.2 ⟨fun h => ((clr_mem hsub.1).1 h).2 rfl, (memsM_sorted _).imp fun h => Nat.ne_of_lt h⟩
        · rw [List.mem_cons, clr_mem hsub.1]
          constructor
          · rintro (rfl | ⟨h, _⟩)
            · exact hc
            · exact h
          · intro h
            by_cases e : x = c
            · exact .inl e
            · exact .inr ⟨h, e⟩
      · rw [e, h, h2]
        simp [intsN]
theorem bounda_below {rows : List (List Int)} (ok : RowsOk rows) {p : List Int} {m : Nat} (hp : freeP rows.length p = some m) : 0 ≤ (boundA rows p).1 ∧ (boundA rows p).1 ≤ bestA rows rows.length (rows.length - p.length) p ∧ (boundA rows p).2 = 0 := by
  have h24 := ok.n2
  have hlen := freeP_len h24 hp
  obtain ⟨hpl, hin, hsub⟩ := freeP_in h24 hp
  have num : ∀ row ∈ rows, ∀ c, c < rows.length → 0 ≤ row.getD c 0 := fun row hr c hc => (ok.get hr hc).1
  obtain ⟨q, h1, h2⟩ := best_some h24 num _ p m hp rfl
  have hb : boundA rows p = (costF rows p + (if p.length < rows.length then reduceP (rows.drop p.length) (memsM m) else 0), 0) := by unfold boundA; rw [hp]
  have hc := (costF_bd (B := 2147483647) (rows := rows) (p := p) (by omega) fun row hr c hc => by
    have := hin c hc
    exact ok.get hr (by omega)).1
  rw [hb, h2, costF_app]
  simp only
  by_cases hlt : p.length < rows.length
  · rw [if_pos hlt]
    have h3 := reduce_le (rows := rows.drop p.length) h1 (by rw [List.length_drop]; omega) fun row hr c hc => num row (List.mem_of_mem_drop hr) c (hsub.2 c hc)
    have h4 := reduce_pos (rows := rows.drop p.length) (l := memsM m) (by intro e; rw [e] at hlen; simp at hlen; omega) (by intro e; have := congrArg List.length e; rw [List.length_drop] at this; simp at this; omega) fun row hr c hc => ok.get (List.mem_of_mem_drop hr) (hsub.2 c hc)
    exact ⟨by omega, by omega, trivial⟩
  · rw [if_neg hlt]
    have : q = [] := List.eq_nil_of_length_eq_zero (by rw [h1.length_eq]; omega)
    subst this
    have e : costF (rows.drop p.length) (intsN []) = 0 := by cases rows.drop p.length <;> rfl
    rw [e]
    exact ⟨by omega, by omega, trivial⟩
theorem whole_cols {n : Nat} (h24 : n ≤ 24) {p : List Int} {m : Nat} (hp : freeP n p = some m) (hl : p.length = n) : ∃ l : List Nat, p = intsN l ∧ l.Perm (List.range n) := by
  obtain ⟨l, h1, h2, h3, h4⟩ := freeP_cols h24 hp
  have hlen := freeP_len h24 hp
  have he : memsM m = [] := List.eq_nil_of_length_eq_zero (by omega)
  refine ⟨l, h1, (List.perm_ext_iff_of_nodup h2 List.nodup_range).2 fun x => ?_⟩
  rw [List.mem_range]
  refine ⟨h3 x, fun hx => ?_⟩
  by_cases hxl : x ∈ l
  · exact hxl
  · exfalso
    have := (h4 x).2 ⟨hx, hxl⟩
    rw [he] at this
    cases this
end Go.Proofs.Ytcpadkaljnnieaa
namespace Go.Proofs.Ytcpadkaljnnieaa

/-- what the rest of a tour costs -/
def pathT (rows : List (List Int)) : Nat → List Nat → Int
  | last, [] => costAt rows last 0
  | last, u :: q => costAt rows last u + pathT rows u q
end Go.Proofs.Ytcpadkaljnnieaa
namespace Go.Proofs.Ytcpadkaljnnieaa

section
variable {rows : List (List Int)}
theorem kidsA_of {p : List Int} {m : Nat} (hp : freeP rows.length p = some m) : ∃ l : List Nat, (kidsA rows p).1 = intsN l ∧ l.Perm (memsM m) ∧ (kidsA rows p).2 = 0 := by
  refine ⟨sortP (ltC (cfR (rows.getD p.length []))) (memsM m), ?_, msortP_perm _ _ _, ?_⟩ <;> (unfold kidsA; rw [hp])
theorem freeP_root {n : Nat} : freeP n [] = some (2 ^ n - 1) := by
  unfold freeP
  rw [if_neg (by simp)]
  rfl
end
end Go.Proofs.Ytcpadkaljnnieaa
