/-
  Items in order, plainly: which of two stands ahead, and the order by merging; of two orders of the same numbers, each sorted by a strict order, both are one.
    Items in order by counting, plainly: each stands at the place that tells how many are ahead of it; that is the order by merging.
    A knapsack's kernel, plainly: the room that a beginning leaves, what may follow, what no answer is below; the bound does not sink from a beginning to what follows.
    A knapsack's kernel, plainly: the items in order fall; the best of all answers that begin so is not below the bound; what the answer of a whole beginning costs.
    A knapsack's answers, plainly: what the answer of a whole beginning weighs and costs; the least cost behind a beginning, one step on; no bound is above it.
  Costs of orders, plainly: what an assignment costs; no order costs less than offsets tell.
  Sets of numbers below 64 as numbers, plainly: which are in; the least; the next; without one.
    The program's sets of numbers below 64: what each call answers.
    The program's sets of numbers below 64: Next; All, one by one.
    The program's sets of numbers below 64: List.
  The document's Check of a problem.
    The document's Check of the other problems, and whole.
  What the laws on kernels share: a copied problem.
  An assignment, plainly: a square in form; which columns a beginning leaves.
  An assignment's kernel: New, Depth, free.
    An assignment's kernel: which columns a beginning leaves.
    An assignment's kernel: the least of a row's numbers in some columns.
    An assignment's kernel: what rows cost at least, in some columns.
    A region that draws its order and only reads, walked once inside a round of a loop over a function.
    An assignment's kernel: what rows cost at least, walked.
    An assignment's kernel: what no answer that begins so is below.
  Sorting in place and stably, plainly: what insertion, a rotation and a merge in place do to a list of places.
    Sorting in place and stably, plainly: exchanges of two, of two ranges, a rotation, a merge in place, and blocks that are merged by twos.
    Sorting by counting, plainly: each stands at the place that tells how many are ahead of it; that is the order by merging.
  The library's stable sort of ints: exchanges of two ranges, a rotation.
    The library's stable sort of ints: insertion.
    The library's stable sort of ints: a merge in place where one of the two is a single one.
    The library's stable sort of ints: a merge in place where the second of the two is a single one.
  An assignment's kernel: the order of the kids.
    An assignment's kernel: what may follow a beginning.
    The law's own example: a kernel of two rows.
  The document's kernel of an assignment: which columns a beginning leaves.
    The document's kernel of an assignment: Kids.
  The document's kernel of an assignment: what a square of numbers costs at least, by rows and then by columns.
    The document's kernel of an assignment: Bound, Answer, Depth.
  An assignment, plainly: what the columns of a beginning are; no answer that begins so costs less than the bound; the least cost by trying.
  What the rest of a tour costs.
  An assignment's beginnings as a tree, plainly: as many leaves as there are orders, each once.
  A tour, plainly: where a beginning has come to; what may follow; what the rest must cost at least, by rows and columns and by what meets at each city.
    A tour, plainly: the bound is no number below nought and none above the least cost by trying; the beginnings as a tree.
  The document's least cost of all answers, plainly: it is the cost of an answer, and no answer's is less.
  Ways from city to city: what is left of a way, and how much it may cost at most.
  A tour's kernel: Mirror, New, Depth.
  The document's Reduce, of squares that miss some numbers.
  A tour, plainly: the document's square of what is left costs at least what the kernel reckons; the beginnings as a tree.
  A tour's kernel: what meets at each city, at least.
  A tour's kernel: what may follow a beginning.
    A tour's kernel: no kernel; the answer of a whole list.
  A tour's kernel: what no answer that begins so is below.
  One number of the costs in memory.
  The document's tour: what meets at each city, at least.
  A core of a drawn region, with words that need not be kept once they are spent.
-/
import Derived.Test.YtpapkofildcdiaaCheckSoundP1
import Derived.Lib.Hide
import Derived.Laws.Bits64b
import Derived.Lib.TrailingZeros
import Derived.Deep.DeepCutAuto
import Derived.Shelf.Spec.TrailingZeros
import Derived.RangeFuncNested
import Derived.RangeFuncBound
import Derived.RangeFuncCalls
import Derived.RangeFuncLeaves
import Derived.RangeFuncBox
import Derived.Maps.AppendAt
import Derived.Shelf.Abstract
import Derived.Shelf.RegionOpen
import Derived.OwnWalkIn
import Derived.TacticsInMore
import Derived.LoopNIn
import Derived.LoopIn
import Derived.Sort.BigQuietIn
import Derived.Deep.QuietTactic
import Derived.BigQuiet
namespace Go.Proofs.Ytpapkofildcdiaa

/-- the sort by merging: halves by halves -/
def msortP (lt : Nat → Nat → Bool) : Nat → List Nat → List Nat
  | 0, p => p
  | f + 1, p => if p.length < 2 then p else List.merge (msortP lt f (p.take (p.length / 2))) (msortP lt f (p.drop (p.length / 2))) (fun x y => !lt y x)
theorem msortP_perm (lt : Nat → Nat → Bool) : ∀ (f : Nat) (p : List Nat), (msortP lt f p).Perm p
  | 0, p => List.Perm.refl p
  | f + 1, p => by
    unfold msortP
    split
    · exact List.Perm.refl p
    · refine (List.merge_perm_append _).trans ?_
      have h := (msortP_perm lt f (p.take (p.length / 2))).append (msortP_perm lt f (p.drop (p.length / 2)))
      rwa [List.take_append_drop] at h
/-- a strict order of a weak one: of two that are the same the less one -/
def strictly (lt : Nat → Nat → Bool) (a b : Nat) : Prop := lt a b = true ∨ (lt b a = false ∧ a < b)
structure Weak (lt : Nat → Nat → Bool) : Prop where
  asym : ∀ a b, lt a b = true → lt b a = false
  neg : ∀ a b c, lt a c = true → lt a b = true ∨ lt b c = true
theorem Weak.trans {lt : Nat → Nat → Bool} (h : Weak lt) {a b c : Nat} (h1 : strictly lt a b) (h2 : strictly lt b c) : strictly lt a c := by
  rcases h1 with h1 | ⟨h1, l1⟩ <;> rcases h2 with h2 | ⟨h2, l2⟩
  · rcases h.neg a c b h1 with h3 | h3
    · exact .inl h3
    · rw [h.asym b c h2] at h3; cases h3
  · rcases h.neg a c b h1 with h3 | h3
    · exact .inl h3
    · rw [h2] at h3; cases h3
  · rcases h.neg b a c h2 with h3 | h3
    · rw [h1] at h3; cases h3
    · exact .inl h3
  · refine .inr ⟨?_, by omega⟩
    cases h3 : lt c a with
    | false => rfl
    | true =>
      rcases h.neg c b a h3 with h4 | h4
      · rw [h2] at h4; cases h4
      · rw [h1] at h4; cases h4
theorem Weak.irrefl {lt : Nat → Nat → Bool} (h : Weak lt) (a : Nat) : ¬ strictly lt a a := by
  rintro (h1 | ⟨_, h1⟩)
  · have := h.asym a a h1; rw [h1] at this; cases this
  · omega
theorem Weak.asymm {lt : Nat → Nat → Bool} (h : Weak lt) {a b : Nat} (h1 : strictly lt a b) : ¬ strictly lt b a := fun h2 => h.irrefl a (h.trans h1 h2)
theorem merge_sorted {lt : Nat → Nat → Bool} (h : Weak lt) : ∀ (n : Nat) (l r : List Nat), l.length + r.length ≤ n → l.Pairwise (strictly lt) → r.Pairwise (strictly lt) → (∀ a ∈ l, ∀ b ∈ r, a < b) → (List.merge l r (fun x y => !lt y x)).Pairwise (strictly lt)
  | n, [], r, _, _, hr, _ => by rw [List.nil_merge]; exact hr
  | n, a :: l, [], _, hl, _, _ => by rw [List.merge_right]; exact hl
  | 0, a :: l, b :: r, hn, _, _, _ => by simp at hn
  | n + 1, a :: l, b :: r, hn, hl, hr, hlt => by
    rw [List.cons_merge_cons]
    have hl' := List.pairwise_cons.1 hl
    have hr' := List.pairwise_cons.1 hr
    split
    · rename_i hab
      have hab' : lt b a = false := by simpa using hab
      have R : strictly lt a b := .inr ⟨hab', hlt a (by simp) b (by simp)⟩
      refine List.pairwise_cons.2 ⟨fun x hx => ?_, merge_sorted h n l (b :: r) (by simp at hn ⊢; omega) hl'.2 hr (fun x hx y hy => hlt x (by simp [hx]) y hy)⟩
      rcases List.mem_merge.1 hx with hx | hx
      · exact hl'.1 x hx
      · rcases List.mem_cons.1 hx with rfl | hx
        · exact R
        · exact h.trans R (hr'.1 x hx)
    · rename_i hab
      have hab' : lt b a = true := by simpa using hab
      have R : strictly lt b a := .inl hab'
      refine List.pairwise_cons.2 ⟨fun x hx => ?_, merge_sorted h n (a :: l) r (by simp at hn ⊢; omega) hl hr'.2 (fun x hx y hy => hlt x hx y (by simp [hy]))⟩
      rcases List.mem_merge.1 hx with hx | hx
      · rcases List.mem_cons.1 hx with rfl | hx
        · exact R
        · exact h.trans R (hl'.1 x hx)
      · exact hr'.1 x hx
theorem msortP_sorted {lt : Nat → Nat → Bool} (h : Weak lt) : ∀ (f : Nat) (p : List Nat), p.length ≤ f + 1 → p.Pairwise (· < ·) → (msortP lt f p).Pairwise (strictly lt)
  | 0, p, hf, _ => by
    match p, hf with
    | [], _ => exact List.Pairwise.nil
    | [a], _ => exact List.pairwise_singleton _ _
  | f + 1, p, hf, hp => by
    unfold msortP
    split
    · rename_i h2
      match p, h2 with
      | [], _ => exact List.Pairwise.nil
      | [a], _ => exact List.pairwise_singleton _ _
    · rename_i h2
      refine merge_sorted h _ _ _ (Nat.le_refl _) (msortP_sorted h f _ (by simp; omega) (hp.sublist (List.take_sublist _ _))) (msortP_sorted h f _ (by simp; omega) (hp.sublist (List.drop_sublist _ _))) ?_
      intro a ha b hb
      rw [(msortP_perm lt f _).mem_iff] at ha hb
      have := List.pairwise_append.1 (by rw [List.take_append_drop (p.length / 2) p]; exact hp)
      exact this.2.2 a ha b hb
/-- by value for the weight: does item a stand ahead of item b? -/
def aheadB (v w : List Int) (a b : Nat) : Bool :=
  if w.getD b 0 = 0 then false else if w.getD a 0 = 0 then true else decide (v.getD b 0 * w.getD a 0 < v.getD a 0 * w.getD b 0)
theorem nonneg_getD {w : List Int} (hw : ∀ x ∈ w, 0 ≤ x) (a : Nat) : 0 ≤ w.getD a 0 := by
  rw [List.getD_eq_getElem?_getD]
  cases h : w[a]? with
  | none => simp
  | some x => exact hw x (List.mem_of_getElem? h)
theorem aheadB_weak {v w : List Int} (hw : ∀ x ∈ w, 0 ≤ x) : Weak (aheadB v w) := by
  have nn := nonneg_getD hw
  constructor
  · intro a b hab
    unfold aheadB at hab ⊢
    have na := nn a
    have nb := nn b
    by_cases b0 : w.getD b 0 = 0
    · rw [if_pos b0] at hab; cases hab
    · rw [if_neg b0] at hab
      by_cases a0 : w.getD a 0 = 0
      · rw [if_pos a0]
      · rw [if_neg a0] at hab
        rw [if_neg a0, if_neg b0]
        have := of_decide_eq_true hab
        exact decide_eq_false (by omega)
  · intro a b c hac
    unfold aheadB at hac ⊢
    have na := nn a
    have nb := nn b
    have nc := nn c
    by_cases c0 : w.getD c 0 = 0
    · rw [if_pos c0] at hac; cases hac
    · rw [if_neg c0] at hac
      rw [if_neg c0]
      by_cases b0 : w.getD b 0 = 0
      · right; rw [if_pos b0]
      · rw [if_neg b0, if_neg b0]
        by_cases a0 : w.getD a 0 = 0
        · left; rw [if_pos a0]
        · rw [if_neg a0] at hac ⊢
          have h1 := of_decide_eq_true hac
          generalize v.getD a 0 = va at *
          generalize v.getD b 0 = vb at *
          generalize v.getD c 0 = vc at *
          generalize w.getD a 0 = wa at *
          generalize w.getD b 0 = wb at *
          generalize w.getD c 0 = wc at *
          by_cases h2 : vb * wa < va * wb
          · left; exact decide_eq_true h2
          · right
            refine decide_eq_true ?_
            have h3 : va * wb ≤ vb * wa := by omega
            have h4 : wb * (vc * wa) < wb * (va * wc) := Int.mul_lt_mul_of_pos_left h1 (by omega)
            have h5 : wc * (va * wb) ≤ wc * (vb * wa) := Int.mul_le_mul_of_nonneg_left h3 nc
            have e1 : wb * (vc * wa) = wa * (vc * wb) := by rw [Int.mul_comm vc wa, ← Int.mul_assoc, Int.mul_comm wb wa, Int.mul_assoc, Int.mul_comm wb vc]
            have e2 : wb * (va * wc) = wc * (va * wb) := by rw [Int.mul_comm va wc, ← Int.mul_assoc, Int.mul_comm wb wc, Int.mul_assoc, Int.mul_comm wb va]
            have e3 : wc * (vb * wa) = wa * (vb * wc) := by rw [Int.mul_comm vb wa, ← Int.mul_assoc, Int.mul_comm wc wa, Int.mul_assoc, Int.mul_comm wc vb]
            rw [e1, e2] at h4
            rw [e3] at h5
            exact Int.lt_of_mul_lt_mul_left (Int.lt_of_lt_of_le h4 h5) na
/-- the items' order -/
def ratioP (v w : List Int) : List Nat := msortP (aheadB v w) v.length (List.range v.length)
theorem ratioP_perm (v w : List Int) : (ratioP v w).Perm (List.range v.length) := msortP_perm _ _ _
theorem ratioP_len (v w : List Int) : (ratioP v w).length = v.length := by rw [(ratioP_perm v w).length_eq, List.length_range]
theorem ratioP_sorted {v w : List Int} (hw : ∀ x ∈ w, 0 ≤ x) : (ratioP v w).Pairwise (strictly (aheadB v w)) :=
  msortP_sorted (aheadB_weak hw) _ _ (by simp) List.pairwise_lt_range
end Go.Proofs.Ytpapkofildcdiaa
namespace Go.Proofs.Ytpapkofildcdiaa

end Go.Proofs.Ytpapkofildcdiaa
namespace Go.Proofs.Ytpapkofildcdiaa

/-- the room that is left, the values that are left out -/
def stP (room out : Int) : List Int → List Int → List Int → Option (Int × Int)
  | _, _, [] => some (room, out)
  | w :: ws, v :: vs, x :: p => if x = 1 then (if room - w < 0 then none else stP (room - w) out ws vs p) else if x = 0 then (if room < 0 then none else stP room (out + v) ws vs p) else none
  | _, _, _ :: _ => none
/-- what the rest may bring at most -/
def bringsP (room : Int) : List Int → List Int → Int
  | w :: ws, v :: vs => if room < w then v * room / w else v + bringsP (room - w) ws vs
  | _, _ => 0
def sumL : List Int → Int
  | [] => 0
  | x :: l => x + sumL l
def kidsP (cap : Int) (ws vs p : List Int) : List Int × Int :=
  match stP cap 0 ws vs p with
  | none => ([], 1)
  | some (room, _) => match ws.drop p.length with
    | [] => ([], 0)
    | w :: _ => if w ≤ room then ([1, 0], 0) else ([0], 0)
def boundP (cap : Int) (ws vs p : List Int) : Int × Int :=
  match stP cap 0 ws vs p with
  | none => (0, 1)
  | some (room, out) => (out + sumL (vs.drop p.length) - bringsP room (ws.drop p.length) (vs.drop p.length), 0)
theorem stP_long {ws vs : List Int} : ∀ {p : List Int} {room out : Int}, ws.length < p.length → stP room out ws vs p = none := by
  induction ws generalizing vs with
  | nil =>
    intro p room out h
    cases p with
    | nil => simp at h
    | cons x p => rfl
  | cons w ws ih =>
    intro p room out h
    cases p with
    | nil => simp at h
    | cons x p =>
      cases vs with
      | nil => rfl
      | cons v vs =>
        have h' : ws.length < p.length := by simpa using h
        unfold stP
        rw [ih h', ih h']
        split <;> (try split) <;> (try split) <;> rfl
/-- what is left of the room is some, and no more than ahead -/
theorem stP_room {ws vs : List Int} : ∀ {p : List Int} {room out r o : Int}, (∀ x ∈ ws, 0 ≤ x) → 0 ≤ room → stP room out ws vs p = some (r, o) → 0 ≤ r ∧ r ≤ room := by
  induction ws generalizing vs with
  | nil =>
    intro p room out r o _ h0 h
    cases p with
    | nil => simp [stP] at h; omega
    | cons x p => simp [stP] at h
  | cons w ws ih =>
    intro p room out r o hw h0 h
    cases p with
    | nil => simp [stP] at h; omega
    | cons x p =>
      cases vs with
      | nil => simp [stP] at h
      | cons v vs =>
        unfold stP at h
        have hw0 : 0 ≤ w := hw w (by simp)
        have hw' : ∀ x ∈ ws, 0 ≤ x := fun x hx => hw x (by simp [hx])
        split at h
        · split at h
          · cases h
          · have := ih hw' (by omega) h; omega
        · split at h
          · split at h
            · cases h
            · exact ih hw' h0 h
          · cases h
theorem stP_out {ws vs : List Int} : ∀ {p : List Int} {room out r o : Int}, (∀ x ∈ vs, 0 ≤ x ∧ x ≤ 2147483647) → stP room out ws vs p = some (r, o) → out ≤ o ∧ o ≤ out + 2147483647 * p.length := by
  induction ws generalizing vs with
  | nil =>
    intro p room out r o _ h
    cases p with
    | nil => simp [stP] at h; simp; omega
    | cons x p => simp [stP] at h
  | cons w ws ih =>
    intro p room out r o hv h
    cases p with
    | nil => simp [stP] at h; simp; omega
    | cons x p =>
      cases vs with
      | nil => simp [stP] at h
      | cons v vs =>
        unfold stP at h
        have hv0 := hv v (by simp)
        have hv' : ∀ x ∈ vs, 0 ≤ x ∧ x ≤ 2147483647 := fun x hx => hv x (by simp [hx])
        simp only [List.length_cons, Int.natCast_add, Int.natCast_one]
        split at h
        · split at h
          · cases h
          · have := ih hv' h; omega
        · split at h
          · split at h
            · cases h
            · have := ih hv' h; omega
          · cases h
/-- a beginning's beginning -/
theorem stP_app {ws vs : List Int} : ∀ {p q : List Int} {room out : Int}, stP room out ws vs (p ++ q) = (stP room out ws vs p).bind fun (r, o) => stP r o (ws.drop p.length) (vs.drop p.length) q := by
  induction ws generalizing vs with
  | nil =>
    intro p q room out
    cases p with
    | nil => simp [stP]
    | cons x p => simp [stP]
  | cons w ws ih =>
    intro p q room out
    cases p with
    | nil => simp [stP]
    | cons x p =>
      cases vs with
      | nil => simp [stP]
      | cons v vs =>
        simp only [List.cons_append, stP, List.length_cons, List.drop_succ_cons]
        rw [ih, ih]
        split <;> (try split) <;> (try split) <;> rfl
theorem sumL_nonneg : ∀ {vs : List Int}, (∀ x ∈ vs, 0 ≤ x) → 0 ≤ sumL vs
  | [], _ => by simp [sumL]
  | v :: vs, hv => by
    have := hv v (by simp)
    have := sumL_nonneg (vs := vs) fun x hx => hv x (by simp [hx])
    simp only [sumL]
    omega
theorem bringsP_le : ∀ {ws vs : List Int} {room : Int}, 0 ≤ room → (∀ x ∈ ws, 0 ≤ x) → (∀ x ∈ vs, 0 ≤ x) → bringsP room ws vs ≤ sumL vs
  | [], vs, room, _, _, hv => by
    have : 0 ≤ sumL vs := sumL_nonneg hv
    cases vs <;> simpa [bringsP] using this
  | w :: ws, [], room, _, _, _ => by simp [bringsP, sumL]
  | w :: ws, v :: vs, room, h0, hw, hv => by
    unfold bringsP sumL
    have hv0 := hv v (by simp)
    have hw0 := hw w (by simp)
    have hs : 0 ≤ sumL vs := sumL_nonneg fun x hx => hv x (by simp [hx])
    split
    · rename_i h
      have h1 : v * room ≤ v * w := Int.mul_le_mul_of_nonneg_left (by omega) hv0
      have h2 : v * room / w ≤ v * w / w := Int.ediv_le_ediv (by omega) h1
      rw [Int.mul_ediv_cancel _ (by omega)] at h2
      omega
    · have := bringsP_le (ws := ws) (vs := vs) (room := room - w) (by omega) (fun x hx => hw x (by simp [hx])) (fun x hx => hv x (by simp [hx]))
      omega
/-- of a list of items none brings more for its weight than w0, v0 -/
def Under (w0 v0 : Int) : List Int → List Int → Prop
  | w :: ws, v :: vs => v * w0 ≤ v0 * w ∧ Under w0 v0 ws vs
  | _, _ => True
/-- sorted: each is no better than those ahead -/
def Falls : List Int → List Int → Prop
  | w :: ws, v :: vs => Under w v ws vs ∧ Falls ws vs
  | _, _ => True
theorem brings_under {w0 v0 : Int} (h0 : 0 ≤ w0) : ∀ {ws vs : List Int} {room : Int}, 0 ≤ room → 0 ≤ v0 → (∀ x ∈ ws, 0 ≤ x) → (∀ x ∈ vs, 0 ≤ x) → Under w0 v0 ws vs → w0 * bringsP room ws vs ≤ v0 * room
  | [], vs, room, hr, hv0, _, _, _ => by
    have : 0 ≤ v0 * room := Int.mul_nonneg hv0 hr
    cases vs <;> simpa [bringsP] using this
  | w :: ws, [], room, hr, hv0, _, _, _ => by
    have : 0 ≤ v0 * room := Int.mul_nonneg hv0 hr
    simpa [bringsP] using this
  | w :: ws, v :: vs, room, hr, hv0, hw, hv, hu => by
    unfold bringsP
    have hw0 := hw w (by simp)
    have hvv := hv v (by simp)
    obtain ⟨hu1, hu2⟩ := hu
    split
    · rename_i hlt
      have hpos : 0 < w := by omega
      have h1 : v * room / w * w ≤ v * room := Int.ediv_mul_le _ (by omega)
      have h2 : w0 * (v * room / w * w) ≤ w0 * (v * room) := Int.mul_le_mul_of_nonneg_left h1 h0
      have h3 : room * (v * w0) ≤ room * (v0 * w) := Int.mul_le_mul_of_nonneg_left hu1 hr
      have e1 : w0 * (v * room / w * w) = w * (w0 * (v * room / w)) := by rw [Int.mul_comm (v * room / w) w, ← Int.mul_assoc, Int.mul_comm w0 w, Int.mul_assoc]
      have e2 : w0 * (v * room) = room * (v * w0) := by rw [← Int.mul_assoc, Int.mul_comm (w0 * v) room, Int.mul_comm w0 v]
      have e3 : room * (v0 * w) = w * (v0 * room) := by rw [← Int.mul_assoc, Int.mul_comm (room * v0) w, Int.mul_comm room v0]
      rw [e1, e2] at h2
      rw [e3] at h3
      exact Int.le_of_mul_le_mul_left (Int.le_trans h2 h3) hpos
    · have ih := brings_under h0 (ws := ws) (vs := vs) (room := room - w) (by omega) hv0 (fun x hx => hw x (by simp [hx])) (fun x hx => hv x (by simp [hx])) hu2
      rw [Int.mul_add, Int.mul_comm w0 v]
      rw [Int.mul_sub] at ih
      omega
theorem brings_more {w0 v0 : Int} (h0 : 0 ≤ w0) : ∀ {ws vs : List Int} {room : Int}, w0 ≤ room → 0 ≤ v0 → (∀ x ∈ ws, 0 ≤ x) → (∀ x ∈ vs, 0 ≤ x) → Under w0 v0 ws vs → Falls ws vs → bringsP room ws vs ≤ v0 + bringsP (room - w0) ws vs
  | [], vs, room, hr, hv0, _, _, _, _ => by cases vs <;> simpa [bringsP] using hv0
  | w :: ws, [], room, hr, hv0, _, _, _, _ => by simpa [bringsP] using hv0
  | w :: ws, v :: vs, room, hr, hv0, hw, hv, hu, hf => by
    have hw0 := hw w (by simp)
    have hvv := hv v (by simp)
    obtain ⟨hu1, hu2⟩ := hu
    obtain ⟨hf1, hf2⟩ := hf
    have hw' : ∀ x ∈ ws, 0 ≤ x := fun x hx => hw x (by simp [hx])
    have hv' : ∀ x ∈ vs, 0 ≤ x := fun x hx => hv x (by simp [hx])
    simp only [bringsP]
    by_cases a1 : room < w
    · rw [if_pos a1, if_pos (by omega)]
      have hpos : 0 < w := by omega
      have e : v * room ≤ v * (room - w0) + v0 * w := by rw [Int.mul_sub]; omega
      have h1 : v * room / w ≤ (v * (room - w0) + v0 * w) / w := Int.ediv_le_ediv hpos e
      rw [Int.add_mul_ediv_right _ _ (by omega)] at h1
      omega
    · rw [if_neg a1]
      by_cases a2 : room - w0 < w
      · rw [if_pos a2]
        have hpos : 0 < w := by omega
        have h1 := brings_under hw0 (ws := ws) (vs := vs) (room := room - w) (by omega) hvv hw' hv' hf1
        have h2 : v + bringsP (room - w) ws vs - v0 ≤ v * (room - w0) / w := by
          rw [Int.le_ediv_iff_mul_le hpos]
          rw [Int.mul_comm, Int.mul_sub, Int.mul_add, Int.mul_sub]
          rw [Int.mul_sub] at h1
          rw [Int.mul_comm w v, Int.mul_comm w v0]
          omega
        omega
      · rw [if_neg a2]
        have ih := brings_more h0 (ws := ws) (vs := vs) (room := room - w) (by omega) hv0 hw' hv' hu2 hf2
        have e : room - w - w0 = room - w0 - w := by omega
        rw [e] at ih
        omega
/-- one more item that is no worse than the others brings no less -/
theorem brings_front {w v : Int} {ws vs : List Int} {room : Int} (hr : 0 ≤ room) (hw : ∀ x ∈ w :: ws, 0 ≤ x) (hv : ∀ x ∈ v :: vs, 0 ≤ x) (hf : Falls (w :: ws) (v :: vs)) : bringsP room ws vs ≤ bringsP room (w :: ws) (v :: vs) := by
  have hw0 := hw w (by simp)
  have hv0 := hv v (by simp)
  have hw' : ∀ x ∈ ws, 0 ≤ x := fun x hx => hw x (by simp [hx])
  have hv' : ∀ x ∈ vs, 0 ≤ x := fun x hx => hv x (by simp [hx])
  obtain ⟨hu, hf'⟩ := hf
  conv => rhs; unfold bringsP
  split
  · rename_i h
    have hpos : 0 < w := by omega
    have h1 := brings_under hw0 hr hv0 hw' hv' hu
    rw [Int.le_ediv_iff_mul_le hpos, Int.mul_comm]
    exact h1
  · exact brings_more hw0 (by omega) hv0 hw' hv' hu hf'
end Go.Proofs.Ytpapkofildcdiaa
namespace Go.Proofs.Ytpapkofildcdiaa

def inOrder (l : List Nat) (v : List Int) : List Int := l.map fun n => v.getD n 0
theorem under_of {v w : List Int} {a : Nat} (hv : ∀ x ∈ v, 0 ≤ x) (hw : ∀ x ∈ w, 0 ≤ x) : ∀ {l : List Nat}, (∀ b ∈ l, strictly (aheadB v w) a b) → Under (w.getD a 0) (v.getD a 0) (inOrder l w) (inOrder l v)
  | [], _ => trivial
  | b :: l, h => by
    refine ⟨?_, under_of hv hw (l := l) fun c hc => h c (by simp [hc])⟩
    have hb := h b (by simp)
    have h2 : aheadB v w b a = false := by
      rcases hb with hb | ⟨hb, _⟩
      · exact (aheadB_weak hw).asym _ _ hb
      · exact hb
    unfold aheadB at h2
    have va := nonneg_getD hv a
    have wa := nonneg_getD hw a
    have wb := nonneg_getD hw b
    by_cases a0 : w.getD a 0 = 0
    · rw [a0, Int.mul_zero]; exact Int.mul_nonneg va wb
    · rw [if_neg a0] at h2
      by_cases b0 : w.getD b 0 = 0
      · rw [if_pos b0] at h2; cases h2
      · rw [if_neg b0] at h2
        have := of_decide_eq_false h2
        show v.getD b 0 * w.getD a 0 ≤ v.getD a 0 * w.getD b 0
        omega
theorem falls_of {v w : List Int} (hv : ∀ x ∈ v, 0 ≤ x) (hw : ∀ x ∈ w, 0 ≤ x) : ∀ {l : List Nat}, l.Pairwise (strictly (aheadB v w)) → Falls (inOrder l w) (inOrder l v)
  | [], _ => trivial
  | a :: l, h => by
    have h' := List.pairwise_cons.1 h
    exact ⟨under_of hv hw h'.1, falls_of hv hw h'.2⟩
theorem Falls.drop : ∀ {k : Nat} {ws vs : List Int}, Falls ws vs → Falls (ws.drop k) (vs.drop k)
  | 0, ws, vs, h => h
  | k + 1, [], vs, h => by simp [Falls]
  | k + 1, w :: ws, [], h => by simp [Falls]
  | k + 1, w :: ws, v :: vs, h => by rw [List.drop_succ_cons, List.drop_succ_cons]; exact Falls.drop h.2
/-- the least cost of all answers behind a state -/
def bestP (room out : Int) : List Int → List Int → Int
  | w :: ws, v :: vs => if w ≤ room then (if bestP room (out + v) ws vs < bestP (room - w) out ws vs then bestP room (out + v) ws vs else bestP (room - w) out ws vs) else bestP room (out + v) ws vs
  | _, _ => out
theorem bestP_ge : ∀ {ws vs : List Int} {room out : Int}, 0 ≤ room → (∀ x ∈ ws, 0 ≤ x) → (∀ x ∈ vs, 0 ≤ x) → ws.length = vs.length → Falls ws vs → out + sumL vs - bringsP room ws vs ≤ bestP room out ws vs
  | [], [], room, out, _, _, _, _, _ => by simp [sumL, bringsP, bestP]
  | [], _ :: _, _, _, _, _, _, h, _ => by simp at h
  | _ :: _, [], _, _, _, _, _, h, _ => by simp at h
  | w :: ws, v :: vs, room, out, h0, hw, hv, hl, hf => by
    have hfr := brings_front h0 hw hv hf
    have hw' : ∀ x ∈ ws, 0 ≤ x := fun x hx => hw x (by simp [hx])
    have hv' : ∀ x ∈ vs, 0 ≤ x := fun x hx => hv x (by simp [hx])
    have hl' : ws.length = vs.length := by simpa using hl
    have h1 := bestP_ge (out := out + v) h0 hw' hv' hl' hf.2
    unfold bestP
    simp only [sumL]
    split
    · rename_i hle
      have h2 := bestP_ge (room := room - w) (out := out) (by omega) hw' hv' hl' hf.2
      have e : bringsP room (w :: ws) (v :: vs) = v + bringsP (room - w) ws vs := by rw [bringsP, if_neg (by omega)]
      rw [e] at hfr ⊢
      split <;> omega
    · omega
theorem bestP_nonneg : ∀ {ws vs : List Int} {room out : Int}, 0 ≤ out → (∀ x ∈ vs, 0 ≤ x) → 0 ≤ bestP room out ws vs
  | [], vs, room, out, h, _ => by cases vs <;> simpa [bestP] using h
  | w :: ws, [], room, out, h, _ => by simpa [bestP] using h
  | w :: ws, v :: vs, room, out, h, hv => by
    have hv0 := hv v (by simp)
    have hv' : ∀ x ∈ vs, 0 ≤ x := fun x hx => hv x (by simp [hx])
    have h1 := bestP_nonneg (ws := ws) (vs := vs) (room := room) (out := out + v) (by omega) hv'
    have h2 := bestP_nonneg (ws := ws) (vs := vs) (room := room - w) (out := out) h hv'
    unfold bestP
    split
    · split <;> assumption
    · assumption
theorem sumL_perm {a b : List Int} (h : a.Perm b) : sumL a = sumL b := by
  induction h with
  | nil => rfl
  | cons x _ ih => simp [sumL, ih]
  | swap x y l => simp [sumL]; omega
  | trans _ _ h1 h2 => rw [h1, h2]
theorem sumL_app (a b : List Int) : sumL (a ++ b) = sumL a + sumL b := by
  induction a with
  | nil => simp [sumL]
  | cons x a ih => simp [sumL, ih]; omega
/-- the answer of a whole beginning: each item's number -/
def ansP (l : List Nat) (p : List Int) : Nat → List Int
  | 0 => List.replicate l.length 0
  | k + 1 => (ansP l p k).set (l.getD k 0) (p.getD k 0)
theorem ansP_len (l : List Nat) (p : List Int) : ∀ k, (ansP l p k).length = l.length
  | 0 => by simp [ansP]
  | k + 1 => by simp [ansP, ansP_len l p k]
theorem ansP_at {l : List Nat} {p : List Int} (hn : l.Nodup) (hl : ∀ a ∈ l, a < l.length) : ∀ k, k ≤ l.length → ∀ j, j < k → (ansP l p k)[l.getD j 0]? = some (p.getD j 0)
  | 0, _, j, h => by omega
  | k + 1, hk, j, h => by
    unfold ansP
    have ek : l.getD k 0 = l[k] := by simp [List.getD, List.getElem?_eq_getElem (show k < l.length by omega)]
    have ej : l.getD j 0 = l[j] := by simp [List.getD, List.getElem?_eq_getElem (show j < l.length by omega)]
    by_cases hj : j = k
    · subst hj
      rw [List.getElem?_set_self (by rw [ansP_len, ek]; exact hl _ (List.getElem_mem _))]
    · have hne : l.getD k 0 ≠ l.getD j 0 := fun h' => hj (((List.getElem?_inj (i := j) (j := k) (by omega) hn).1 (by
        rw [List.getElem?_eq_getElem (show k < l.length by omega), List.getElem?_eq_getElem (show j < l.length by omega), ← ek, ← ej, h'])))
      rw [List.getElem?_set_ne hne, ansP_at hn hl k (by omega) j (by omega)]
end Go.Proofs.Ytpapkofildcdiaa
namespace Go.Proofs.Ytpapkofildcdiaa

/-- the weights taken and the values left of an answer -/
def takenL (x ws : List Int) : Int := sumL (List.zipWith (fun x w => if x = 1 then w else 0) x ws)
def leftL (x vs : List Int) : Int := sumL (List.zipWith (fun x v => if x = 1 then 0 else v) x vs)
theorem sumZip_take (f : Int → Int → Int) : ∀ (k : Nat) (x ws : List Int) {v u : Int}, x[k]? = some v → ws[k]? = some u → sumL (List.zipWith f (x.take (k + 1)) ws) = sumL (List.zipWith f (x.take k) ws) + f v u
  | 0, _ :: _, _ :: _, _, _, h1, h2 => by
    simp only [List.getElem?_cons_zero, Option.some.injEq] at h1 h2
    subst h1 h2
    simp [sumL]
  | k + 1, _ :: x, _ :: ws, v, u, h1, h2 => by
    have h := sumZip_take f k x ws (v := v) (u := u) (by simpa using h1) (by simpa using h2)
    simp only [List.take_succ_cons, List.zipWith_cons_cons, sumL] at h ⊢
    omega
  | _, [], _, _, _, h1, _ => by simp at h1
  | _, _ :: _, [], _, _, _, h2 => by simp at h2
/-- the answer's worth: the price and the error -/
def costP (cap : Int) (ws vs x : List Int) : Int × Int := if cap < takenL x ws then (0, 9) else (leftL x vs, 0)
theorem sumZip_range (f : Int → Int → Int) (x w : List Int) (h : x.length = w.length) : List.zipWith f x w = (List.range x.length).map fun j => f (x.getD j 0) (w.getD j 0) := by
  apply List.ext_getElem
  · simp [h]
  · intro k h1 h2
    have k1 : k < x.length := by simp at h2; omega
    have k2 : k < w.length := by omega
    simp [List.getD, List.getElem?_eq_getElem k1, List.getElem?_eq_getElem k2]
theorem sumZip_order (f : Int → Int → Int) {l : List Nat} {n : Nat} (hp : l.Perm (List.range n)) {p w : List Int} (lp : p.length = n) (lw : w.length = n) :
    sumL (List.zipWith f (ansP l p n) w) = sumL (List.zipWith f p (inOrder l w)) := by
  have hl : l.length = n := by rw [hp.length_eq, List.length_range]
  have hnd : l.Nodup := hp.nodup_iff.2 List.nodup_range
  have hlt : ∀ a ∈ l, a < l.length := fun a ha => by rw [hl]; exact List.mem_range.1 (hp.mem_iff.1 ha)
  have la : (ansP l p n).length = n := by rw [ansP_len, hl]
  rw [sumZip_range f _ w (by rw [la, lw]), la, ← sumL_perm (hp.map _), sumZip_range f p (inOrder l w) (by simp [inOrder, lp, hl]), lp]
  congr 1
  apply List.ext_getElem
  · simp [hl]
  · intro k h1 h2
    have hk : k < l.length := by simpa using h1
    have hk' : k < n := by omega
    simp only [List.getElem_map, List.getElem_range]
    have e1 : (ansP l p n).getD (l[k]) 0 = p.getD k 0 := by
      have h := ansP_at (p := p) hnd hlt n (by omega) k hk'
      have ek : l.getD k 0 = l[k] := by simp [List.getD, List.getElem?_eq_getElem hk]
      rw [ek] at h
      simp [List.getD, h]
    have e2 : (inOrder l w).getD k 0 = w.getD (l[k]) 0 := by
      unfold inOrder
      simp [List.getD, List.getElem?_map, List.getElem?_eq_getElem hk]
    rw [e1, e2]
theorem ansP_01 {l : List Nat} {p : List Int} (h : ∀ x ∈ p, x = 0 ∨ x = 1) : ∀ k, ∀ x ∈ ansP l p k, x = 0 ∨ x = 1
  | 0, x, hx => .inl (List.eq_of_mem_replicate hx)
  | k + 1, x, hx => by
    rcases List.mem_or_eq_of_mem_set hx with h1 | h1
    · exact ansP_01 h k x h1
    · subst h1
      cases hv : p[k]? with
      | none => simp [List.getD, hv]
      | some y => simpa [List.getD, hv] using h y (List.mem_of_getElem? hv)
/-- the least cost of the answers behind a beginning; -1: it is none -/
def bestAt (cap : Int) (ws vs p : List Int) : Int := match stP cap 0 ws vs p with
  | none => -1
  | some (r, o) => bestP r o (ws.drop p.length) (vs.drop p.length)
section
variable {cap : Int} {ws vs p ws' vs' : List Int} {r o w v : Int}
theorem drop_snoc {l l' p : List Int} {x y : Int} (h : l.drop p.length = x :: l') : l.drop (p ++ [y]).length = l' := by
  have h1 := congrArg List.tail h
  rw [List.tail_drop] at h1
  simpa using h1
theorem bestAt_of (h : stP cap 0 ws vs p = some (r, o)) : bestAt cap ws vs p = bestP r o (ws.drop p.length) (vs.drop p.length) := by unfold bestAt; rw [h]
theorem stP_snoc1 (h : stP cap 0 ws vs p = some (r, o)) (hw : ws.drop p.length = w :: ws') (hv : vs.drop p.length = v :: vs') (hle : w ≤ r) : stP cap 0 ws vs (p ++ [1]) = some (r - w, o) := by
  rw [stP_app, h]
  simp only [Option.bind_some, hw, hv, stP, if_true]
  rw [if_neg (by omega)]
theorem stP_snoc0 (h : stP cap 0 ws vs p = some (r, o)) (hw : ws.drop p.length = w :: ws') (hv : vs.drop p.length = v :: vs') (h0 : 0 ≤ r) : stP cap 0 ws vs (p ++ [0]) = some (r, o + v) := by
  rw [stP_app, h]
  simp only [Option.bind_some, hw, hv, stP, if_true]
  rw [if_neg (by decide), if_neg (by omega)]
theorem bestAt_1 (h : stP cap 0 ws vs p = some (r, o)) (hw : ws.drop p.length = w :: ws') (hv : vs.drop p.length = v :: vs') (hle : w ≤ r) : bestAt cap ws vs (p ++ [1]) = bestP (r - w) o ws' vs' := by
  rw [bestAt_of (stP_snoc1 h hw hv hle), drop_snoc hw, drop_snoc hv]
theorem bestAt_0 (h : stP cap 0 ws vs p = some (r, o)) (hw : ws.drop p.length = w :: ws') (hv : vs.drop p.length = v :: vs') (h0 : 0 ≤ r) : bestAt cap ws vs (p ++ [0]) = bestP r (o + v) ws' vs' := by
  rw [bestAt_of (stP_snoc0 h hw hv h0), drop_snoc hw, drop_snoc hv]
end
/-- the least one but -1 of what comes, by the loop's own words -/
def leastF (f : Int → Int) : Int → List Int → Int
  | b, [] => b
  | b, x :: l => leastF f (if b < 0 then f x else if f x < b then f x else b) l
theorem leastF_kids {cap : Int} {ws vs p : List Int} {r o : Int} (h : stP cap 0 ws vs p = some (r, o)) (h0 : 0 ≤ r) (hl : p.length < ws.length) (hlv : ws.length = vs.length) (hv0 : ∀ x ∈ vs, 0 ≤ x) (ho : 0 ≤ o) :
    leastF (fun x => bestAt cap ws vs (p ++ [x])) (-1) (kidsP cap ws vs p).1 = bestAt cap ws vs p := by
  obtain ⟨w, ws', hw⟩ : ∃ w ws', ws.drop p.length = w :: ws' := ⟨_, _, List.drop_eq_getElem_cons hl⟩
  obtain ⟨v, vs', hv⟩ : ∃ v vs', vs.drop p.length = v :: vs' := ⟨_, _, List.drop_eq_getElem_cons (by omega)⟩
  have hvs : ∀ x ∈ v :: vs', 0 ≤ x := fun x hx => hv0 x (List.mem_of_mem_drop (hv ▸ hx))
  have e := bestAt_of h
  rw [hw, hv] at e
  unfold kidsP
  rw [h, e]
  simp only [hw]
  have h2 := bestAt_0 h hw hv h0
  unfold bestP
  split
  · rename_i hle
    have h1 := bestAt_1 h hw hv hle
    have n1 : 0 ≤ bestP (r - w) o ws' vs' := bestP_nonneg ho fun x hx => hvs x (by simp [hx])
    simp only [leastF, h1, h2]
    rw [if_pos (show (-1 : Int) < 0 by decide), if_neg (show ¬ bestP (r - w) o ws' vs' < 0 by omega)]
  · simp only [leastF, h2]
    rw [if_pos (show (-1 : Int) < 0 by decide)]
/-- a bound is no number below nought, and none above the least cost -/
theorem bound_below {cap : Int} {ws vs p : List Int} (h0 : 0 ≤ cap) (hw : ∀ x ∈ ws, 0 ≤ x) (hv : ∀ x ∈ vs, 0 ≤ x ∧ x ≤ 2147483647) (hl : ws.length = vs.length) (hf : Falls ws vs) (he : (boundP cap ws vs p).2 = 0) :
    0 ≤ (boundP cap ws vs p).1 ∧ (boundP cap ws vs p).1 ≤ bestAt cap ws vs p := by
  unfold boundP at he ⊢
  cases hs : stP cap 0 ws vs p with
  | none => rw [hs] at he; simp at he
  | some q =>
    obtain ⟨r, o⟩ := q
    have h1 := (stP_room hw h0 hs).1
    have h2 := (stP_out hv hs).1
    have hw' : ∀ x ∈ ws.drop p.length, 0 ≤ x := fun x hx => hw x (List.mem_of_mem_drop hx)
    have hv' : ∀ x ∈ vs.drop p.length, 0 ≤ x := fun x hx => (hv x (List.mem_of_mem_drop hx)).1
    rw [bestAt_of hs]
    simp only
    have h3 := bringsP_le h1 hw' hv'
    have h4 := bestP_ge (out := o) h1 hw' hv' (by simp [hl]) hf.drop
    exact ⟨by omega, h4⟩
theorem bound_err (cap : Int) (ws vs p : List Int) : (boundP cap ws vs p).2 = 0 ∨ ((boundP cap ws vs p).2 = 1 ∧ stP cap 0 ws vs p = none) := by
  unfold boundP
  cases hs : stP cap 0 ws vs p with
  | none => exact .inr ⟨rfl, rfl⟩
  | some q => exact .inl rfl
/-- at a whole beginning -/
theorem whole_at {cap : Int} {ws vs p : List Int} {r o : Int} (h : stP cap 0 ws vs p = some (r, o)) (hl : p.length = ws.length) (hlv : ws.length = vs.length) : boundP cap ws vs p = (o, 0) ∧ bestAt cap ws vs p = o := by
  have d1 : ws.drop p.length = [] := List.drop_of_length_le (by omega)
  have d2 : vs.drop p.length = [] := List.drop_of_length_le (by omega)
  rw [bestAt_of h]
  unfold boundP
  rw [h]
  simp [d1, d2, sumL, bringsP, bestP]
end Go.Proofs.Ytpapkofildcdiaa
namespace Go.Proofs.Ytpapkofildcdiaa

def intsN (l : List Nat) : List Int := l.map fun n : Nat => (n : Int)
theorem intsN_len (l : List Nat) : (intsN l).length = l.length := by simp [intsN]
/-- what a beginning costs -/
def costF : List (List Int) → List Int → Int
  | row :: rows, c :: p => row.getD c.toNat 0 + costF rows p
  | _, _ => 0
/-- each row at its column costs no less than its least one and the column's -/
theorem costF_ge {F : Nat → Int} : ∀ {rows : List (List Int)} {off : List Int} {q : List Nat}, rows.length = q.length → off.length = q.length → (∀ (k c : Nat) (x : List Int) (o : Int), rows[k]? = some x → off[k]? = some o → q[k]? = some c → o + F c ≤ x.getD c 0) → sumL off + sumL (q.map F) ≤ costF rows (intsN q)
  | [], off, q, h1, h2, _ => by
    have : q = [] := List.eq_nil_of_length_eq_zero (by simpa using h1.symm)
    subst this
    have : off = [] := List.eq_nil_of_length_eq_zero (by simpa using h2)
    subst this
    simp [sumL, costF]
  | r :: rows, [], q, h1, h2, _ => by
    exfalso
    simp at h1 h2
    omega
  | r :: rows, o :: off, [], h1, _, _ => by simp at h1
  | r :: rows, o :: off, c :: q, h1, h2, h => by
    have h3 := h 0 c r o rfl rfl rfl
    have ih := costF_ge (F := F) (rows := rows) (off := off) (q := q) (by simpa using h1) (by simpa using h2) fun k c x o a b d => h (k + 1) c x o a b d
    simp only [intsN, List.map_cons, sumL, costF] at ih ⊢
    rw [Int.toNat_natCast]
    omega
def costAt (rows : List (List Int)) (a b : Nat) : Int := (rows.getD a []).getD b 0
/-- the kernel's rows, in form -/
structure RowsOk (rows : List (List Int)) : Prop where
  n1 : 1 ≤ rows.length
  n2 : rows.length ≤ 24
  row : ∀ row ∈ rows, row.length = rows.length
  num : ∀ row ∈ rows, ∀ x ∈ row, 0 ≤ x ∧ x ≤ 2147483647
theorem RowsOk.get {rows : List (List Int)} (h : RowsOk rows) {row : List Int} (hr : row ∈ rows) {c : Nat} (hc : c < rows.length) : 0 ≤ row.getD c 0 ∧ row.getD c 0 ≤ 2147483647 := by
  have h1 : c < row.length := by rw [h.row row hr]; exact hc
  have h2 : row.getD c 0 = row[c] := by simp [List.getD, List.getElem?_eq_getElem h1]
  rw [h2]
  exact h.num row hr _ (List.getElem_mem _)
theorem sumL_append (a b : List Int) : sumL (a ++ b) = sumL a + sumL b := by
  induction a with
  | nil => simp [sumL]
  | cons x a ih => simp only [List.cons_append, sumL, ih]; omega
end Go.Proofs.Ytpapkofildcdiaa
namespace Go.Proofs.Ytpapkofildcdiaa
open Go

def andNotN (a b : Nat) : Nat := (BitVec.ofNat 64 a &&& ~~~ BitVec.ofNat 64 b).toNat
theorem andNotN_lt (a b : Nat) : andNotN a b < 18446744073709551616 := (BitVec.ofNat 64 a &&& ~~~ BitVec.ofNat 64 b).isLt
theorem andNotN_bit {a b j : Nat} (ha : a < 18446744073709551616) : (andNotN a b).testBit j = (a.testBit j && !b.testBit j) := by
  unfold andNotN
  rw [BitVec.testBit_toNat, BitVec.getLsbD_and, BitVec.getLsbD_not, BitVec.getLsbD_ofNat, BitVec.getLsbD_ofNat]
  by_cases hj : j < 64
  · simp [hj]
  · have : a.testBit j = false := Nat.testBit_lt_two_pow (Nat.lt_of_lt_of_le ha (by
      have : 2 ^ 64 ≤ 2 ^ j := Nat.pow_le_pow_right (by omega) (by omega)
      omega))
    simp [hj, this]
/-- which are in, rising -/
def memsM (m : Nat) : List Nat := (List.range 64).filter fun j => m.testBit j
theorem memsM_mem {m j : Nat} : j ∈ memsM m ↔ j < 64 ∧ m.testBit j = true := by simp [memsM]
theorem memsM_sorted (m : Nat) : (memsM m).Pairwise (· < ·) := List.Pairwise.filter _ List.pairwise_lt_range
theorem memsM_le (m : Nat) : (memsM m).length ≤ 64 := by
  have := List.length_filter_le (fun j => m.testBit j) (List.range 64)
  simpa [memsM] using this
/-- without one -/
def clrM (m i : Nat) : Nat := andNotN m (2 ^ i)
theorem clrM_bit {m i j : Nat} (h : m < 18446744073709551616) : (clrM m i).testBit j = (m.testBit j && decide (i ≠ j)) := by
  unfold clrM
  rw [andNotN_bit h, Nat.testBit_two_pow]
  by_cases hij : i = j <;> simp [hij]
theorem memsM_clr {m i : Nat} (h : m < 18446744073709551616) : memsM (clrM m i) = (memsM m).filter fun j => decide (i ≠ j) := by
  unfold memsM
  rw [List.filter_filter]
  refine List.filter_congr fun j _ => ?_
  rw [clrM_bit h, Bool.and_comm]
theorem memsM_full {n : Nat} (h : n ≤ 64) : memsM (2 ^ n - 1) = List.range n := by
  have e : List.range 64 = List.range n ++ (List.range (64 - n)).map (n + ·) := by
    rw [← List.range_add]
    congr 1
    omega
  unfold memsM
  rw [e, List.filter_append, List.filter_eq_self.2 (fun j hj => by
    rw [Nat.testBit_two_pow_sub_one]; simpa using hj), List.filter_eq_nil_iff.2 (fun j hj => by
    obtain ⟨a, _, rfl⟩ := List.mem_map.1 hj
    rw [Nat.testBit_two_pow_sub_one]
    simp), List.append_nil]
end Go.Proofs.Ytpapkofildcdiaa
namespace Go.Proofs.Ytpapkofildcdiaa
open Go.RowKit Go.ChangeShapes Go.WideShapes Go.ChangeAt Go.Deep

end Go.Proofs.Ytpapkofildcdiaa
namespace Go.Proofs.Ytpapkofildcdiaa
open Go.RowKit Go.ChangeShapes Go.WideShapes Go.ChangeAt Go.Deep Go.Shelf
attribute [local go_sem] Oper.semAt_some

end Go.Proofs.Ytpapkofildcdiaa
namespace Go.Proofs.Ytpapkofildcdiaa
open Go.RowKit Go.ChangeShapes Go.WideShapes Go.ChangeAt Go.Deep Go.Shelf
attribute [local go_sem] Oper.semAt_some

end Go.Proofs.Ytpapkofildcdiaa
namespace Go.Proofs.Ytpapkofildcdiaa
open Go.RowKit Go.ChangeShapes Go.WideShapes Go.ChangeAt Go.Deep

set_option maxRecDepth 100000 in
set_option maxHeartbeats 4000000 in
theorem rcheck_size (k n cap : Int) (a b c : Value) (w : World) (h : sizeP k n ≠ 0) :
    Calls Try.prog 25 #[.agg #[.int .i64 k, .int .i64 n, .int .i64 cap, a, b, c]] w fun e w' => e = .returned (.int .i64 (sizeP k n)) ∧ Ext w w' := by
  by_cases k0 : k < 1
  · have hs : Hid (sizeP k n = 14) := by
      have h : sizeP k n = 14 := by unfold sizeP; rw [if_neg (by omega), if_neg (by omega), if_neg (by omega)]
      exact h
    clear h
    go_enter Try.func25, Try.ntmps25
    go_wp2
    go_ret
    exact ⟨ret_i hs.out.symm, by (repeat (first | assumption | exact Ext.rf _ | apply Ext.drew | apply Ext.drewN | apply Ext.alloc))⟩
  · by_cases k3 : 3 < k
    · have hs : Hid (sizeP k n = 14) := by
        have h : sizeP k n = 14 := by unfold sizeP; rw [if_neg (by omega), if_neg (by omega), if_neg (by omega)]
        exact h
      clear h
      go_enter Try.func25, Try.ntmps25
      go_wp2
      go_ret
      exact ⟨ret_i hs.out.symm, by (repeat (first | assumption | exact Ext.rf _ | apply Ext.drew | apply Ext.drewN | apply Ext.alloc))⟩
    · by_cases n1 : n < 1
      · have hs : Hid (sizeP k n = 1) := by
          have h : sizeP k n = 1 := by
            unfold sizeP
            by_cases a1 : k = 1
            · rw [if_pos a1, if_pos n1]
            · rw [if_neg a1]
              by_cases a2 : k = 2
              · rw [if_pos a2, if_pos n1]
              · rw [if_neg a2, if_pos (by omega), if_pos n1]
          exact h
        clear h
        go_enter Try.func25, Try.ntmps25
        go_wp2
        go_ret
        exact ⟨ret_i hs.out.symm, by (repeat (first | assumption | exact Ext.rf _ | apply Ext.drew | apply Ext.drewN | apply Ext.alloc))⟩
      · by_cases a1 : k = 1
        · subst a1
          have n64 : 64 < n := by
            unfold sizeP at h
            rw [if_pos rfl, if_neg n1] at h
            by_cases h2 : 64 < n
            · exact h2
            · rw [if_neg h2] at h; exact absurd rfl h
          have hs : Hid (sizeP 1 n = 5) := by
            have h : sizeP 1 n = 5 := by unfold sizeP; rw [if_pos rfl, if_neg n1, if_pos n64]
            exact h
          clear h
          go_enter Try.func25, Try.ntmps25
          go_wp2
          go_ret
          exact ⟨ret_i hs.out.symm, by (repeat (first | assumption | exact Ext.rf _ | apply Ext.drew | apply Ext.drewN | apply Ext.alloc))⟩
        · have n24 : 24 < n := by
            unfold sizeP at h
            rw [if_neg a1] at h
            by_cases a2 : k = 2
            · rw [if_pos a2, if_neg n1] at h
              by_cases h2 : 24 < n
              · exact h2
              · rw [if_neg h2] at h; exact absurd rfl h
            · rw [if_neg a2, if_pos (by omega), if_neg n1] at h
              by_cases h2 : 24 < n
              · exact h2
              · rw [if_neg h2] at h; exact absurd rfl h
          have hs : Hid (sizeP k n = 5) := by
            have h : sizeP k n = 5 := by
              unfold sizeP
              rw [if_neg a1]
              by_cases a2 : k = 2
              · rw [if_pos a2, if_neg n1, if_pos n24]
              · rw [if_neg a2, if_pos (by omega), if_neg n1, if_pos n24]
            exact h
          have a1' : (k == 1) = false := by simpa using a1
          clear h a1
          have k1 : 1 < k := by
            have : k ≠ 1 := by simpa using a1'
            omega
          go_enter Try.func25, Try.ntmps25
          go_wp2
          go_ret
          exact ⟨ret_i hs.out.symm, by (repeat (first | assumption | exact Ext.rf _ | apply Ext.drew | apply Ext.drewN | apply Ext.alloc))⟩
set_option maxRecDepth 100000 in
set_option maxHeartbeats 4000000 in
theorem rcheck_1 (n : Nat) (cap : Int) (A B C : Option Addr) (a b c : Nat) (xs ys : List Int) (l : List (List Int)) (w : World) (hA : RdI w A xs) (hB : RdI w B ys) (n1 : 1 ≤ n) (n2 : n ≤ 64) :
    Calls Try.prog 25 #[.agg #[.int .i64 1, .int .i64 n, .int .i64 cap, .slice A xs.length a, .slice B ys.length b, .slice C l.length c]] w fun e w' => e = .returned (.int .i64 (if (((xs.length : Int) == (n : Int)) && ((ys.length : Int) == (n : Int)) && ((l.length : Int) == 0)) = true then itemsP cap xs ys xs.length else 8)) ∧ Ext w w' := by
  have B1 : Hid (Blk (w.alloc (.cells #[.int .i64 1, .int .i64 n, .int .i64 cap, .slice A xs.length a, .slice B ys.length b, .slice C l.length c] 25)) w.heap.size 25 #[.int .i64 1, .int .i64 n, .int .i64 cap, .slice A xs.length a, .slice B ys.length b, .slice C l.length c]) := .new rfl
  have nn1 : ¬ ((n : Int) < 1) := by omega
  have nn2 : ¬ ((64 : Int) < n) := by omega
  cases h1 : ((xs.length : Int) == (n : Int))
  · have h1' : ((xs.length : Int) != (n : Int)) = true := by simp only [bne, h1]; rfl
    go_enter Try.func25, Try.ntmps25
    go_wp2
    go_ret
    exact ⟨rfl, by (repeat (first | assumption | exact Ext.rf _ | apply Ext.drew | apply Ext.drewN | apply Ext.alloc))⟩
  · have h1' : ((xs.length : Int) != (n : Int)) = false := by simp only [bne, h1]; rfl
    cases h2 : ((ys.length : Int) == (n : Int))
    · have h2' : ((ys.length : Int) != (n : Int)) = true := by simp only [bne, h2]; rfl
      go_enter Try.func25, Try.ntmps25
      go_wp2
      go_ret
      exact ⟨rfl, by (repeat (first | assumption | exact Ext.rf _ | apply Ext.drew | apply Ext.drewN | apply Ext.alloc))⟩
    · have h2' : ((ys.length : Int) != (n : Int)) = false := by simp only [bne, h2]; rfl
      cases h3 : ((l.length : Int) == 0)
      · have h3' : ((l.length : Int) != 0) = true := by simp only [bne, h3]; rfl
        go_enter Try.func25, Try.ntmps25
        go_wp2
        go_ret
        exact ⟨rfl, by (repeat (first | assumption | exact Ext.rf _ | apply Ext.drew | apply Ext.drewN | apply Ext.alloc))⟩
      · have h3' : ((l.length : Int) != 0) = false := by simp only [bne, h3]; rfl
        have e1 : xs.length = n := by simp only [beq_iff_eq] at h1; omega
        have e2 : ys.length = n := by simp only [beq_iff_eq] at h2; omega
        have e3 : l.length = 0 := by simp only [beq_iff_eq] at h3; omega
        simp only [Bool.and_true, if_true]
        have HI := Lib.hid (itemsP_zero cap xs ys)
        have HST : Hid (∀ k, itemsP cap xs ys k ≠ 0 → itemsP cap xs ys xs.length = itemsP cap xs ys k) := fun k hk => itemsP_stop (by omega) hk
        rw [e1, e2, e3] at B1
        rw [e1] at HST
        rw [e1, e2, e3]
        clear h1 h1' h2 h2' h3 h3' e3
        replace e1 := Lib.hid e1
        replace e2 := Lib.hid e2
        go_enter Try.func25, Try.ntmps25
        go_wp2_with (fail)
        refine (number_any cap _).mono ?_
        rintro e w2 ⟨rfl, x2⟩
        have X2 := Lib.hid (Ext.tr (a := w) (by (repeat (first | assumption | exact Ext.rf _ | apply Ext.drew | apply Ext.drewN | apply Ext.alloc))) x2)
        have B2 := Lib.hid (B1.out.ext x2)
        clear x2
        by_cases hc : numP cap = 0
        · have hc' : (numP cap != 0) = false := by simpa using hc
          have H0 : Hid (itemsP cap xs ys 0 = 0) := by
            have h := HI.out
            rw [hc] at h
            exact h
          clear hc
          have d1 : w2.cell? ⟨w.heap.size, 1, none⟩ = some (.int .i64 n) := B2.out.cell 1
          go_wp2_with (fail)
          go_loopw [4] (fun i wr => ∃ k : Nat, i = .int .i64 k ∧ k ≤ n ∧ Hid (itemsP cap xs ys k = 0) ∧ Ext w wr ∧ Hid (Blk wr w.heap.size 25 #[.int .i64 1, .int .i64 n, .int .i64 cap, .slice A n a, .slice B n b, .slice C 0 c])) (fun i _ => n - (intOf i).toNat)
          case atStart => exact ⟨0, rfl, by omega, H0, X2.out, B2⟩
          case round =>
            obtain ⟨wo, rfl⟩ : ∃ wo : World, wo = wr := ⟨_, rfl⟩
            obtain ⟨k, rfl, hk, HK, Y, BB⟩ := hrel
            have c1 : wo.cell? ⟨w.heap.size, 1, none⟩ = some (.int .i64 n) := BB.out.cell 1
            have c3 : wo.cell? ⟨w.heap.size, 3, none⟩ = some (.slice A n a) := BB.out.cell 3
            by_cases hlt : k < n
            · obtain ⟨bb, off, x, rfl, _, hc1, hx1, _⟩ := (hA.ext Y).at (k := k) (by rw [e1.out]; exact hlt)
              obtain ⟨bb', off', y, rfl, zy, hc2, hy1, _⟩ := (hB.ext Y).at (k := k) (by rw [e2.out]; exact hlt)
              have S := Lib.hid (itemsP_succ hx1.out hy1.out HK.out)
              go_wp2_with (fail)
              refine (number_any x _).mono ?_
              rintro e w3 ⟨rfl, x3⟩
              have Y3 := Ext.tr Y x3
              have B3 := Lib.hid (BB.out.ext x3)
              have c4' : w3.cell? ⟨w.heap.size, 4, none⟩ = some (.slice (some ⟨bb', off', none⟩) n b) := B3.out.cell 4
              have hc2' := keepEL x3 zy hc2
              by_cases hn : numP x = 0
              · have hn' : (numP x != 0) = false := by simpa using hn
                have HN := Lib.hid hn
                clear hn c1 c3 hc1 hc2
                go_wp2_with (fail)
                refine (number_any y _).mono ?_
                rintro e w4 ⟨rfl, x4⟩
                have Y4 := Ext.tr Y3 x4
                have B4 := Lib.hid (B3.out.ext x4)
                have HR : Hid (itemsP cap xs ys (k + 1) = numP y) := by
                  have h1 := S.out
                  rw [if_pos HN.out] at h1
                  exact h1
                clear c4' hc2' hn'
                by_cases hm : numP y = 0
                · have hm' : (numP y != 0) = false := by simpa using hm
                  have HR2 : Hid (itemsP cap xs ys (k + 1) = 0) := by
                    have h := HR.out
                    rw [hm] at h
                    exact h
                  clear hm
                  go_wp2
                  go_roundw
                  case rel => exact ⟨k + 1, by go_num, by omega, HR2, Y4, B4⟩
                  case measure => simp [intOf]; omega
                · have hm' : (numP y != 0) = true := by simpa using hm
                  have HR2 : Hid (itemsP cap xs ys n = numP y) := by
                    have h := HST.out (k + 1) (by rw [HR.out]; exact hm)
                    rw [HR.out] at h
                    exact h
                  clear hm
                  go_wp2
                  go_ret
                  exact ⟨ret_i HR2.out.symm, Y4⟩
              · have hn' : (numP x != 0) = true := by simpa using hn
                have HR2 : Hid (itemsP cap xs ys n = numP x) := by
                  have h1 := S.out
                  rw [if_neg hn] at h1
                  have h := HST.out (k + 1) (by rw [h1]; exact hn)
                  rw [h1] at h
                  exact h
                clear hn c1 c3 c4' hc1 hc2 hc2'
                go_wp2
                go_ret
                exact ⟨ret_i HR2.out.symm, Y3⟩
            · obtain rfl : k = n := by omega
              clear c3
              go_wp2
              go_ret
              exact ⟨ret_i HK.out.symm, Y⟩
        · have hc' : (numP cap != 0) = true := by simpa using hc
          have HR2 : Hid (itemsP cap xs ys n = numP cap) := by
            have h := HST.out 0 (by rw [HI.out]; exact hc)
            rw [HI.out] at h
            exact h
          clear hc
          go_wp2
          go_ret
          exact ⟨ret_i HR2.out.symm, X2.out⟩
end Go.Proofs.Ytpapkofildcdiaa
namespace Go.Proofs.Ytpapkofildcdiaa
open Go.RowKit Go.ChangeShapes Go.WideShapes Go.ChangeAt Go.Deep

set_option maxRecDepth 100000 in
set_option maxHeartbeats 4000000 in
theorem rcheck_flat (k : Int) (n : Nat) (cap : Int) (A B C : Option Addr) (a b c : Nat) (xs ys : List Int) (l : List (List Int)) (w : World) (hk : k = 2 ∨ k = 3) (n1 : 1 ≤ n) (n2 : n ≤ 24)
    (h : (((l.length : Int) == (n : Int)) && (cap == 0) && decide (xs.length + ys.length = 0)) = false) :
    Calls Try.prog 25 #[.agg #[.int .i64 k, .int .i64 n, .int .i64 cap, .slice A xs.length a, .slice B ys.length b, .slice C l.length c]] w fun e w' => e = .returned (.int .i64 8) ∧ Ext w w' := by
  have nn1 : ¬ ((n : Int) < 1) := by omega
  have nn2 : ¬ ((24 : Int) < n) := by omega
  have k0 : ¬ k < 1 := by omega
  have k3 : ¬ 3 < k := by omega
  have k1 : 1 < k := by omega
  have kb : (k == 1) = false := by rw [beq_eq_false_iff_ne]; omega
  clear hk
  cases h1 : ((l.length : Int) == (n : Int))
  · have h1' : ((l.length : Int) != (n : Int)) = true := by simp only [bne, h1]; rfl
    clear h
    go_enter Try.func25, Try.ntmps25
    go_wp2
    go_ret
    exact ⟨rfl, by (repeat (first | assumption | exact Ext.rf _ | apply Ext.drew | apply Ext.drewN | apply Ext.alloc))⟩
  · have h1' : ((l.length : Int) != (n : Int)) = false := by simp only [bne, h1]; rfl
    cases h2 : (cap == 0)
    · have h2' : (cap != 0) = true := by simp only [bne, h2]; rfl
      clear h
      go_enter Try.func25, Try.ntmps25
      go_wp2
      go_ret
      exact ⟨rfl, by (repeat (first | assumption | exact Ext.rf _ | apply Ext.drew | apply Ext.drewN | apply Ext.alloc))⟩
    · have h2' : (cap != 0) = false := by simp only [bne, h2]; rfl
      have h3 : ¬ (xs.length + ys.length = 0) := by rw [h1, h2] at h; simpa using h
      clear h
      by_cases hx : xs.length = 0
      · have hxb : ((xs.length : Int) != 0) = false := by rw [bne_eq_false_iff_eq]; omega
        have hyb : ((ys.length : Int) != 0) = true := by rw [bne_iff_ne]; omega
        clear hx h3
        go_enter Try.func25, Try.ntmps25
        go_wp2
        go_ret
        exact ⟨rfl, by (repeat (first | assumption | exact Ext.rf _ | apply Ext.drew | apply Ext.drewN | apply Ext.alloc))⟩
      · have hxb : ((xs.length : Int) != 0) = true := by rw [bne_iff_ne]; omega
        clear hx h3
        go_enter Try.func25, Try.ntmps25
        go_wp2
        go_ret
        exact ⟨rfl, by (repeat (first | assumption | exact Ext.rf _ | apply Ext.drew | apply Ext.drewN | apply Ext.alloc))⟩
theorem any_take_succ {l : List (List Int)} {r : Nat} {row : List Int} (p : List Int → Bool) (h : l[r]? = some row) : (l.take (r + 1)).any p = ((l.take r).any p || p row) := by
  obtain ⟨hr, h⟩ := List.getElem?_eq_some_iff.1 h
  rw [List.take_succ_eq_append_getElem hr, List.any_append, h]
  simp
set_option maxRecDepth 100000 in
set_option maxHeartbeats 8000000 in
theorem rcheck_sq (k : Int) (n : Nat) (A B C : Option Addr) (a b c : Nat) (l : List (List Int)) (w : World) (hC : RdE 1 RInts w C l) (hk : k = 2 ∨ k = 3) (n1 : 1 ≤ n) (n2 : n ≤ 24) (hl : l.length = n) :
    Calls Try.prog 25 #[.agg #[.int .i64 k, .int .i64 n, .int .i64 0, .slice A 0 a, .slice B 0 b, .slice C n c]] w fun e w' => e = .returned (.int .i64 (if (l.any fun r => (r.length : Int) != (n : Int)) = true then 8 else rowsE k 0 l)) ∧ Ext w w' := by
  have nn1 : ¬ ((n : Int) < 1) := by omega
  have nn2 : ¬ ((24 : Int) < n) := by omega
  have k0 : ¬ k < 1 := by omega
  have k3 : ¬ 3 < k := by omega
  have k1 : 1 < k := by omega
  have kb : (k == 1) = false := by rw [beq_eq_false_iff_ne]; omega
  have B1 : Hid (Blk (w.alloc (.cells #[.int .i64 k, .int .i64 n, .int .i64 0, .slice A 0 a, .slice B 0 b, .slice C n c] 25)) w.heap.size 25 #[.int .i64 k, .int .i64 n, .int .i64 0, .slice A 0 a, .slice B 0 b, .slice C n c]) := .new rfl
  clear hk
  replace hl := Lib.hid hl
  obtain ⟨res, hres⟩ : ∃ res, Hid (res = if (l.any fun r => (r.length : Int) != (n : Int)) = true then 8 else rowsE k 0 l) := ⟨_, rfl⟩
  rw [← hres.out]
  go_enter Try.func25, Try.ntmps25
  go_wp2_with (fail)
  go_loopw [7] (fun i wr => ∃ r : Nat, i = .int .i64 r ∧ r ≤ n ∧ Hid (((l.take r).any fun r => (r.length : Int) != (n : Int)) = false) ∧ Ext w wr ∧ Hid (Blk wr w.heap.size 25 #[.int .i64 k, .int .i64 n, .int .i64 0, .slice A 0 a, .slice B 0 b, .slice C n c])) (fun i _ => n - (intOf i).toNat)
  case atStart => exact ⟨0, rfl, by omega, by exact rfl, by (repeat (first | assumption | exact Ext.rf _ | apply Ext.drew | apply Ext.drewN | apply Ext.alloc)), B1⟩
  case round =>
    obtain ⟨wo, rfl⟩ : ∃ wo : World, wo = wr := ⟨_, rfl⟩
    obtain ⟨r, rfl, hr, HA, Y, BB⟩ := hrel
    have c1 : wo.cell? ⟨w.heap.size, 1, none⟩ = some (.int .i64 n) := BB.out.cell 1
    have c5 : wo.cell? ⟨w.heap.size, 5, none⟩ = some (.slice C n c) := BB.out.cell 5
    by_cases hlt : r < n
    · obtain ⟨cb, co, D, row, d, rfl, _, hc1, hrow, HD, rr, ir, ld, md⟩ := (hC.ext Y fun _ _ h => h.ext Y).ints (r := r) (by rw [hl.out]; exact hlt)
      by_cases hlen : row.length = n
      · have hlb : ((row.length : Int) != (n : Int)) = false := by rw [bne_eq_false_iff_eq]; omega
        have HN : Hid (((l.take (r + 1)).any fun r => (r.length : Int) != (n : Int)) = false) := by
          have h : ((l.take (r + 1)).any fun r => (r.length : Int) != (n : Int)) = false := by rw [any_take_succ _ hrow.out, HA.out, hlb]; rfl
          exact h
        replace hlen := Lib.hid hlen
        go_wp2_with (go_quiet (fail))
        go_roundw
        case rel => exact ⟨r + 1, by go_num, by omega, HN, by repeat (first | exact Y | apply Ext.drewN), by repeat (first | exact BB | exact (Lib.hid BB.out))⟩
        case measure => simp [intOf]; omega
      · have hlb : ((row.length : Int) != (n : Int)) = true := by rw [bne_iff_ne]; omega
        have HN : Hid (res = 8) := by
          have h : res = 8 := by
            rw [hres.out, if_pos]
            exact List.any_eq_true.2 ⟨row, List.mem_of_getElem? hrow.out, hlb⟩
          exact h
        clear hlen
        go_wp2_with (go_quiet (fail))
        go_ret
        exact ⟨ret_i HN.out.symm, by repeat (first | exact Y | apply Ext.drewN)⟩
    · obtain rfl : r = n := by omega
      have HN : Hid (res = rowsE k 0 l) := by
        have h := HA.out
        rw [List.take_of_length_le (by rw [hl.out]; exact Nat.le_refl _)] at h
        have h2 : res = rowsE k 0 l := by rw [hres.out, if_neg (by rw [h]; decide)]
        exact h2
      have HL : Hid (∀ row ∈ l, row.length = r) := fun row hrow => by
        have h := HA.out
        rw [List.take_of_length_le (by rw [hl.out]; exact Nat.le_refl _)] at h
        have h2 := List.any_eq_false.1 h row hrow
        simp at h2
        omega
      clear HA hlt
      clear c5
      go_wp2_with (fail)
      clear c1
      go_loopw [8] (fun i wr => ∃ q : Nat, i = .int .i64 q ∧ q ≤ r ∧ Hid (rowsE k 0 l = rowsE k q (l.drop q)) ∧ Ext w wr ∧ Hid (Blk wr w.heap.size 25 #[.int .i64 k, .int .i64 r, .int .i64 0, .slice A 0 a, .slice B 0 b, .slice C r c])) (fun i _ => r - (intOf i).toNat)
      case atStart => exact ⟨0, rfl, by omega, by exact rfl, Y, BB⟩
      case round =>
        obtain ⟨w1, rfl⟩ : ∃ w1 : World, w1 = wr := ⟨_, rfl⟩
        obtain ⟨q, rfl, hq, HT, Y1, B2⟩ := hrel
        have c1 : w1.cell? ⟨w.heap.size, 1, none⟩ = some (.int .i64 r) := B2.out.cell 1
        by_cases hlt : q < r
        · obtain ⟨cb, co, D, row, d, rfl, _, hc1, hrow, HD, rr, ir, ld, md⟩ := (hC.ext Y1 fun _ _ h => h.ext Y1).ints (r := q) (by rw [hl.out]; exact hlt)
          have hlen : Hid (row.length = r) := HL.out row (List.mem_of_getElem? hrow.out)
          have hlen2 : row.length = r := hlen.out
          rw [hlen2] at hc1 ld
          clear hlen2 hc1
          go_wp2_with (fail)
          go_loopw [9] (fun i wr => ∃ j : Nat, i = .int .i64 j ∧ j ≤ r ∧ Hid (rowE k q 0 row = rowE k q j (row.drop j)) ∧ Ext w wr ∧ Hid (Blk wr w.heap.size 25 #[.int .i64 k, .int .i64 r, .int .i64 0, .slice A 0 a, .slice B 0 b, .slice (some ⟨cb, co, none⟩) r c])) (fun i _ => r - (intOf i).toNat)
          case atStart => exact ⟨0, rfl, by omega, by exact rfl, Y1, B2⟩
          case round =>
            obtain ⟨w3, rfl⟩ : ∃ w3 : World, w3 = wr := ⟨_, rfl⟩
            obtain ⟨j, rfl, hj, HJ, Y2, B3⟩ := hrel
            have c1' : w3.cell? ⟨w.heap.size, 1, none⟩ = some (.int .i64 r) := B3.out.cell 1
            by_cases hlj : j < r
            · obtain ⟨cb', co', D', row', d', e9, zc, hc1, hrow', _, rr', ir', ld', md'⟩ := (hC.ext Y2 fun _ _ h => h.ext Y2).ints (r := q) (by rw [hl.out]; exact hlt)
              obtain ⟨rfl, rfl⟩ : cb = cb' ∧ co = co' := by injection e9 with h; injection h with h1 h2; exact ⟨h1, h2⟩
              obtain rfl : row = row' := by
                have h := hrow.out
                rw [hrow'.out] at h
                exact (Option.some.inj h).symm
              obtain ⟨bb, off', x, rfl, zx, hc2, _, hd2⟩ := rr'.at (k := j) (by rw [hlen.out]; exact hlj)
              have hl9 : row.length = r := hlen.out
              rw [hl9] at hc1 ld'
              have c5' : w3.cell? ⟨w.heap.size, 5, none⟩ = some (.slice (some ⟨cb, co, none⟩) r c) := B3.out.cell 5
              clear hl9 e9
              go_wp2_with (fail)
              refine (number_any x _).mono ?_
              rintro e w4 ⟨rfl, x4⟩
              have Y3 := Ext.tr Y2 x4
              have B4 := Lib.hid (B3.out.ext x4)
              have k0' : w4.cell? ⟨w.heap.size, 0, none⟩ = some (.int .i64 k) := B4.out.cell 0
              have k5' : w4.cell? ⟨w.heap.size, 5, none⟩ = some (.slice (some ⟨cb, co, none⟩) r c) := B4.out.cell 5
              have hc1' := keepEL x4 zc hc1
              have hc2' := keepEL x4 zx hc2
              clear hc1 hc2 c5' c1'
              by_cases hn : numP x = 0
              · have hn' : (numP x != 0) = false := by simpa using hn
                have HN0 := Lib.hid hn
                clear hn
                by_cases k3e : k = 3
                · subst k3e
                  by_cases hrj : q = j
                  · subst hrj
                    by_cases hx : x = 0
                    · have hx' : (x != 0) = false := by simpa using hx
                      have HR : Hid (rowE 3 q 0 row = rowE 3 q (q + 1) (row.drop (q + 1))) := by
                        have h1 := HJ.out
                        rw [hd2.out, rowE, if_pos HN0.out, if_neg (by simp [hx])] at h1
                        exact h1
                      clear hx
                      go_wp2
                      go_roundw
                      case rel => exact ⟨q + 1, by go_num, by omega, HR, Y3, B4⟩
                      case measure => simp [intOf]; omega
                    · have hx' : (x != 0) = true := by simpa using hx
                      have HR : Hid (res = 8) := by
                        have h1 := HJ.out
                        rw [hd2.out, rowE, if_pos HN0.out, if_pos ⟨rfl, rfl, hx⟩] at h1
                        have h2 := HT.out
                        rw [HD.out, rowsE, h1] at h2
                        have h3 : res = 8 := by rw [HN.out]; exact h2
                        exact h3
                      clear hx
                      go_wp2
                      go_ret
                      exact ⟨ret_i HR.out.symm, Y3⟩
                  · have hrj' : ((q : Int) == (j : Int)) = false := by rw [beq_eq_false_iff_ne]; omega
                    have HR : Hid (rowE 3 q 0 row = rowE 3 q (j + 1) (row.drop (j + 1))) := by
                      have h1 := HJ.out
                      rw [hd2.out, rowE, if_pos HN0.out, if_neg (by simp [hrj])] at h1
                      exact h1
                    go_wp2
                    go_roundw
                    case rel => exact ⟨j + 1, by go_num, by omega, HR, Y3, B4⟩
                    case measure => simp [intOf]; omega
                · have k3' : (k == 3) = false := by rw [beq_eq_false_iff_ne]; exact k3e
                  have HR : Hid (rowE k q 0 row = rowE k q (j + 1) (row.drop (j + 1))) := by
                    have h1 := HJ.out
                    rw [hd2.out, rowE, if_pos HN0.out, if_neg (by simp [k3e])] at h1
                    exact h1
                  clear k3e
                  go_wp2
                  go_roundw
                  case rel => exact ⟨j + 1, by go_num, by omega, HR, Y3, B4⟩
                  case measure => simp [intOf]; omega
              · have hn' : (numP x != 0) = true := by simpa using hn
                have HR : Hid (res = numP x) := by
                  have h1 := HJ.out
                  rw [hd2.out, rowE, if_neg hn] at h1
                  have h2 := HT.out
                  rw [HD.out, rowsE, h1, if_neg hn] at h2
                  have h3 : res = numP x := by rw [HN.out]; exact h2
                  exact h3
                clear hn
                go_wp2
                go_ret
                exact ⟨ret_i HR.out.symm, Y3⟩
            · have hd2 := drop_nil (xs := row) (k := j) (by rw [hlen.out]; omega)
              have HR : Hid (rowsE k 0 l = rowsE k (q + 1) (l.drop (q + 1))) := by
                have h1 := HJ.out
                rw [hd2.out, rowE] at h1
                have h2 := HT.out
                rw [HD.out, rowsE, if_pos h1] at h2
                exact h2
              clear hd2
              go_wp2
              go_roundw
              case rel => exact ⟨q + 1, by go_num, by omega, HR, Y2, B3⟩
              case measure => simp [intOf]; omega
        · have hd := drop_nil (xs := l) (k := q) (by rw [hl.out]; omega)
          have HR : Hid (res = 0) := by
            have h1 := HT.out
            rw [hd.out, rowsE] at h1
            have h3 : res = 0 := by rw [HN.out]; exact h1
            exact h3
          clear hd
          go_wp2
          go_ret
          exact ⟨ret_i HR.out.symm, Y1⟩
set_option maxRecDepth 100000 in
theorem rcheck_any (i : InstP) (vs : List Value) (w : World) (H : RInst w vs i) : Calls Try.prog 25 #[.agg (List.toArray vs)] w fun e w' => e = .returned (.int .i64 (checkP i)) ∧ Ext w w' := by
  obtain ⟨k, nn, cap, xs, ys, l⟩ := i
  obtain ⟨A, a, B, b, C, c, rfl, ⟨rA, iA, lA, mA⟩, ⟨rB, iB, lB, mB⟩, ⟨rC, lC, mC⟩⟩ := H
  simp only at *
  by_cases hs : sizeP k nn = 0
  · have kk := sizeP_kind hs
    have hn : 1 ≤ nn ∧ nn ≤ 64 ∧ (k ≠ 1 → nn ≤ 24) := by
      unfold sizeP at hs
      split at hs
      · split at hs
        · cases hs
        · split at hs
          · cases hs
          · exact ⟨by omega, by omega, fun h => absurd ‹_› h⟩
      · split at hs
        · split at hs
          · cases hs
          · split at hs
            · cases hs
            · exact ⟨by omega, by omega, fun _ => by omega⟩
        · split at hs
          · split at hs
            · cases hs
            · split at hs
              · cases hs
              · exact ⟨by omega, by omega, fun _ => by omega⟩
          · cases hs
    obtain ⟨n1, n2, n3⟩ := hn
    obtain ⟨n, rfl⟩ : ∃ n : Nat, nn = (n : Int) := ⟨nn.toNat, by omega⟩
    unfold checkP
    simp only [if_pos hs]
    unfold shapeP
    simp only
    by_cases k1 : k = 1
    · subst k1
      simp only [if_true]
      exact rcheck_1 n cap A B C a b c xs ys l w rA rB (by omega) (by omega)
    · rw [if_neg k1, if_neg k1]
      have hk : k = 2 ∨ k = 3 := by omega
      cases hf : (((l.length : Int) == (n : Int)) && (cap == 0) && decide (xs.length + ys.length = 0)) with
      | false =>
        simp only [Bool.false_and, Bool.false_eq_true, if_false]
        exact rcheck_flat k n cap A B C a b c xs ys l w hk (by omega) (by have := n3 k1; omega) hf
      | true =>
        simp only [Bool.and_eq_true, beq_iff_eq, decide_eq_true_eq] at hf
        obtain ⟨⟨h1, rfl⟩, h3⟩ := hf
        have e1 : xs = [] := List.eq_nil_of_length_eq_zero (by omega)
        have e2 : ys = [] := List.eq_nil_of_length_eq_zero (by omega)
        have e3 : l.length = n := by omega
        subst e1 e2
        have R := rcheck_sq k n A B C a b c l w rC hk (by omega) (by have := n3 k1; omega) e3
        rw [e3]
        simp only [List.length_nil]
        cases hany : (l.any fun r => (r.length : Int) != (n : Int)) with
        | true => rw [hany] at R; simpa using R
        | false => rw [hany] at R; simpa using R
  · have e : checkP ⟨k, nn, cap, xs, ys, l⟩ = sizeP k nn := by unfold checkP; simp only [if_neg hs]
    rw [e]
    exact rcheck_size k nn cap _ _ _ w hs
end Go.Proofs.Ytpapkofildcdiaa
namespace Go.Proofs.Ytpapkofildcdiaa
open Go.RowKit Go.ChangeShapes Go.WideShapes Go.ChangeAt Go.Deep

/-- each number is an int -/
def InstInts (i : InstP) : Prop := Ints i.weight ∧ Ints i.value ∧ ∀ r ∈ i.cost, Ints r
theorem RInst.ints {w : World} {vs : List Value} {i : InstP} (h : RInst w vs i) : InstInts i := by
  obtain ⟨A, a, B, b, C, c, rfl, ⟨_, h2, _⟩, ⟨_, h4, _⟩, ⟨h5, _⟩⟩ := h
  refine ⟨h2, h4, fun r hr => ?_⟩
  obtain ⟨k, hk, rfl⟩ := List.mem_iff_getElem.1 hr
  obtain ⟨_, _, _, row, _, _, _, _, he, _, _, hi, _⟩ := h5.ints hk
  have h := he.out
  rw [List.getElem?_eq_getElem hk] at h
  rw [Option.some.inj h]
  exact hi
theorem InstInts.copy {i : InstP} (h : InstInts i) : InstInts (copyP i) := by
  refine ⟨h.1.take _, h.2.1.take _, fun r hr => ?_⟩
  simp only [copyP, wantC, List.mem_map] at hr
  obtain ⟨q, hq, rfl⟩ := hr
  exact (h.2.2 q (List.mem_of_mem_take hq)).take _
theorem InstO.rinst {w : World} {base : Nat} {vs : List Value} {i : InstP} (h : InstO w base vs i) (hi : InstInts i) : RInst w vs i := by
  obtain ⟨A, a, B, b, C, c, us, rfl, h1, h2, h3, h4⟩ := h
  refine ⟨A, a, B, b, C, c, rfl, ⟨h1.read, hi.1, h1.le.1, h1.le.2⟩, ⟨h2.read, hi.2.1, h2.le.1, h2.le.2⟩, ?_, h3.le.1, h3.le.2⟩
  rcases h3.read with h0 | ⟨b', off, cur, hA, hb, hc⟩
  · left
    have := h4.1
    rw [h0] at this
    exact List.eq_nil_of_length_eq_zero this.symm
  · refine .inr ⟨b', off, hA, (Array.getElem?_eq_some_iff.1 hb).1, fun k r hr => ?_⟩
    obtain ⟨A', c', hu, ho⟩ := h4.2 k r hr
    refine ⟨[.slice A' r.length c'], ⟨A', c', rfl, ho.read, hi.2.2 r (List.mem_of_getElem? hr), ho.le.1, ho.le.2⟩, rfl, fun j v hj => ?_⟩
    cases j with
    | zero =>
      simp at hj
      subst hj
      rw [cell_of_row w b' _ cur _ (0, 0) hb]
      simpa using hc k _ hu
    | succ j => simp at hj
theorem InstO.ext {w w' : World} {base : Nat} {vs : List Value} {i : InstP} (h : InstO w base vs i) (x : Ext w w') : InstO w' base vs i := by
  obtain ⟨A, a, B, b, C, c, us, rfl, h1, h2, h3, h4⟩ := h
  exact ⟨A, a, B, b, C, c, us, rfl, h1.ext x, h2.ext x, h3.ext x, h4.ext x⟩
theorem InstO.modT {w w' : World} {base base' : Nat} {ts : List TypeId} {vs : List Value} {i : InstP} (h : InstO w base vs i) (k : ModT base' ts w w') (h1 : 3 ∉ ts) (h2 : 22 ∉ ts) : InstO w' base vs i := by
  obtain ⟨A, a, B, b, C, c, us, rfl, g1, g2, g3, g4⟩ := h
  exact ⟨A, a, B, b, C, c, us, rfl, g1.modT k h1, g2.modT k h1, g3.modT k h2, g4.modT k h1⟩
theorem copyP_lens (i : InstP) : (copyP i).weight.length ≤ 70 ∧ (copyP i).value.length ≤ 70 ∧ (copyP i).cost.length ≤ 30 := by
  refine ⟨List.length_take_le _ _, List.length_take_le _ _, ?_⟩
  simp [copyP, wantC]
  omega
/-- the copied problem put in the place of the given one -/
theorem put_copy {w w2 : World} {a0 a1 a2 a3 a4 a5 u0 u1 u2 u3 u4 u5 : Value} {j : InstP} {base : Nat}
    (hB : Blk w2 w.heap.size 25 #[a0, a1, a2, a3, a4, a5]) (x : Ext w w2) (hO : InstO w2 base [u0, u1, u2, u3, u4, u5] j) :
    Ext w ((((((w2.setCell ⟨w.heap.size, 0, none⟩ u0).setCell ⟨w.heap.size, 1, none⟩ u1).setCell ⟨w.heap.size, 2, none⟩ u2).setCell ⟨w.heap.size, 3, none⟩ u3).setCell ⟨w.heap.size, 4, none⟩ u4).setCell ⟨w.heap.size, 5, none⟩ u5) ∧
    Blk ((((((w2.setCell ⟨w.heap.size, 0, none⟩ u0).setCell ⟨w.heap.size, 1, none⟩ u1).setCell ⟨w.heap.size, 2, none⟩ u2).setCell ⟨w.heap.size, 3, none⟩ u3).setCell ⟨w.heap.size, 4, none⟩ u4).setCell ⟨w.heap.size, 5, none⟩ u5) w.heap.size 25 #[u0, u1, u2, u3, u4, u5] ∧
    InstO ((((((w2.setCell ⟨w.heap.size, 0, none⟩ u0).setCell ⟨w.heap.size, 1, none⟩ u1).setCell ⟨w.heap.size, 2, none⟩ u2).setCell ⟨w.heap.size, 3, none⟩ u3).setCell ⟨w.heap.size, 4, none⟩ u4).setCell ⟨w.heap.size, 5, none⟩ u5) base [u0, u1, u2, u3, u4, u5] j := by
  obtain ⟨h1, h2⟩ := set6 hB (base := w.heap.size) (Nat.le_refl _) u0 u1 u2 u3 u4 u5
  exact ⟨x.modT h2 (Nat.le_refl _), h1, hO.modT h2 (by decide) (by decide)⟩
theorem InstO.six {w : World} {base : Nat} {vs : List Value} {i : InstP} (h : InstO w base vs i) : ∃ A3 l3 c3 A4 l4 c4 A5 l5 c5, vs = [.int .i64 i.kind, .int .i64 i.n, .int .i64 i.cap, .slice A3 l3 c3, .slice A4 l4 c4, .slice A5 l5 c5] := by
  obtain ⟨A, a, B, b, C, c, us, rfl, _⟩ := h
  exact ⟨_, _, _, _, _, _, _, _, _, rfl⟩
def CopyTo (j : InstP) (w : World) (e : Ending) (w' : World) : Prop := ∃ vs, e = .returned (.agg (List.toArray vs)) ∧ InstO w' w.heap.size vs j ∧ Ext w w'
theorem copy_to {i j : InstP} (hj : j = copyP i) (vs : List Value) (w : World) (H : RInst w vs i) : Calls Try.prog 6 #[.agg (List.toArray vs)] w (CopyTo j w) := by subst hj; exact copy_any vs i w H
end Go.Proofs.Ytpapkofildcdiaa
namespace Go.Proofs.Ytpapkofildcdiaa

/-- a problem over a square, in form -/
structure SquareOk (i : InstP) : Prop where
  n1 : 1 ≤ i.n
  n2 : i.n ≤ 24
  len : (i.cost.length : Int) = i.n
  row : ∀ r ∈ i.cost, (r.length : Int) = i.n
  num : ∀ r ∈ i.cost, ∀ x ∈ r, 0 ≤ x ∧ x ≤ 2147483647
  w : i.weight = []
  v : i.value = []
theorem numP_none {n : Int} (h : numP n = 0) : 0 ≤ n ∧ n ≤ 2147483647 := by
  unfold numP at h
  split at h
  · cases h
  · split at h
    · cases h
    · omega
theorem rowE_zero : ∀ {l : List Int} {k : Int} {r c : Nat}, rowE k r c l = 0 → ∀ x ∈ l, 0 ≤ x ∧ x ≤ 2147483647
  | [], _, _, _, _, x, hx => by cases hx
  | n :: l, k, r, c, h, x, hx => by
    unfold rowE at h
    split at h
    · rename_i hn
      split at h
      · cases h
      · rcases List.mem_cons.1 hx with rfl | hx
        · exact numP_none hn
        · exact rowE_zero h x hx
    · rename_i hn
      exact absurd h hn
theorem rowsE_zero : ∀ {l : List (List Int)} {k : Int} {r : Nat}, rowsE k r l = 0 → ∀ q ∈ l, ∀ x ∈ q, 0 ≤ x ∧ x ≤ 2147483647
  | [], _, _, _, q, hq => by cases hq
  | row :: l, k, r, h, q, hq => by
    unfold rowsE at h
    split at h
    · rename_i hr
      rcases List.mem_cons.1 hq with rfl | hq
      · exact rowE_zero hr
      · exact rowsE_zero h q hq
    · rename_i hr
      exact absurd h hr
theorem square_ok {i : InstP} (h : checkP i = 0) (hk : i.kind ≠ 1) : SquareOk i := by
  unfold checkP at h
  by_cases hs : sizeP i.kind i.n = 0
  · rw [if_pos hs] at h
    by_cases hsh : shapeP i = true
    · rw [if_pos hsh, if_neg hk] at h
      unfold shapeP at hsh
      rw [if_neg hk] at hsh
      simp only [Bool.and_eq_true, beq_iff_eq, decide_eq_true_eq, Bool.not_eq_true', List.any_eq_false, bne_iff_ne, ne_eq, Decidable.not_not] at hsh
      obtain ⟨⟨⟨h1, h2⟩, h3⟩, h4⟩ := hsh
      unfold sizeP at hs
      rw [if_neg hk] at hs
      have hn : 1 ≤ i.n ∧ i.n ≤ 24 := by
        split at hs
        · split at hs
          · cases hs
          · split at hs
            · cases hs
            · omega
        · split at hs
          · split at hs
            · cases hs
            · split at hs
              · cases hs
              · omega
          · cases hs
      exact ⟨hn.1, hn.2, h1, h4, rowsE_zero h, List.eq_nil_of_length_eq_zero (by omega), List.eq_nil_of_length_eq_zero (by omega)⟩
    · rw [if_neg hsh] at h
      cases h
  · rw [if_neg hs] at h
    exact absurd h hs
/-- which columns are left; none: no beginning -/
def freeM (m : Nat) : List Int → Option Nat
  | [] => some m
  | c :: p => if 0 ≤ c ∧ c < 64 ∧ m.testBit c.toNat = true then freeM (clrM m c.toNat) p else none
def freeP (n : Nat) (p : List Int) : Option Nat := if n < p.length then none else freeM (2 ^ n - 1) p
theorem clrM_lt (m i : Nat) : clrM m i < 18446744073709551616 := andNotN_lt _ _
/-- a set of numbers below n -/
def SubN (n m : Nat) : Prop := m < 18446744073709551616 ∧ ∀ x ∈ memsM m, x < n
theorem subN_full {n : Nat} (h : n ≤ 24) : SubN n (2 ^ n - 1) := by
  refine ⟨?_, fun x hx => ?_⟩
  · have : 2 ^ n ≤ 2 ^ 24 := Nat.pow_le_pow_right (by omega) h
    omega
  · rw [memsM_full (by omega)] at hx
    exact List.mem_range.1 hx
theorem SubN.clr {n m : Nat} (h : SubN n m) (i : Nat) : SubN n (clrM m i) := by
  refine ⟨clrM_lt _ _, fun x hx => h.2 x ?_⟩
  rw [memsM_clr h.1] at hx
  exact (List.mem_filter.1 hx).1
theorem freeM_sub {n : Nat} : ∀ {p : List Int} {m q : Nat}, SubN n m → freeM m p = some q → SubN n q
  | [], m, q, h, e => by
    simp only [freeM, Option.some.injEq] at e
    subst e
    exact h
  | c :: p, m, q, h, e => by
    unfold freeM at e
    split at e
    · exact freeM_sub (h.clr _) e
    · cases e
theorem rows_ok {i : InstP} (h : SquareOk i) : RowsOk i.cost := by
  have h1 := h.n1
  have h2 := h.n2
  have h3 := h.len
  refine ⟨by omega, by omega, fun r hr => ?_, h.num⟩
  have := h.row r hr
  omega
end Go.Proofs.Ytpapkofildcdiaa
namespace Go.Proofs.Ytpapkofildcdiaa
open Go.RowKit Go.ChangeShapes Go.WideShapes Go.ChangeAt Go.Deep

end Go.Proofs.Ytpapkofildcdiaa
namespace Go.Proofs.Ytpapkofildcdiaa
open Go.RowKit Go.ChangeShapes Go.WideShapes Go.ChangeAt Go.Deep Go.Shelf
attribute [local go_sem] Oper.semAt_some

/-- the least one, by the loop's own words -/
def leastN (f : Nat → Int) (b : Int) (l : List Nat) : Int := l.foldl (fun b x => if b < 0 then f x else if f x < b then f x else b) b
end Go.Proofs.Ytpapkofildcdiaa
namespace Go.Proofs.Ytpapkofildcdiaa
open Go.RowKit Go.ChangeShapes Go.WideShapes Go.ChangeAt Go.Deep Go.Shelf
attribute [local go_sem] Oper.semAt_some

def offL (rows : List (List Int)) (l : List Nat) : List Int := rows.map fun row => leastN (fun c => row.getD c 0) (-1) l
/-- the least of a column beyond what the rows cost, from row k on -/
def colF (c : Nat) (b : Int) : List (List Int) → List Int → Int
  | row :: rows, o :: off => colF c (if b < 0 then row.getD c 0 - o else if row.getD c 0 - o < b then row.getD c 0 - o else b) rows off
  | _, _ => b
def reduceP (rows : List (List Int)) (l : List Nat) : Int := sumL (offL rows l) + sumL (l.map fun c => colF c (-1) rows (offL rows l))
theorem leastN_bd {f : Nat → Int} {B : Int} : ∀ {l : List Nat} {b : Int}, (∀ c ∈ l, -B ≤ f c ∧ f c ≤ B) → -B ≤ b → b ≤ B → -B ≤ leastN f b l ∧ leastN f b l ≤ B
  | [], b, _, h1, h2 => ⟨h1, h2⟩
  | c :: l, b, h, h1, h2 => by
    have hc := h c (by simp)
    have e : leastN f b (c :: l) = leastN f (if b < 0 then f c else if f c < b then f c else b) l := rfl
    rw [e]
    refine leastN_bd (fun x hx => h x (by simp [hx])) ?_ ?_ <;> split <;> (try split) <;> omega
theorem colF_bd {c : Nat} {B : Int} : ∀ {rows : List (List Int)} {off : List Int} {b : Int}, (∀ row ∈ rows, 0 ≤ row.getD c 0 ∧ row.getD c 0 ≤ B) → (∀ o ∈ off, -B ≤ o ∧ o ≤ B) → 0 ≤ B → -(2 * B) ≤ b → b ≤ 2 * B → -(2 * B) ≤ colF c b rows off ∧ colF c b rows off ≤ 2 * B
  | [], off, b, _, _, _, h1, h2 => by cases off <;> exact ⟨h1, h2⟩
  | _ :: _, [], b, _, _, _, h1, h2 => ⟨h1, h2⟩
  | row :: rows, o :: off, b, hr, ho, h0, h1, h2 => by
    have a1 := hr row (by simp)
    have a2 := ho o (by simp)
    unfold colF
    refine colF_bd (fun x hx => hr x (by simp [hx])) (fun x hx => ho x (by simp [hx])) h0 ?_ ?_ <;> split <;> (try split) <;> omega
theorem sumA_bd {B : Int} : ∀ {l : List Int}, (∀ x ∈ l, -B ≤ x ∧ x ≤ B) → -(B * l.length) ≤ sumL l ∧ sumL l ≤ B * l.length
  | [], _ => by simp [sumL]
  | x :: l, h => by
    have h1 := h x (by simp)
    have h2 := sumA_bd (l := l) fun y hy => h y (by simp [hy])
    simp only [sumL, List.length_cons, Int.natCast_add, Int.natCast_one, Int.mul_add, Int.mul_one]
    omega
end Go.Proofs.Ytpapkofildcdiaa
namespace Go.Proofs.Ytpapkofildcdiaa
open Go

section
variable {F : Fence} {n : Nat} {P : Program} {ops : Array Oper} {md : Region.Mode} {C : World → Prop}
end
end Go.Proofs.Ytpapkofildcdiaa
namespace Go.Proofs.Ytpapkofildcdiaa
open Go.RowKit Go.ChangeShapes Go.WideShapes Go.ChangeAt Go.Deep Go.Shelf
attribute [local go_sem] Oper.semAt_some

end Go.Proofs.Ytpapkofildcdiaa
namespace Go.Proofs.Ytpapkofildcdiaa
open Go.RowKit Go.ChangeShapes Go.WideShapes Go.ChangeAt Go.Deep Go.Shelf

def boundA (rows : List (List Int)) (p : List Int) : Int × Int :=
  match freeP rows.length p with
  | none => (0, 1)
  | some m => (costF rows p + (if p.length < rows.length then reduceP (rows.drop p.length) (memsM m) else 0), 0)
theorem freeM_in {n : Nat} : ∀ {p : List Int} {m q : Nat}, SubN n m → freeM m p = some q → ∀ c ∈ p, 0 ≤ c ∧ c < n
  | [], _, _, _, _, c, hc => by cases hc
  | d :: p, m, q, h, e, c, hc => by
    unfold freeM at e
    split at e
    · rename_i hd
      rcases List.mem_cons.1 hc with rfl | hc
      · have := h.2 c.toNat (memsM_mem.2 ⟨by omega, hd.2.2⟩)
        omega
      · exact freeM_in (h.clr _) e c hc
    · cases e
theorem freeP_in {n : Nat} (h24 : n ≤ 24) {p : List Int} {q : Nat} (e : freeP n p = some q) : p.length ≤ n ∧ (∀ c ∈ p, 0 ≤ c ∧ c < n) ∧ SubN n q := by
  unfold freeP at e
  split at e
  · cases e
  · exact ⟨by omega, freeM_in (subN_full h24) e, freeM_sub (subN_full h24) e⟩
theorem costF_snoc : ∀ {rows : List (List Int)} {p : List Int} {k : Nat} {row : List Int} {c : Int}, rows[k]? = some row → p[k]? = some c → costF rows (p.take (k + 1)) = costF rows (p.take k) + row.getD c.toNat 0
  | r :: rows, d :: p, 0, row, c, h1, h2 => by
    simp at h1 h2
    subst h1 h2
    cases rows <;> simp [costF]
  | r :: rows, d :: p, k + 1, row, c, h1, h2 => by
    simp at h1 h2
    simp only [List.take_succ_cons, costF]
    rw [costF_snoc h1 h2]
    omega
  | [], _, _, _, _, h1, _ => by simp at h1
  | _ :: _, [], _, _, _, _, h2 => by simp at h2
theorem costF_bd {B : Int} (hB : 0 ≤ B) : ∀ {rows : List (List Int)} {p : List Int}, (∀ row ∈ rows, ∀ c ∈ p, 0 ≤ row.getD c.toNat 0 ∧ row.getD c.toNat 0 ≤ B) → 0 ≤ costF rows p ∧ costF rows p ≤ B * p.length
  | [], p, _ => by
    have : 0 ≤ B * (p.length : Int) := Int.mul_nonneg hB (by omega)
    simp only [costF]
    omega
  | _ :: _, [], _ => by simp [costF]
  | r :: rows, d :: p, h => by
    have h1 := h r (by simp) d (by simp)
    have h2 := costF_bd hB (rows := rows) (p := p) fun row hr c hc => h row (by simp [hr]) c (by simp [hc])
    simp only [costF, List.length_cons, Int.natCast_add, Int.natCast_one, Int.mul_add, Int.mul_one]
    omega
theorem reduceP_bd {rows : List (List Int)} {m : Nat} (hr : rows.length ≤ 24) (h : ∀ row ∈ rows, ∀ c ∈ memsM m, 0 ≤ row.getD c 0 ∧ row.getD c 0 ≤ 2147483647) : -(2147483647 * 300) ≤ reduceP rows (memsM m) ∧ reduceP rows (memsM m) ≤ 2147483647 * 300 := by
  have h1 : ∀ o ∈ offL rows (memsM m), -2147483647 ≤ o ∧ o ≤ 2147483647 := fun o ho => by
    obtain ⟨row, hr, rfl⟩ := List.mem_map.1 ho
    exact leastN_bd (fun c hc => by have := h row hr c hc; omega) (by omega) (by omega)
  have h2 := sumA_bd (B := 2147483647) h1
  have h3 : (offL rows (memsM m)).length = rows.length := by simp [offL]
  have h4 := sumA_bd (B := 2 * 2147483647) (l := (memsM m).map fun c => colF c (-1) rows (offL rows (memsM m))) fun z hz => by
    obtain ⟨c, hc, rfl⟩ := List.mem_map.1 hz
    exact colF_bd (fun row hr => h row hr c hc) h1 (by omega) (by omega) (by omega)
  have h5 := memsM_le m
  rw [List.length_map] at h4
  unfold reduceP
  omega
theorem RowsO.drop {w : World} {base : Nat} {us : List Value} {rows : List (List Int)} (h : RowsO w base us rows) (k : Nat) : RowsO w base (us.drop k) (rows.drop k) := by
  refine ⟨by rw [List.length_drop, List.length_drop, h.1], fun i r hr => ?_⟩
  rw [List.getElem?_drop] at hr
  obtain ⟨A, c, h1, h2⟩ := h.2 (k + i) r hr
  exact ⟨A, c, by rw [List.getElem?_drop]; exact h1, h2⟩
end Go.Proofs.Ytpapkofildcdiaa
namespace Go.Proofs.Ytpapkofildcdiaa

theorem strictly.le {lt : Nat → Nat → Bool} (h : Weak lt) {x y : Nat} (hs : strictly lt x y) : lt y x = false := by
  rcases hs with h1 | ⟨h1, _⟩
  · exact h.asym _ _ h1
  · exact h1
end Go.Proofs.Ytpapkofildcdiaa
namespace Go.Proofs.Ytpapkofildcdiaa

section
variable {α : Type}
end

end Go.Proofs.Ytpapkofildcdiaa
namespace Go.Proofs.Ytpapkofildcdiaa

def sortP (lt : Nat → Nat → Bool) (l : List Nat) : List Nat := msortP lt l.length l
end Go.Proofs.Ytpapkofildcdiaa
namespace Go.Proofs.Ytpapkofildcdiaa
open Go.RowKit Go.ChangeShapes Go.WideShapes Go.ChangeAt Go.Deep

theorem intsN_get {l : List Nat} {k n : Nat} (h : l[k]? = some n) : (intsN l)[k]? = some (n : Int) := by simp [intsN, h]
end Go.Proofs.Ytpapkofildcdiaa
namespace Go.Proofs.Ytpapkofildcdiaa
open Go.RowKit Go.ChangeShapes Go.WideShapes Go.ChangeAt Go.Deep

def ltC (cf : Nat → Nat → Int) (x y : Nat) : Bool := decide (cf x y < 0)
end Go.Proofs.Ytpapkofildcdiaa
namespace Go.Proofs.Ytpapkofildcdiaa
open Go.RowKit Go.ChangeShapes Go.WideShapes Go.ChangeAt Go.Deep

end Go.Proofs.Ytpapkofildcdiaa
namespace Go.Proofs.Ytpapkofildcdiaa
open Go.RowKit Go.ChangeShapes Go.WideShapes Go.ChangeAt Go.Deep

end Go.Proofs.Ytpapkofildcdiaa
namespace Go.Proofs.Ytpapkofildcdiaa
open Go.RowKit Go.ChangeShapes Go.WideShapes Go.ChangeAt Go.Deep

end Go.Proofs.Ytpapkofildcdiaa
namespace Go.Proofs.Ytpapkofildcdiaa
open Go.RowKit Go.ChangeShapes Go.WideShapes Go.ChangeAt Go.Deep

/-- what a row's numbers say of two columns -/
def cfR (row : List Int) (a b : Nat) : Int := row.getD a 0 - row.getD b 0
def kidsA (rows : List (List Int)) (p : List Int) : List Int × Int :=
  match freeP rows.length p with
  | none => ([], 1)
  | some m => (intsN (sortP (ltC (cfR (rows.getD p.length []))) (memsM m)), 0)
theorem filter_ne_len {i : Nat} : ∀ {l : List Nat}, l.Pairwise (· < ·) → i ∈ l → (l.filter fun j => decide (i ≠ j)).length + 1 = l.length
  | [], _, h => by cases h
  | x :: l, hp, h => by
    have hp' := List.pairwise_cons.1 hp
    by_cases e : i = x
    · subst e
      have : l.filter (fun j => decide (i ≠ j)) = l := List.filter_eq_self.2 fun y hy => by
        have := hp'.1 y hy
        simp; omega
      rw [List.filter_cons_of_neg (by simp), this]; rfl
    · rcases List.mem_cons.1 h with h | h
      · exact absurd h e
      · rw [List.filter_cons_of_pos (by simpa using e), List.length_cons, List.length_cons, filter_ne_len hp'.2 h]
theorem freeM_len {n : Nat} : ∀ {p : List Int} {m q : Nat}, SubN n m → freeM m p = some q → (memsM q).length + p.length = (memsM m).length
  | [], m, q, _, e => by
    simp only [freeM, Option.some.injEq] at e
    subst e; rfl
  | c :: p, m, q, h, e => by
    unfold freeM at e
    split at e
    · rename_i hc
      have h1 := freeM_len (h.clr _) e
      have h2 := filter_ne_len (memsM_sorted m) (memsM_mem.2 ⟨by omega, hc.2.2⟩ : c.toNat ∈ memsM m)
      rw [← memsM_clr h.1] at h2
      rw [List.length_cons]
      omega
    · cases e
theorem freeP_len {n : Nat} (h24 : n ≤ 24) {p : List Int} {q : Nat} (e : freeP n p = some q) : (memsM q).length + p.length = n := by
  unfold freeP at e
  split at e
  · cases e
  · rw [freeM_len (subN_full h24) e, memsM_full (by omega), List.length_range]
theorem Mod.heap {g : Nat} {w w' : World} (h : Mod (fun k => k = g) w w') {a : World} (x : Ext a w) (hg : a.heap.size ≤ g) : Ext a w' := x.mod h fun k hk e => by omega
end Go.Proofs.Ytpapkofildcdiaa
namespace Go.Proofs.Ytpapkofildcdiaa
open Go.RowKit Go.ChangeShapes Go.WideShapes Go.ChangeAt Go.Deep

end Go.Proofs.Ytpapkofildcdiaa
namespace Go.Proofs.Ytpapkofildcdiaa
open Go.RowKit Go.ChangeShapes Go.WideShapes Go.ChangeAt Go.Deep

theorem memsM_range {n m : Nat} (h : SubN n m) (hn : n ≤ 64) : memsM m = (List.range n).filter fun c => m.testBit c := by
  refine List.Perm.eq_of_pairwise (le := (· < ·)) (fun a b _ _ h1 h2 => by omega) (memsM_sorted m) (List.Pairwise.filter _ List.pairwise_lt_range) ?_
  refine (List.perm_ext_iff_of_nodup ((memsM_sorted m).imp fun h => Nat.ne_of_lt h) ((List.Pairwise.filter _ List.pairwise_lt_range).imp fun h => Nat.ne_of_lt h)).2 fun c => ?_
  rw [memsM_mem]
  simp only [List.mem_filter, List.mem_range]
  constructor
  · rintro ⟨h1, h2⟩
    exact ⟨h.2 c (memsM_mem.2 ⟨h1, h2⟩), h2⟩
  · rintro ⟨h1, h2⟩
    exact ⟨by omega, h2⟩
end Go.Proofs.Ytpapkofildcdiaa
namespace Go.Proofs.Ytpapkofildcdiaa
open Go.RowKit Go.ChangeShapes Go.WideShapes Go.ChangeAt Go.Deep

end Go.Proofs.Ytpapkofildcdiaa
namespace Go.Proofs.Ytpapkofildcdiaa
open Go.RowKit Go.ChangeShapes Go.WideShapes Go.ChangeAt Go.Deep

/-- the least one of a row -/
def leastL : Int → List Int → Int
  | b, [] => b
  | b, x :: l => leastL (if b < 0 then x else if x < b then x else b) l
theorem leastL_bd {B : Int} : ∀ {l : List Int} {b : Int}, (∀ x ∈ l, 0 ≤ x ∧ x ≤ B) → b ≤ B → (0 ≤ b ∨ l ≠ []) → 0 ≤ leastL b l ∧ leastL b l ≤ B
  | [], b, _, h1, h2 => by
    rcases h2 with h2 | h2
    · exact ⟨h2, h1⟩
    · exact absurd rfl h2
  | x :: l, b, h, h1, h2 => by
    have hx := h x (by simp)
    unfold leastL
    refine leastL_bd (fun y hy => h y (by simp [hy])) ?_ (.inl ?_) <;> split <;> (try split) <;> omega
theorem leastL_le : ∀ {l : List Int} {b : Int}, (∀ x ∈ l, 0 ≤ x) → (∀ x ∈ l, leastL b l ≤ x) ∧ (0 ≤ b → leastL b l ≤ b)
  | [], b, _ => ⟨fun x hx => absurd hx List.not_mem_nil, fun _ => Int.le_refl _⟩
  | x :: l, b, h => by
    have hx := h x (by simp)
    have ih := leastL_le (l := l) (b := if b < 0 then x else if x < b then x else b) fun y hy => h y (by simp [hy])
    unfold leastL
    refine ⟨fun y hy => ?_, fun hb => ?_⟩
    · rcases List.mem_cons.1 hy with rfl | hy
      · refine Int.le_trans (ih.2 ?_) ?_ <;> split <;> (try split) <;> omega
      · exact ih.1 y hy
    · refine Int.le_trans (ih.2 ?_) ?_ <;> split <;> (try split) <;> omega
theorem leastL_map (f : Nat → Int) : ∀ (l : List Nat) (b : Int), leastL b (l.map f) = leastN f b l
  | [], b => rfl
  | x :: l, b => by
    show leastL _ (l.map f) = _
    rw [leastL_map f l]
    rfl
def offs (ms : List (List Int)) : List Int := ms.map (leastL (-1))
def rcols (ms : List (List Int)) (L : Nat) : List Int := (List.range L).map fun c => colF c (-1) ms (offs ms)
def rreduceP (ms : List (List Int)) (L : Nat) : Int := sumL (offs ms) + sumL (rcols ms L)
theorem colF_map {g : Nat → Nat} {h : List Int → List Int} {c : Nat} : ∀ (rows : List (List Int)) (o : List Int) (b : Int), (∀ row ∈ rows, (h row).getD c 0 = row.getD (g c) 0) → colF c b (rows.map h) o = colF (g c) b rows o
  | [], o, b, _ => by cases o <;> rfl
  | row :: rows, [], b, _ => rfl
  | row :: rows, x :: o, b, hh => by
    have h1 := hh row (by simp)
    simp only [List.map_cons, colF]
    rw [h1]
    exact colF_map rows o _ fun q hq => hh q (by simp [hq])
theorem rreduce_eq (rows : List (List Int)) (l : List Nat) : rreduceP (rows.map fun row => l.map fun c => row.getD c 0) l.length = reduceP rows l := by
  have ho : offs (rows.map fun row => l.map fun c => row.getD c 0) = offL rows l := by
    unfold offs offL
    rw [List.map_map]
    refine List.map_congr_left fun row _ => ?_
    exact leastL_map (fun c => row.getD c 0) l (-1)
  unfold rreduceP reduceP rcols
  rw [ho]
  congr 2
  apply List.ext_getElem
  · simp
  intro k h1 h2
  simp only [List.length_map, List.length_range] at h1 h2
  rw [List.getElem_map, List.getElem_map, List.getElem_range]
  have := colF_map (g := fun k => l.getD k 0) (h := fun row => l.map fun c => row.getD c 0) (c := k) rows (offL rows l) (-1) (fun row _ => by
    simp [List.getD, h2])
  rw [this]
  simp [List.getD, h2]
theorem colF_pos {c : Nat} {B : Int} : ∀ {rows : List (List Int)} {off : List Int} {b : Int}, (∀ (k : Nat) (x : List Int) (o : Int), rows[k]? = some x → off[k]? = some o → 0 ≤ x.getD c 0 - o ∧ x.getD c 0 - o ≤ B) → rows.length = off.length → b ≤ B → (0 ≤ b ∨ rows ≠ []) → 0 ≤ colF c b rows off ∧ colF c b rows off ≤ B
  | [], off, b, _, _, h1, h2 => by
    rcases h2 with h2 | h2
    · cases off <;> exact ⟨h2, h1⟩
    · exact absurd rfl h2
  | row :: rows, [], b, _, hl, _, _ => by simp at hl
  | row :: rows, o :: off, b, h, hl, h1, h2 => by
    have hx := h 0 row o rfl rfl
    unfold colF
    refine colF_pos (fun k x o h3 h4 => h (k + 1) x o h3 h4) (by simpa using hl) ?_ (.inl ?_) <;> split <;> (try split) <;> omega
theorem sum_take_snoc {l : List Int} {k : Nat} {x : Int} (h : l[k]? = some x) : sumL (l.take (k + 1)) = sumL (l.take k) + x := by
  rw [List.take_add_one, h, sumL_app]
  simp [sumL]
theorem sum_take_bd {B : Int} {l : List Int} (h : ∀ x ∈ l, 0 ≤ x ∧ x ≤ B) (hB : 0 ≤ B) : ∀ k : Nat, 0 ≤ sumL (l.take k) ∧ sumL (l.take k) ≤ B * k
  | 0 => by simp [sumL]
  | k + 1 => by
    have h1 := sum_take_bd h hB k
    have e : B * ((k + 1 : Nat) : Int) = B * k + B := by rw [Int.natCast_add, Int.mul_add]; simp
    rw [e]
    by_cases hk : k < l.length
    · have ek : l[k]? = some l[k] := List.getElem?_eq_getElem hk
      rw [sum_take_snoc ek]
      have := h _ (List.getElem_mem hk)
      omega
    · rw [List.take_of_length_le (by omega)]
      rw [List.take_of_length_le (by omega)] at h1
      omega
end Go.Proofs.Ytpapkofildcdiaa
namespace Go.Proofs.Ytpapkofildcdiaa
open Go.RowKit Go.ChangeShapes Go.WideShapes Go.ChangeAt Go.Deep

def subM (rows : List (List Int)) (l : List Nat) : List (List Int) := rows.map fun row => l.map fun c => row.getD c 0
end Go.Proofs.Ytpapkofildcdiaa
namespace Go.Proofs.Ytpapkofildcdiaa

theorem clr_mem {m c x : Nat} (h : m < 18446744073709551616) : x ∈ memsM (clrM m c) ↔ x ∈ memsM m ∧ x ≠ c := by
  rw [memsM_clr h, List.mem_filter]
  constructor
  · rintro ⟨h1, h2⟩
    exact ⟨h1, fun e => by subst e; simp at h2⟩
  · rintro ⟨h1, h2⟩
    exact ⟨h1, by simp; exact fun e => h2 e.symm⟩
/-- a beginning's columns -/
theorem freeM_cols {n : Nat} : ∀ {p : List Int} {m q : Nat}, SubN n m → freeM m p = some q → ∃ l : List Nat, p = intsN l ∧ l.Nodup ∧ (∀ x ∈ l, x ∈ memsM m) ∧ ∀ x, x ∈ memsM q ↔ x ∈ memsM m ∧ x ∉ l
  | [], m, q, _, e => by
    simp only [freeM, Option.some.injEq] at e
    subst e
    exact ⟨[], rfl, List.Pairwise.nil, by simp, by simp⟩
  | c :: p, m, q, h, e => by
    unfold freeM at e
    split at e
    · rename_i hc
      obtain ⟨l, rfl, h1, h2, h3⟩ := freeM_cols (h.clr _) e
      have hm : c.toNat ∈ memsM m := memsM_mem.2 ⟨by omega, hc.2.2⟩
      have hnot : c.toNat ∉ l := fun hl => ((clr_mem h.1).1 (h2 _ hl)).2 rfl
      refine ⟨c.toNat :: l, ?_, List.nodup_cons.2 ⟨hnot, h1⟩, ?_, fun x => ?_⟩
      · simp only [intsN, List.map_cons, List.cons.injEq, and_true]
        omega
      · intro x hx
        rcases List.mem_cons.1 hx with rfl | hx
        · exact hm
        · exact ((clr_mem h.1).1 (h2 x hx)).1
      · rw [h3 x, clr_mem h.1]
        simp only [List.mem_cons, not_or]
        exact ⟨fun ⟨⟨a, b⟩, c⟩ => ⟨a, b, c⟩, fun ⟨a, b, c⟩ => ⟨⟨a, b⟩, c⟩⟩
    · cases e
theorem freeP_cols {n : Nat} (h24 : n ≤ 24) {p : List Int} {q : Nat} (e : freeP n p = some q) : ∃ l : List Nat, p = intsN l ∧ l.Nodup ∧ (∀ x ∈ l, x < n) ∧ ∀ x, x ∈ memsM q ↔ x < n ∧ x ∉ l := by
  unfold freeP at e
  split at e
  · cases e
  · obtain ⟨l, h1, h2, h3, h4⟩ := freeM_cols (subN_full h24) e
    have hm : ∀ x, x ∈ memsM (2 ^ n - 1) ↔ x < n := fun x => by rw [memsM_full (by omega), List.mem_range]
    exact ⟨l, h1, h2, fun x hx => (hm x).1 (h3 x hx), fun x => by rw [h4 x, hm x]⟩
/-- one step on -/
theorem freeP_snoc {n : Nat} (h24 : n ≤ 24) {p : List Int} {m c : Nat} (e : freeP n p = some m) (hc : c ∈ memsM m) : freeP n (p ++ [(c : Int)]) = some (clrM m c) := by
  have hlen := freeP_len h24 e
  have hpos : 0 < (memsM m).length := List.length_pos_of_mem hc
  unfold freeP at e ⊢
  rw [if_neg (by omega)] at e
  rw [if_neg (by rw [List.length_append, List.length_singleton]; omega)]
  have key : ∀ {p : List Int} {m0 : Nat}, freeM m0 p = some m → freeM m0 (p ++ [(c : Int)]) = some (clrM m c) := by
    intro p
    induction p with
    | nil =>
      intro m0 h
      simp only [freeM, Option.some.injEq] at h
      subst h
      have := memsM_mem.1 hc
      show freeM m0 ((c : Int) :: []) = _
      unfold freeM
      rw [if_pos ⟨by omega, by omega, by rw [Int.toNat_natCast]; exact this.2⟩, Int.toNat_natCast]
      rfl
    | cons d p ih =>
      intro m0 h
      show freeM m0 (d :: (p ++ [(c : Int)])) = _
      unfold freeM at h ⊢
      split at h
      · rename_i hd
        rw [if_pos hd]
        exact ih h
      · cases h
  exact key e
theorem costF_app : ∀ (rows : List (List Int)) (p q : List Int), costF rows (p ++ q) = costF rows p + costF (rows.drop p.length) q
  | rows, [], q => by cases rows <;> simp [costF]
  | [], c :: p, q => by simp [costF]
  | r :: rows, c :: p, q => by
    have := costF_app rows p q
    simp only [List.cons_append, costF, List.length_cons, List.drop_succ_cons]
    omega
theorem colF_le {c : Nat} : ∀ {rows : List (List Int)} {off : List Int} {b : Int}, (∀ (k : Nat) (x : List Int) (o : Int), rows[k]? = some x → off[k]? = some o → 0 ≤ x.getD c 0 - o) → (0 ≤ b → colF c b rows off ≤ b) ∧ ∀ (k : Nat) (x : List Int) (o : Int), rows[k]? = some x → off[k]? = some o → colF c b rows off ≤ x.getD c 0 - o
  | [], off, b, _ => ⟨fun _ => by cases off <;> exact Int.le_refl _, fun k x o h => by simp at h⟩
  | row :: rows, [], b, _ => ⟨fun _ => Int.le_refl _, fun k x o _ h => by simp at h⟩
  | row :: rows, o :: off, b, h => by
    have hx := h 0 row o rfl rfl
    have ih := colF_le (rows := rows) (off := off) (b := if b < 0 then row.getD c 0 - o else if row.getD c 0 - o < b then row.getD c 0 - o else b) (fun k x o h1 h2 => h (k + 1) x o h1 h2)
    unfold colF
    refine ⟨fun hb => ?_, fun k x o' h1 h2 => ?_⟩
    · refine Int.le_trans (ih.1 ?_) ?_ <;> split <;> (try split) <;> omega
    · cases k with
      | zero =>
        simp only [List.getElem?_cons_zero, Option.some.injEq] at h1 h2
        subst h1 h2
        refine Int.le_trans (ih.1 ?_) ?_ <;> split <;> (try split) <;> omega
      | succ k => exact ih.2 k x o' (by simpa using h1) (by simpa using h2)
theorem leastN_eq (row : List Int) (l : List Nat) : leastN (fun c => row.getD c 0) (-1) l = leastL (-1) (l.map fun c => row.getD c 0) := (leastL_map _ _ _).symm
theorem reduce_le {rows : List (List Int)} {l q : List Nat} (hq : q.Perm l) (hl : rows.length = l.length) (num : ∀ row ∈ rows, ∀ c ∈ l, 0 ≤ row.getD c 0) : reduceP rows l ≤ costF rows (intsN q) := by
  have ho : ∀ (k : Nat) (x : List Int) (o : Int), rows[k]? = some x → (offL rows l)[k]? = some o → ∀ c ∈ l, 0 ≤ x.getD c 0 - o := fun k x o h1 h2 c hc => by
    unfold offL at h2
    rw [List.getElem?_map, h1] at h2
    obtain rfl := Option.some.inj h2
    have hx := List.mem_of_getElem? h1
    have h3 := (leastL_le (l := l.map fun c => x.getD c 0) (b := -1) fun y hy => by
      obtain ⟨c', hc', rfl⟩ := List.mem_map.1 hy
      exact num x hx c' hc').1 (x.getD c 0) (List.mem_map.2 ⟨c, hc, rfl⟩)
    show 0 ≤ x.getD c 0 - leastN (fun c => x.getD c 0) (-1) l
    rw [leastN_eq]
    omega
  have h := costF_ge (F := fun c => colF c (-1) rows (offL rows l)) (rows := rows) (off := offL rows l) (q := q) (by rw [hq.length_eq]; exact hl) (by simp [offL, hq.length_eq, hl]) fun k c x o h1 h2 h3 => by
    have hc : c ∈ l := hq.mem_iff.1 (List.mem_of_getElem? h3)
    have := (colF_le (c := c) (b := -1) (rows := rows) (off := offL rows l) fun k x o a b => ho k x o a b c hc).2 k x o h1 h2
    omega
  have e := sumL_perm (hq.map fun c => colF c (-1) rows (offL rows l))
  unfold reduceP
  omega
theorem sumL_pos {l : List Int} (h : ∀ x ∈ l, 0 ≤ x) : 0 ≤ sumL l := sumL_nonneg h
theorem reduce_pos {rows : List (List Int)} {l : List Nat} (hl : l ≠ []) (hr : rows ≠ []) (num : ∀ row ∈ rows, ∀ c ∈ l, 0 ≤ row.getD c 0 ∧ row.getD c 0 ≤ 2147483647) : 0 ≤ reduceP rows l := by
  have ho : ∀ x ∈ offL rows l, 0 ≤ x ∧ x ≤ 2147483647 := fun x hx => by
    obtain ⟨row, h, rfl⟩ := List.mem_map.1 hx
    rw [leastN_eq]
    refine leastL_bd (fun y hy => ?_) (by omega) (.inr (by simpa using hl))
    obtain ⟨c, hc, rfl⟩ := List.mem_map.1 hy
    exact num row h c hc
  have hc : ∀ x ∈ l.map (fun c => colF c (-1) rows (offL rows l)), 0 ≤ x := fun x hx => by
    obtain ⟨c, hc, rfl⟩ := List.mem_map.1 hx
    refine (colF_pos (B := 2147483647) (fun k x o h1 h2 => ?_) (by simp [offL]) (by omega) (.inr hr)).1
    have hx := List.mem_of_getElem? h1
    have hob := ho o (List.mem_of_getElem? h2)
    unfold offL at h2
    rw [List.getElem?_map, h1] at h2
    obtain rfl := Option.some.inj h2
    have h3 := (leastL_le (l := l.map fun c => x.getD c 0) (b := -1) fun y hy => by
      obtain ⟨c', hc', rfl⟩ := List.mem_map.1 hy
      exact (num x hx c' hc').1).1 (x.getD c 0) (List.mem_map.2 ⟨c, hc, rfl⟩)
    have h4 := num x hx c hc
    simp only [leastN_eq] at hob ⊢
    omega
  have h1 := sumL_pos fun x hx => (ho x hx).1
  have h2 := sumL_pos hc
  unfold reduceP
  omega
/-- the least cost of all answers that begin so, by trying -/
def bestA (rows : List (List Int)) (n : Nat) : Nat → List Int → Int
  | 0, p => costF rows p
  | f + 1, p => leastF (fun x => bestA rows n f (p ++ [x])) (-1) (match freeP n p with | none => [] | some m => intsN (memsM m))
theorem leastF_in {f : Int → Int} : ∀ {l : List Int} {b : Int}, (∀ x ∈ l, 0 ≤ f x) → (0 ≤ b ∨ l ≠ []) → (leastF f b l = b ∧ 0 ≤ b) ∨ ∃ x ∈ l, leastF f b l = f x
  | [], b, _, h => by
    rcases h with h | h
    · exact .inl ⟨rfl, h⟩
    · exact absurd rfl h
  | x :: l, b, h, _ => by
    have hx := h x (by simp)
    have ih := leastF_in (f := f) (l := l) (b := if b < 0 then f x else if f x < b then f x else b) (fun y hy => h y (by simp [hy])) (.inl (by split <;> (try split) <;> omega))
    unfold leastF
    rcases ih with ⟨e, _⟩ | ⟨y, hy, e⟩
    · rw [e]
      split
      · exact .inr ⟨x, by simp, rfl⟩
      · split
        · exact .inr ⟨x, by simp, rfl⟩
        · exact .inl ⟨rfl, by omega⟩
    · exact .inr ⟨y, by simp [hy], e⟩
theorem best_some {rows : List (List Int)} (h24 : rows.length ≤ 24) (num : ∀ row ∈ rows, ∀ c, c < rows.length → 0 ≤ row.getD c 0) : ∀ (f : Nat) (p : List Int) (m : Nat), freeP rows.length p = some m → f = rows.length - p.length → ∃ q : List Nat, q.Perm (memsM m) ∧ bestA rows rows.length f p = costF rows (p ++ intsN q)
  | 0, p, m, hp, hf => by
    have hlen := freeP_len h24 hp
    refine ⟨[], ?_, by simp [bestA, intsN]⟩
    rw [List.eq_nil_of_length_eq_zero (show (memsM m).length = 0 by omega)]
  | f + 1, p, m, hp, hf => by
    have hlen := freeP_len h24 hp
    have hsub := (freeP_in h24 hp).2.2
    have ih : ∀ c ∈ memsM m, ∃ q : List Nat, q.Perm (memsM (clrM m c)) ∧ bestA rows rows.length f (p ++ [(c : Int)]) = costF rows (p ++ [(c : Int)] ++ intsN q) := fun c hc =>
      best_some h24 num f _ _ (freeP_snoc h24 hp hc) (by rw [List.length_append, List.length_singleton]; omega)
    have hpos : ∀ x ∈ intsN (memsM m), 0 ≤ bestA rows rows.length f (p ++ [x]) := fun x hx => by
      obtain ⟨c, hc, rfl⟩ := List.mem_map.1 hx
      obtain ⟨q, h1, h2⟩ := ih c hc
      rw [h2]
      have hin := (freeP_in h24 hp).2.1
      have : ∀ (rs : List (List Int)) (l : List Int), (∀ row ∈ rs, row ∈ rows) → (∀ x ∈ l, 0 ≤ x ∧ x < rows.length) → 0 ≤ costF rs l := by
        intro rs
        induction rs with
        | nil => intro l _ _; simp [costF]
        | cons r rs ihr =>
          intro l h3 h4
          cases l with
          | nil => simp [costF]
          | cons d l =>
            have h5 := h4 d (by simp)
            have h6 := num r (h3 r (by simp)) d.toNat (by omega)
            have h7 := ihr l (fun y hy => h3 y (by simp [hy])) (fun y hy => h4 y (by simp [hy]))
            simp only [costF]
            omega
      refine this rows _ (fun _ h => h) fun y hy => ?_
      rcases List.mem_append.1 hy with hy | hy
      · rcases List.mem_append.1 hy with hy | hy
        · exact hin y hy
        · obtain rfl := List.mem_singleton.1 hy
          have := hsub.2 c hc
          omega
      · obtain ⟨d, hd, rfl⟩ := List.mem_map.1 hy
        have := hsub.2 d (((clr_mem hsub.1).1 (h1.mem_iff.1 hd)).1)
        omega
    have hne : memsM m ≠ [] := by
      intro e
      rw [e] at hlen
      simp at hlen
      omega
    have e : bestA rows rows.length (f + 1) p = leastF (fun x => bestA rows rows.length f (p ++ [x])) (-1) (intsN (memsM m)) := by
      show leastF _ (-1) (match freeP rows.length p with | none => [] | some m => intsN (memsM m)) = _
      rw [hp]
    rcases leastF_in (b := -1) hpos (.inr (by simpa [intsN] using hne)) with ⟨_, h⟩ | ⟨x, hx, h⟩
    · omega
    · obtain ⟨c, hc, rfl⟩ := List.mem_map.1 hx
      obtain ⟨q, h1, h2⟩ := ih c hc
      refine ⟨c :: q, ?_, ?_⟩
      · refine (h1.cons c).trans ?_
        refine (List.perm_ext_iff_of_nodup ?_ ((memsM_sorted m).imp fun h => Nat.ne_of_lt h)).2 fun x => ?_
        · refine List.nodup_cons.2 ⟨fun h => ((clr_mem hsub.1).1 h).2 rfl, (memsM_sorted _).imp fun h => Nat.ne_of_lt h⟩
        · rw [List.mem_cons, clr_mem hsub.1]
          constructor
          · rintro (rfl | ⟨h, _⟩)
            · exact hc
            · exact h
          · intro h
            by_cases e : x = c
            · exact .inl e
            · exact .inr ⟨h, e⟩
      · rw [e, h, h2]
        simp [intsN]
theorem bounda_below {rows : List (List Int)} (ok : RowsOk rows) {p : List Int} {m : Nat} (hp : freeP rows.length p = some m) : 0 ≤ (boundA rows p).1 ∧ (boundA rows p).1 ≤ bestA rows rows.length (rows.length - p.length) p ∧ (boundA rows p).2 = 0 := by
  have h24 := ok.n2
  have hlen := freeP_len h24 hp
  obtain ⟨hpl, hin, hsub⟩ := freeP_in h24 hp
  have num : ∀ row ∈ rows, ∀ c, c < rows.length → 0 ≤ row.getD c 0 := fun row hr c hc => (ok.get hr hc).1
  obtain ⟨q, h1, h2⟩ := best_some h24 num _ p m hp rfl
  have hb : boundA rows p = (costF rows p + (if p.length < rows.length then reduceP (rows.drop p.length) (memsM m) else 0), 0) := by unfold boundA; rw [hp]
  have hc := (costF_bd (B := 2147483647) (rows := rows) (p := p) (by omega) fun row hr c hc => by
    have := hin c hc
    exact ok.get hr (by omega)).1
  rw [hb, h2, costF_app]
  simp only
  by_cases hlt : p.length < rows.length
  · rw [if_pos hlt]
    have h3 := reduce_le (rows := rows.drop p.length) h1 (by rw [List.length_drop]; omega) fun row hr c hc => num row (List.mem_of_mem_drop hr) c (hsub.2 c hc)
    have h4 := reduce_pos (rows := rows.drop p.length) (l := memsM m) (by intro e; rw [e] at hlen; simp at hlen; omega) (by intro e; have := congrArg List.length e; rw [List.length_drop] at this; simp at this; omega) fun row hr c hc => ok.get (List.mem_of_mem_drop hr) (hsub.2 c hc)
    exact ⟨by omega, by omega, trivial⟩
  · rw [if_neg hlt]
    have : q = [] := List.eq_nil_of_length_eq_zero (by rw [h1.length_eq]; omega)
    subst this
    have e : costF (rows.drop p.length) (intsN []) = 0 := by cases rows.drop p.length <;> rfl
    rw [e]
    exact ⟨by omega, by omega, trivial⟩
theorem whole_cols {n : Nat} (h24 : n ≤ 24) {p : List Int} {m : Nat} (hp : freeP n p = some m) (hl : p.length = n) : ∃ l : List Nat, p = intsN l ∧ l.Perm (List.range n) := by
  obtain ⟨l, h1, h2, h3, h4⟩ := freeP_cols h24 hp
  have hlen := freeP_len h24 hp
  have he : memsM m = [] := List.eq_nil_of_length_eq_zero (by omega)
  refine ⟨l, h1, (List.perm_ext_iff_of_nodup h2 List.nodup_range).2 fun x => ?_⟩
  rw [List.mem_range]
  refine ⟨h3 x, fun hx => ?_⟩
  by_cases hxl : x ∈ l
  · exact hxl
  · exfalso
    have := (h4 x).2 ⟨hx, hxl⟩
    rw [he] at this
    cases this
end Go.Proofs.Ytpapkofildcdiaa
namespace Go.Proofs.Ytpapkofildcdiaa

/-- what the rest of a tour costs -/
def pathT (rows : List (List Int)) : Nat → List Nat → Int
  | last, [] => costAt rows last 0
  | last, u :: q => costAt rows last u + pathT rows u q
end Go.Proofs.Ytpapkofildcdiaa
namespace Go.Proofs.Ytpapkofildcdiaa

section
variable {rows : List (List Int)}
theorem kidsA_of {p : List Int} {m : Nat} (hp : freeP rows.length p = some m) : ∃ l : List Nat, (kidsA rows p).1 = intsN l ∧ l.Perm (memsM m) ∧ (kidsA rows p).2 = 0 := by
  refine ⟨sortP (ltC (cfR (rows.getD p.length []))) (memsM m), ?_, msortP_perm _ _ _, ?_⟩ <;> (unfold kidsA; rw [hp])
theorem freeP_root {n : Nat} : freeP n [] = some (2 ^ n - 1) := by
  unfold freeP
  rw [if_neg (by simp)]
  rfl
end
end Go.Proofs.Ytpapkofildcdiaa
namespace Go.Proofs.Ytpapkofildcdiaa

/-- the ways of a beginning; none: it is none -/
def walkT (rows : List (List Int)) (m last : Nat) (cost : Int) : List Int → Option (Nat × Nat × Int)
  | [] => some (m, last, cost)
  | c :: p => if 0 ≤ c ∧ c < 64 ∧ m.testBit c.toNat = true then walkT rows (clrM m c.toNat) c.toNat (cost + costAt rows last c.toNat) p else none
def walkP (rows : List (List Int)) (p : List Int) : Option (Nat × Nat × Int) := if rows.length - 1 < p.length then none else walkT rows (clrM (2 ^ rows.length - 1) 0) 0 0 p
def kidsT (rows : List (List Int)) (p : List Int) : List Int × Int :=
  match walkP rows p with
  | none => ([], 1)
  | some (m, last, _) => (intsN (sortP (ltC (cfR (rows.getD last []))) (memsM m)), 0)
/-- where one may go to from a city -/
def colsT (us : List Nat) (last src : Nat) : List Nat := if src = last then us else 0 :: us.filter fun x => decide (src ≠ x)
def offT (rows : List (List Int)) (us : List Nat) (last src : Nat) : Int := max (leastN (fun dst => costAt rows src dst) (-1) (colsT us last src)) 0
/-- the least that a city may be come to by, beyond what the cities must cost -/
def colT (rows : List (List Int)) (us : List Nat) (last dst : Nat) : Int := leastN (fun src => costAt rows src dst - offT rows us last src) (-1) ((last :: us).filter fun src => decide (dst ∈ colsT us last src))
def reduceT (rows : List (List Int)) (us : List Nat) (last : Nat) : Int := sumL ((last :: us).map fun src => offT rows us last src) + sumL ((0 :: us).map fun dst => max (colT rows us last dst) 0)
/-- one more number beside the two least ones -/
def putP (p : Int × Int) (n : Int) : Int × Int := if n < p.1 then (n, p.1) else if n < p.2 then (p.1, n) else p
def pairT (rows : List (List Int)) (us : List Nat) (last u : Nat) : Int × Int :=
  (us.filter fun x => decide (u ≠ x)).foldl (fun p v => putP p (costAt rows u v)) (min (costAt rows u last) (costAt rows u 0), max (costAt rows u last) (costAt rows u 0))
def endsT (rows : List (List Int)) (us : List Nat) (last : Nat) : Int :=
  sumL (us.map fun u => (pairT rows us last u).1 + (pairT rows us last u).2) + leastN (fun u => costAt rows last u) (-1) us + leastN (fun u => costAt rows u 0) (-1) us
def boundT (rows : List (List Int)) (mirror : Bool) (p : List Int) : Int × Int :=
  match walkP rows p with
  | none => (0, 1)
  | some (m, last, c) => (c + (if memsM m = [] then costAt rows last 0 else if mirror = true then max (reduceT rows (memsM m) last) ((endsT rows (memsM m) last + 1) / 2) else reduceT rows (memsM m) last), 0)
theorem leastN_le {f : Nat → Int} : ∀ {l : List Nat} {b : Int}, (∀ x ∈ l, 0 ≤ f x) → (∀ x ∈ l, leastN f b l ≤ f x) ∧ (0 ≤ b → leastN f b l ≤ b) := fun {l b} h => by
  have h1 := leastL_le (l := l.map f) (b := b) fun y hy => by
    obtain ⟨x, hx, rfl⟩ := List.mem_map.1 hy
    exact h x hx
  rw [leastL_map] at h1
  exact ⟨fun x hx => h1.1 (f x) (List.mem_map.2 ⟨x, hx, rfl⟩), h1.2⟩
theorem leastN_pos {f : Nat → Int} {B : Int} {l : List Nat} (h : ∀ x ∈ l, 0 ≤ f x ∧ f x ≤ B) (hl : l ≠ []) (hB : 0 ≤ B) : 0 ≤ leastN f (-1) l ∧ leastN f (-1) l ≤ B := by
  rw [← leastL_map]
  refine leastL_bd (fun y hy => ?_) (by omega) (.inr (by simpa using hl))
  obtain ⟨x, hx, rfl⟩ := List.mem_map.1 hy
  exact h x hx
section
variable {rows : List (List Int)} {us : List Nat} {last : Nat}
/-- each way of what is left costs no less than its row and its column -/
theorem way_ge {B : Int} (num : ∀ a b, (a = last ∨ a ∈ us) → (b = 0 ∨ b ∈ us) → 0 ≤ costAt rows a b ∧ costAt rows a b ≤ B) {src dst : Nat} (hs : src ∈ last :: us) (hd : dst ∈ colsT us last src) : offT rows us last src + max (colT rows us last dst) 0 ≤ costAt rows src dst := by
  have hcol : ∀ {s d : Nat}, d ∈ colsT us last s → d = 0 ∨ d ∈ us := fun {s d} h => by
    unfold colsT at h
    split at h
    · exact .inr h
    · rcases List.mem_cons.1 h with h | h
      · exact .inl h
      · exact .inr (List.mem_filter.1 h).1
  have hsrc : ∀ {s : Nat}, s ∈ last :: us → s = last ∨ s ∈ us := fun {s} h => List.mem_cons.1 h
  have hoff : ∀ s ∈ last :: us, ∀ d ∈ colsT us last s, offT rows us last s ≤ costAt rows s d ∧ 0 ≤ offT rows us last s := fun s h1 d h2 => by
    have h3 := (leastN_le (f := fun dst => costAt rows s dst) (l := colsT us last s) (b := -1) fun x hx => (num s x (hsrc h1) (hcol hx)).1).1 d h2
    have h4 := (num s d (hsrc h1) (hcol h2)).1
    unfold offT
    omega
  have h1 := hoff src hs dst hd
  have h2 := (leastN_le (f := fun src => costAt rows src dst - offT rows us last src) (l := (last :: us).filter fun src => decide (dst ∈ colsT us last src)) (b := -1) fun x hx => by
    have h3 := List.mem_filter.1 hx
    have h4 := hoff x h3.1 dst (of_decide_eq_true h3.2)
    omega).1 src (List.mem_filter.2 ⟨hs, decide_eq_true hd⟩)
  unfold colT
  omega
/-- the ways of a path, one by one -/
theorem path_ge {F G : Nat → Int} : ∀ (q : List Nat) (s : Nat), (∀ a b, (a, b) ∈ (s :: q).zip (q ++ [0]) → F a + G b ≤ costAt rows a b) → sumL ((s :: q).map F) + sumL ((q ++ [0]).map G) ≤ pathT rows s q
  | [], s, h => by
    have := h s 0 (by simp)
    simp only [List.map_cons, List.map_nil, List.nil_append, sumL, pathT]
    omega
  | u :: q, s, h => by
    have h1 := h s u (by simp)
    have h2 := path_ge q u fun a b hab => h a b (by
      simp only [List.cons_append, List.zip_cons_cons, List.mem_cons]
      exact .inr hab)
    simp only [List.map_cons, List.cons_append, sumL, pathT] at h2 ⊢
    omega
theorem zip_mem : ∀ (q : List Nat) (s a b : Nat), (a, b) ∈ (s :: q).zip (q ++ [0]) → (s :: q).Nodup → a ∈ s :: q ∧ (b = 0 ∨ b ∈ q) ∧ (a = s → q = [] ∨ b ∈ q) ∧ (b ∈ q → a ≠ b ∨ b = 0)
  | [], s, a, b, h, _ => by
    simp at h
    obtain ⟨rfl, rfl⟩ := h
    exact ⟨by simp, .inl rfl, fun _ => .inl rfl, fun h => by cases h⟩
  | u :: q, s, a, b, h, hn => by
    have hn' := List.nodup_cons.1 hn
    simp only [List.cons_append, List.zip_cons_cons, List.mem_cons, Prod.mk.injEq] at h
    rcases h with ⟨rfl, rfl⟩ | h
    · exact ⟨by simp, .inr (by simp), fun _ => .inr (by simp), fun _ => .inl fun e => hn'.1 (by simp [e])⟩
    · have ih := zip_mem q u a b h hn'.2
      refine ⟨List.mem_cons_of_mem _ ih.1, ?_, fun e => ?_, fun hb => ?_⟩
      · rcases ih.2.1 with h | h
        · exact .inl h
        · exact .inr (by simp [h])
      · subst e
        exact absurd ih.1 hn'.1
      · rcases List.mem_cons.1 hb with rfl | hb
        · rcases ih.2.1 with h0 | h0
          · exact .inr h0
          · exact absurd h0 (List.nodup_cons.1 hn'.2).1
        · exact ih.2.2.2 hb
theorem reduceT_le {B : Int} (num : ∀ a b, (a = last ∨ a ∈ us) → (b = 0 ∨ b ∈ us) → 0 ≤ costAt rows a b ∧ costAt rows a b ≤ B) (hn : (last :: us).Nodup) (hu : us ≠ []) (h0 : 0 ∉ us) {q : List Nat} (hq : q.Perm us) : reduceT rows us last ≤ pathT rows last q := by
  have hnq : (last :: q).Nodup := (hq.cons last).nodup_iff.2 hn
  have h := path_ge (rows := rows) (F := fun src => offT rows us last src) (G := fun dst => max (colT rows us last dst) 0) q last fun a b hab => by
    obtain ⟨z1, z2, z3, z4⟩ := zip_mem q last a b hab hnq
    refine way_ge num ((hq.cons last).mem_iff.1 z1) ?_
    unfold colsT
    by_cases e : a = last
    · rw [if_pos e]
      rcases z3 e with h | h
      · exfalso
        rw [h] at hq
        exact hu (List.Perm.eq_nil (hq.symm))
      · exact hq.mem_iff.1 h
    · rw [if_neg e]
      rcases z2 with rfl | h
      · simp
      · refine List.mem_cons_of_mem _ (List.mem_filter.2 ⟨hq.mem_iff.1 h, decide_eq_true ?_⟩)
        rcases z4 h with h' | h'
        · exact h'
        · subst h'
          exact absurd (hq.mem_iff.1 h) h0
  have e1 := sumL_perm (((hq.cons last)).map fun src => offT rows us last src)
  have e2 : sumL ((q ++ [0]).map fun dst => max (colT rows us last dst) 0) = sumL ((0 :: us).map fun dst => max (colT rows us last dst) 0) :=
    sumL_perm (((List.perm_append_comm (l₁ := q) (l₂ := [0])).trans (hq.cons 0)).map _)
  unfold reduceT
  rw [← e1, ← e2]
  exact h
/-- the two least ones of some -/
def Two (p : Int × Int) (l : List Int) : Prop := p.1 ≤ p.2 ∧ (∀ x ∈ l, p.1 ≤ x) ∧ l.Pairwise fun x y => p.1 + p.2 ≤ x + y
theorem Two.put {p : Int × Int} {l : List Int} (h : Two p l) (n : Int) : Two (putP p n) (l ++ [n]) := by
  obtain ⟨h1, h2, h3⟩ := h
  have key : ∀ {q : Int × Int}, q.1 ≤ q.2 → q.1 ≤ p.1 → q.1 ≤ n → q.1 + q.2 ≤ p.1 + p.2 → (∀ x ∈ l, q.1 + q.2 ≤ x + n) → Two q (l ++ [n]) := by
    intro q k1 k2 k3 k4 k5
    refine ⟨k1, fun x hx => ?_, List.pairwise_append.2 ⟨h3.imp fun hxy => by omega, List.pairwise_singleton _ _, fun x hx y hy => ?_⟩⟩
    · rcases List.mem_append.1 hx with hx | hx
      · have := h2 x hx; omega
      · obtain rfl := List.mem_singleton.1 hx; exact k3
    · obtain rfl := List.mem_singleton.1 hy
      exact k5 x hx
  unfold putP
  split
  · exact key (by simp only; omega) (by simp only; omega) (by simp only; omega) (by simp only; omega) fun x hx => by have := h2 x hx; simp only; omega
  · split
    · exact key (by simp only; omega) (by simp only; omega) (by simp only; omega) (by simp only; omega) fun x hx => by have := h2 x hx; simp only; omega
    · exact key (by omega) (by omega) (by omega) (by omega) fun x hx => by have := h2 x hx; omega
theorem two_fold (f : Nat → Int) : ∀ (vs : List Nat) (p : Int × Int) (l : List Int), Two p l → Two (vs.foldl (fun p v => putP p (f v)) p) (l ++ vs.map f)
  | [], p, l, h => by simpa using h
  | v :: vs, p, l, h => by
    have := two_fold f vs (putP p (f v)) (l ++ [f v]) (h.put (f v))
    simpa using this
theorem pairT_two (rows : List (List Int)) (us : List Nat) (last u : Nat) : Two (pairT rows us last u) ([costAt rows u last, costAt rows u 0] ++ (us.filter fun x => decide (u ≠ x)).map fun v => costAt rows u v) := by
  refine two_fold (fun v => costAt rows u v) _ _ _ ⟨by simp only; omega, fun x hx => ?_, ?_⟩
  · simp at hx
    rcases hx with rfl | rfl <;> (simp only; omega)
  · simp only [List.pairwise_cons, List.mem_singleton, forall_eq, List.not_mem_nil, false_imp_iff, implies_true, List.Pairwise.nil, and_true]
    omega
/-- at a city the two that meet cost no less than the two least ones -/
theorem meet_ge {u a b : Nat} (hu : us.Nodup) (ha : a = last ∨ (a ∈ us ∧ u ≠ a)) (hb : b = 0 ∨ (b ∈ us ∧ u ≠ b)) (hab : a ∈ us → b ∈ us → a ≠ b) (hl : last ∉ us) (_ : 0 ∉ us) : (pairT rows us last u).1 + (pairT rows us last u).2 ≤ costAt rows u a + costAt rows u b := by
  obtain ⟨_, _, h3⟩ := pairT_two rows us last u
  rw [List.pairwise_append] at h3
  obtain ⟨k1, k2, k3⟩ := h3
  have m : ∀ {x : Nat}, x ∈ us → u ≠ x → costAt rows u x ∈ (us.filter fun x => decide (u ≠ x)).map fun v => costAt rows u v := fun {x} h1 h2 => List.mem_map.2 ⟨x, List.mem_filter.2 ⟨h1, decide_eq_true h2⟩, rfl⟩
  rcases ha with rfl | ⟨a1, a2⟩
  · rcases hb with rfl | ⟨b1, b2⟩
    · simp only [List.pairwise_cons, List.mem_singleton, forall_eq] at k1
      exact k1.1
    · exact k3 _ (by simp) _ (m b1 b2)
  · rcases hb with rfl | ⟨b1, b2⟩
    · have := k3 (costAt rows u 0) (by simp) _ (m a1 a2)
      omega
    · have hne := hab a1 b1
      rw [List.pairwise_map] at k2
      have hfn : (us.filter fun x => decide (u ≠ x)).Nodup := List.Pairwise.filter _ hu
      obtain ⟨i, hi, ei⟩ := List.mem_iff_getElem.1 (List.mem_filter.2 ⟨a1, decide_eq_true a2⟩ : a ∈ us.filter fun x => decide (u ≠ x))
      obtain ⟨j, hj, ej⟩ := List.mem_iff_getElem.1 (List.mem_filter.2 ⟨b1, decide_eq_true b2⟩ : b ∈ us.filter fun x => decide (u ≠ x))
      rcases Nat.lt_trichotomy i j with h | h | h
      · have := List.pairwise_iff_getElem.1 k2 i j hi hj h
        rw [ei, ej] at this
        exact this
      · subst h
        exact absurd (ei.symm.trans ej) hne
      · have := List.pairwise_iff_getElem.1 k2 j i hj hi h
        rw [ei, ej] at this
        omega
end
end Go.Proofs.Ytpapkofildcdiaa
namespace Go.Proofs.Ytpapkofildcdiaa

section
variable {rows : List (List Int)} {us : List Nat} {last : Nat}
def pairS (rows : List (List Int)) (us : List Nat) (last u : Nat) : Int := (pairT rows us last u).1 + (pairT rows us last u).2
/-- of each three in a row the middle's two least ones cost no more than its two ways -/
def Trip (rows : List (List Int)) (us : List Nat) (last : Nat) : Nat → List Nat → Prop
  | _, [] => True
  | s, [u] => pairS rows us last u ≤ costAt rows s u + costAt rows u 0
  | s, u :: v :: q => pairS rows us last u ≤ costAt rows s u + costAt rows u v ∧ Trip rows us last u (v :: q)
theorem trip_ends : ∀ (q : List Nat) (s u : Nat), Trip rows us last s (u :: q) → sumL ((u :: q).map (pairS rows us last)) + costAt rows s u + costAt rows ((u :: q).getLast (by simp)) 0 ≤ 2 * pathT rows s (u :: q)
  | [], s, u, h => by
    simp only [Trip] at h
    simp only [List.map_cons, List.map_nil, sumL, List.getLast_singleton, pathT]
    omega
  | v :: q, s, u, h => by
    simp only [Trip] at h
    have ih := trip_ends q u v h.2
    have e : (u :: v :: q).getLast (by simp) = (v :: q).getLast (by simp) := List.getLast_cons (by simp)
    rw [e]
    simp only [List.map_cons, sumL, pathT] at ih ⊢
    omega
theorem trip_of (sym : ∀ a b, (a = last ∨ a ∈ us) → (b = last ∨ b ∈ us) → costAt rows a b = costAt rows b a) (hu : us.Nodup) (hl : last ∉ us) (h0 : 0 ∉ us) : ∀ (q : List Nat) (s : Nat), q.Nodup → (∀ x ∈ q, x ∈ us) → s ∉ q → (s = last ∨ s ∈ us) → Trip rows us last s q
  | [], _, _, _, _, _ => trivial
  | [u], s, _, hq, hs, hsl => by
    have huu := hq u (by simp)
    have hne : u ≠ s := fun e => hs (by simp [e])
    have := meet_ge (rows := rows) (us := us) (last := last) (u := u) (a := s) (b := 0) hu (hsl.imp id fun h => ⟨h, hne⟩) (.inl rfl) (fun _ h => absurd h h0) hl h0
    rw [sym u s (.inr huu) hsl] at this
    exact this
  | u :: v :: q, s, hn, hq, hs, hsl => by
    have huu := hq u (by simp)
    have hvv := hq v (by simp)
    have hne : u ≠ s := fun e => hs (by simp [e])
    have hn' := List.nodup_cons.1 hn
    have huv : u ≠ v := fun e => hn'.1 (by simp [e])
    have hsv : s ≠ v := fun e => hs (by simp [e])
    have := meet_ge (rows := rows) (us := us) (last := last) (u := u) (a := s) (b := v) hu (hsl.imp id fun h => ⟨h, hne⟩) (.inr ⟨hvv, huv⟩) (fun _ _ => hsv) hl h0
    rw [sym u s (.inr huu) hsl] at this
    exact ⟨this, trip_of sym hu hl h0 (v :: q) u hn'.2 (fun x hx => hq x (by simp [hx])) hn'.1 (.inr huu)⟩
theorem endsT_le (num : ∀ a b, (a = last ∨ a ∈ us) → (b = 0 ∨ b ∈ us) → 0 ≤ costAt rows a b) (sym : ∀ a b, (a = last ∨ a ∈ us) → (b = last ∨ b ∈ us) → costAt rows a b = costAt rows b a) (hu : us.Nodup) (hl : last ∉ us) (h0 : 0 ∉ us) {q : List Nat} (hq : q.Perm us) (hne : us ≠ []) : endsT rows us last ≤ 2 * pathT rows last q := by
  match q, hq with
  | [], hq => exact absurd (List.Perm.eq_nil hq.symm) hne
  | u :: q, hq =>
    have hsub : ∀ x ∈ u :: q, x ∈ us := fun x hx => hq.mem_iff.1 hx
    have h1 := trip_ends q last u (trip_of sym hu hl h0 (u :: q) last (hq.nodup_iff.2 hu) hsub (fun h => hl (hsub _ h)) (.inl rfl))
    have h2 := (leastN_le (f := fun u => costAt rows last u) (l := us) (b := -1) fun x hx => num last x (.inl rfl) (.inr hx)).1 u (hsub u (by simp))
    have h3 := (leastN_le (f := fun u => costAt rows u 0) (l := us) (b := -1) fun x hx => num x 0 (.inr hx) (.inl rfl)).1 _ (hsub _ (List.getLast_mem (l := u :: q) (by simp)))
    have e := sumL_perm (hq.map (pairS rows us last))
    have e2 : sumL (us.map (pairS rows us last)) = sumL (us.map fun u => (pairT rows us last u).1 + (pairT rows us last u).2) := rfl
    unfold endsT
    rw [← e2, ← e]
    omega
end
/-- where a beginning has come to, and what its ways cost -/
def lastT : Nat → List Int → Nat
  | s, [] => s
  | _, c :: p => lastT c.toNat p
def wayC (rows : List (List Int)) : Nat → List Int → Int
  | _, [] => 0
  | s, c :: p => costAt rows s c.toNat + wayC rows c.toNat p
theorem walkT_eq (rows : List (List Int)) : ∀ (p : List Int) (m last : Nat) (cost : Int), walkT rows m last cost p = (freeM m p).map fun q => (q, lastT last p, cost + wayC rows last p)
  | [], m, last, cost => by simp [walkT, freeM, lastT, wayC]
  | c :: p, m, last, cost => by
    unfold walkT freeM
    split
    · rw [walkT_eq rows p]
      cases freeM (clrM m c.toNat) p with
      | none => rfl
      | some q =>
        simp only [Option.map_some, lastT, wayC, Option.some.injEq, Prod.mk.injEq, true_and]
        omega
    · rfl
theorem lastT_mem : ∀ (l : List Nat) (s : Nat), lastT s (intsN l) = s ∨ lastT s (intsN l) ∈ l
  | [], s => .inl rfl
  | c :: l, s => by
    have ih := lastT_mem l c
    simp only [intsN, List.map_cons, lastT, Int.toNat_natCast] at ih ⊢
    rcases ih with h | h
    · right; rw [h]; simp
    · right; simp [h]
theorem pathT_app (rows : List (List Int)) : ∀ (l q : List Nat) (s : Nat), pathT rows s (l ++ q) = wayC rows s (intsN l) + pathT rows (lastT s (intsN l)) q
  | [], q, s => by simp [wayC, intsN, lastT]
  | c :: l, q, s => by
    have := pathT_app rows l q c
    simp only [List.cons_append, pathT, intsN, List.map_cons, wayC, lastT, Int.toNat_natCast] at this ⊢
    omega
/-- the tour's first city is not among what is left -/
def restM (n : Nat) : Nat := clrM (2 ^ n - 1) 0
theorem restM_sub {n : Nat} (h : n ≤ 24) : SubN n (restM n) := (subN_full h).clr 0
theorem restM_mem {n : Nat} (h : n ≤ 24) {x : Nat} : x ∈ memsM (restM n) ↔ x < n ∧ x ≠ 0 := by
  unfold restM
  rw [clr_mem (subN_full h).1, memsM_full (by omega), List.mem_range]
theorem restM_len {n : Nat} (h1 : 1 ≤ n) (h : n ≤ 24) : (memsM (restM n)).length = n - 1 := by
  have h2 := filter_ne_len (memsM_sorted (2 ^ n - 1)) (i := 0) (by rw [memsM_full (by omega)]; simp; omega)
  rw [← memsM_clr (subN_full h).1, memsM_full (by omega), List.length_range] at h2
  unfold restM
  omega
structure WalkOk (rows : List (List Int)) (p : List Int) (m last : Nat) (cost : Int) (l : List Nat) : Prop where
  eq : p = intsN l
  nodup : l.Nodup
  inn : ∀ x ∈ l, x < rows.length ∧ x ≠ 0
  rest : ∀ x, x ∈ memsM m ↔ (x < rows.length ∧ x ≠ 0) ∧ x ∉ l
  len : (memsM m).length + l.length = rows.length - 1
  sub : SubN rows.length m
  last : last = lastT 0 (intsN l)
  cost : cost = wayC rows 0 (intsN l)
theorem walk_ok {rows : List (List Int)} (h1 : 1 ≤ rows.length) (h24 : rows.length ≤ 24) {p : List Int} {m last : Nat} {cost : Int} (h : walkP rows p = some (m, last, cost)) : ∃ l, WalkOk rows p m last cost l := by
  unfold walkP at h
  split at h
  · cases h
  · rw [walkT_eq] at h
    cases hf : freeM (clrM (2 ^ rows.length - 1) 0) p with
    | none => rw [hf] at h; cases h
    | some q =>
      rw [hf] at h
      simp only [Option.map_some, Option.some.injEq, Prod.mk.injEq] at h
      obtain ⟨rfl, rfl, rfl⟩ := h
      have hs := restM_sub h24
      obtain ⟨l, rfl, a1, a2, a3⟩ := freeM_cols hs hf
      have a4 := freeM_len hs hf
      rw [restM_len h1 h24, intsN_len] at a4
      exact ⟨l, rfl, a1, fun x hx => (restM_mem h24).1 (a2 x hx), fun x => by rw [a3 x, restM_mem h24], a4, freeM_sub hs hf, rfl, by omega⟩
theorem walkT_snoc (rows : List (List Int)) {c : Nat} (hc64 : c < 64) : ∀ {p : List Int} {m0 m s last : Nat} {c0 cost : Int}, walkT rows m0 s c0 p = some (m, last, cost) → m.testBit c = true → walkT rows m0 s c0 (p ++ [(c : Int)]) = some (clrM m c, c, cost + costAt rows last c)
  | [], m0, m, s, last, c0, cost, h, hb => by
    simp only [walkT, Option.some.injEq, Prod.mk.injEq] at h
    obtain ⟨rfl, rfl, rfl⟩ := h
    show walkT rows m0 s c0 ((c : Int) :: []) = _
    unfold walkT
    rw [if_pos ⟨by omega, by omega, by rw [Int.toNat_natCast]; exact hb⟩, Int.toNat_natCast]
    rfl
  | d :: p, m0, m, s, last, c0, cost, h, hb => by
    show walkT rows m0 s c0 (d :: (p ++ [(c : Int)])) = _
    unfold walkT at h ⊢
    split at h
    · rename_i hd
      rw [if_pos hd]
      exact walkT_snoc rows hc64 h hb
    · cases h
theorem walkP_snoc {rows : List (List Int)} (h1 : 1 ≤ rows.length) (h24 : rows.length ≤ 24) {p : List Int} {m last : Nat} {cost : Int} (h : walkP rows p = some (m, last, cost)) {c : Nat} (hc : c ∈ memsM m) : walkP rows (p ++ [(c : Int)]) = some (clrM m c, c, cost + costAt rows last c) := by
  obtain ⟨l, W⟩ := walk_ok h1 h24 h
  have hpos : 0 < (memsM m).length := List.length_pos_of_mem hc
  have hlen := W.len
  have hpl : p.length = l.length := by rw [W.eq, intsN_len]
  have hb := memsM_mem.1 hc
  unfold walkP at h ⊢
  rw [if_neg (by omega)] at h
  rw [if_neg (by rw [List.length_append, List.length_singleton]; omega)]
  exact walkT_snoc rows hb.1 h hb.2
/-- the least cost of all tours that begin so, by trying -/
def bestT (rows : List (List Int)) : Nat → List Int → Int
  | 0, p => pathT rows 0 (p.map Int.toNat)
  | f + 1, p => leastF (fun x => bestT rows f (p ++ [x])) (-1) (match walkP rows p with | none => [] | some (m, _, _) => intsN (memsM m))
theorem toNat_ints : ∀ l : List Nat, (intsN l).map Int.toNat = l
  | [] => rfl
  | c :: l => by
    have := toNat_ints l
    simp only [intsN, List.map_cons, Int.toNat_natCast] at this ⊢
    rw [this]
theorem pathT_pos {rows : List (List Int)} (num : ∀ a b, a < rows.length → b < rows.length → 0 ≤ costAt rows a b) : ∀ (q : List Nat) (s : Nat), s < rows.length → (∀ x ∈ q, x < rows.length) → 0 ≤ pathT rows s q
  | [], s, hs, _ => num s 0 hs (by omega)
  | u :: q, s, hs, h => by
    have h1 := num s u hs (h u (by simp))
    have h2 := pathT_pos num q u (h u (by simp)) fun x hx => h x (by simp [hx])
    simp only [pathT]
    omega
theorem bestT_some {rows : List (List Int)} (h1 : 1 ≤ rows.length) (h24 : rows.length ≤ 24) (num : ∀ a b, a < rows.length → b < rows.length → 0 ≤ costAt rows a b) : ∀ (f : Nat) (p : List Int) (m last : Nat) (cost : Int) (l : List Nat), walkP rows p = some (m, last, cost) → WalkOk rows p m last cost l → f = rows.length - 1 - p.length → ∃ q : List Nat, q.Perm (memsM m) ∧ bestT rows f p = pathT rows 0 (l ++ q)
  | 0, p, m, last, cost, l, hp, W, hf => by
    have hlen := W.len
    have hpl : p.length = l.length := by rw [W.eq, intsN_len]
    refine ⟨[], ?_, by rw [List.append_nil]; show pathT rows 0 (p.map Int.toNat) = _; rw [W.eq, toNat_ints]⟩
    rw [List.eq_nil_of_length_eq_zero (show (memsM m).length = 0 by omega)]
  | f + 1, p, m, last, cost, l, hp, W, hf => by
    have hlen := W.len
    have hpl : p.length = l.length := by rw [W.eq, intsN_len]
    have ih : ∀ c ∈ memsM m, ∃ q : List Nat, q.Perm (memsM (clrM m c)) ∧ bestT rows f (p ++ [(c : Int)]) = pathT rows 0 ((l ++ [c]) ++ q) := fun c hc => by
      have hs := walkP_snoc h1 h24 hp hc
      obtain ⟨l', W'⟩ := walk_ok h1 h24 hs
      have e : l' = l ++ [c] := by
        have := W'.eq
        rw [W.eq] at this
        have h2 := congrArg (List.map Int.toNat) this
        rw [toNat_ints] at h2
        rw [← h2, List.map_append, toNat_ints]
        rfl
      subst e
      exact bestT_some h1 h24 num f _ _ _ _ _ hs W' (by rw [List.length_append, List.length_singleton]; omega)
    have hpos : ∀ x ∈ intsN (memsM m), 0 ≤ bestT rows f (p ++ [x]) := fun x hx => by
      obtain ⟨c, hc, rfl⟩ := List.mem_map.1 hx
      obtain ⟨q, a1, a2⟩ := ih c hc
      rw [a2]
      refine pathT_pos num _ _ (by omega) fun y hy => ?_
      rcases List.mem_append.1 hy with hy | hy
      · rcases List.mem_append.1 hy with hy | hy
        · exact (W.inn y hy).1
        · obtain rfl := List.mem_singleton.1 hy
          exact ((W.rest y).1 hc).1.1
      · exact ((W.rest y).1 ((clr_mem W.sub.1).1 (a1.mem_iff.1 hy)).1).1.1
    have hne : memsM m ≠ [] := by
      intro e
      rw [e] at hlen
      simp at hlen
      omega
    have e : bestT rows (f + 1) p = leastF (fun x => bestT rows f (p ++ [x])) (-1) (intsN (memsM m)) := by
      show leastF _ (-1) (match walkP rows p with | none => [] | some (m, _, _) => intsN (memsM m)) = _
      rw [hp]
    rcases leastF_in (b := -1) hpos (.inr (by simpa [intsN] using hne)) with ⟨_, h⟩ | ⟨x, hx, h⟩
    · omega
    · obtain ⟨c, hc, rfl⟩ := List.mem_map.1 hx
      obtain ⟨q, a1, a2⟩ := ih c hc
      refine ⟨c :: q, ?_, ?_⟩
      · refine (a1.cons c).trans ?_
        refine (List.perm_ext_iff_of_nodup ?_ ((memsM_sorted m).imp fun h => Nat.ne_of_lt h)).2 fun x => ?_
        · refine List.nodup_cons.2 ⟨fun h => ((clr_mem W.sub.1).1 h).2 rfl, (memsM_sorted _).imp fun h => Nat.ne_of_lt h⟩
        · rw [List.mem_cons, clr_mem W.sub.1]
          constructor
          · rintro (rfl | ⟨h, _⟩)
            · exact hc
            · exact h
          · intro h
            by_cases e : x = c
            · exact .inl e
            · exact .inr ⟨h, e⟩
      · rw [e, h, a2]
        simp
/-- a bound is no number below nought, and none above the least cost -/
theorem boundT_below {rows : List (List Int)} {mirror : Bool} (h1 : 1 ≤ rows.length) (h24 : rows.length ≤ 24) (num : ∀ a b, a < rows.length → b < rows.length → 0 ≤ costAt rows a b ∧ costAt rows a b ≤ 2147483647) (sym : mirror = true → ∀ a b, a < rows.length → b < rows.length → costAt rows a b = costAt rows b a) {p : List Int} {m last : Nat} {cost : Int} (hp : walkP rows p = some (m, last, cost)) :
    0 ≤ (boundT rows mirror p).1 ∧ (boundT rows mirror p).1 ≤ bestT rows (rows.length - 1 - p.length) p ∧ (boundT rows mirror p).2 = 0 := by
  obtain ⟨l, W⟩ := walk_ok h1 h24 hp
  obtain ⟨q, a1, a2⟩ := bestT_some h1 h24 (fun a b x y => (num a b x y).1) _ p m last cost l hp W rfl
  have hll : last < rows.length := by
    rw [W.last]
    rcases lastT_mem l 0 with h | h
    · rw [h]; omega
    · exact (W.inn _ h).1
  have hus : ∀ x ∈ memsM m, x < rows.length := fun x hx => ((W.rest x).1 hx).1.1
  have h0 : 0 ∉ memsM m := fun h => ((W.rest 0).1 h).1.2 rfl
  have hnl : last ∉ memsM m := fun h => by
    have h2 := (W.rest last).1 h
    rcases lastT_mem l 0 with h3 | h3
    · exact h2.1.2 (by rw [W.last, h3])
    · exact h2.2 (by rw [W.last]; exact h3)
  have hnd : (memsM m).Nodup := (memsM_sorted m).imp fun h => Nat.ne_of_lt h
  have hA : ∀ a, (a = last ∨ a ∈ memsM m) → a < rows.length := fun a h => h.elim (fun e => by rw [e]; exact hll) (hus a)
  have num' : ∀ a b, (a = last ∨ a ∈ memsM m) → (b = 0 ∨ b ∈ memsM m) → 0 ≤ costAt rows a b ∧ costAt rows a b ≤ 2147483647 := fun a b ha hb => num a b (hA a ha) (hb.elim (fun e => by omega) (hus b))
  have hway : 0 ≤ cost := by
    rw [W.cost]
    have key : ∀ (l : List Nat) (s : Nat), s < rows.length → (∀ x ∈ l, x < rows.length) → 0 ≤ wayC rows s (intsN l) := by
      intro l
      induction l with
      | nil => intro s _ _; simp [wayC, intsN]
      | cons c l ih =>
        intro s hs h
        have h2 := (num s c hs (h c (by simp))).1
        have h3 := ih c (h c (by simp)) fun x hx => h x (by simp [hx])
        simp only [intsN, List.map_cons, wayC, Int.toNat_natCast] at h3 ⊢
        omega
    exact key l 0 (by omega) fun x hx => (W.inn x hx).1
  have hb : boundT rows mirror p = (cost + (if memsM m = [] then costAt rows last 0 else if mirror = true then max (reduceT rows (memsM m) last) ((endsT rows (memsM m) last + 1) / 2) else reduceT rows (memsM m) last), 0) := by unfold boundT; rw [hp]
  rw [hb, a2, pathT_app, ← W.last, ← W.cost]
  simp only
  by_cases he : memsM m = []
  · rw [if_pos he]
    have : q = [] := List.Perm.eq_nil (he ▸ a1)
    subst this
    have := (num' last 0 (.inl rfl) (.inl rfl)).1
    exact ⟨by omega, by simp only [pathT]; omega, trivial⟩
  · rw [if_neg he]
    have r1 := reduceT_le num' (List.nodup_cons.2 ⟨hnl, hnd⟩) he h0 a1
    have r0 : 0 ≤ reduceT rows (memsM m) last := by
      have k1 : 0 ≤ sumL ((last :: memsM m).map fun src => offT rows (memsM m) last src) := sumL_pos fun x hx => by
        obtain ⟨y, _, rfl⟩ := List.mem_map.1 hx
        unfold offT
        omega
      have k2 : 0 ≤ sumL ((0 :: memsM m).map fun dst => max (colT rows (memsM m) last dst) 0) := sumL_pos fun x hx => by
        obtain ⟨y, _, rfl⟩ := List.mem_map.1 hx
        omega
      unfold reduceT
      omega
    cases hm : mirror with
    | false => exact ⟨by simp only [if_neg (show ¬ (false = true) by simp)]; omega, by simp only [if_neg (show ¬ (false = true) by simp)]; omega, trivial⟩
    | true =>
      have r2 := endsT_le (fun a b x y => (num' a b x y).1) (fun a b ha hb => sym hm a b (hA a ha) (hA b hb)) hnd hnl h0 a1 he
      simp only [if_true]
      refine ⟨by omega, by omega, trivial⟩
end Go.Proofs.Ytpapkofildcdiaa
namespace Go.Proofs.Ytpapkofildcdiaa

theorem leastF_low {f : Int → Int} : ∀ {l : List Int} {b : Int}, (∀ x ∈ l, 0 ≤ f x) → (∀ x ∈ l, leastF f b l ≤ f x) ∧ (0 ≤ b → leastF f b l ≤ b)
  | [], b, _ => ⟨(fun x h => by simp at h), fun _ => Int.le_refl _⟩
  | x :: l, b, h => by
    have hx := h x (by simp)
    have ih := leastF_low (f := f) (l := l) (b := if b < 0 then f x else if f x < b then f x else b) (fun y hy => h y (by simp [hy]))
    have h2 := ih.2 (by split <;> (try split) <;> omega)
    unfold leastF
    refine ⟨fun y hy => ?_, fun hb => ?_⟩
    · rcases List.mem_cons.1 hy with rfl | hy
      · refine Int.le_trans h2 ?_
        split <;> (try split) <;> omega
      · exact ih.1 y hy
    · refine Int.le_trans h2 ?_
      split <;> (try split) <;> omega
theorem perm_tail {m c : Nat} (hm : m < 18446744073709551616) {q : List Nat} (h : (c :: q).Perm (memsM m)) : q.Perm (memsM (clrM m c)) := by
  have hnd : (c :: q).Nodup := h.nodup_iff.2 ((memsM_sorted m).imp fun h => Nat.ne_of_lt h)
  obtain ⟨h1, h2⟩ := List.nodup_cons.1 hnd
  refine (List.perm_ext_iff_of_nodup h2 ((memsM_sorted _).imp fun h => Nat.ne_of_lt h)).2 fun x => ?_
  rw [clr_mem hm, ← h.mem_iff, List.mem_cons]
  constructor
  · intro hx
    exact ⟨.inr hx, fun e => h1 (e ▸ hx)⟩
  · rintro ⟨rfl | hx, hne⟩
    · exact absurd rfl hne
    · exact hx
theorem bestA_le {rows : List (List Int)} (h24 : rows.length ≤ 24) (num : ∀ row ∈ rows, ∀ c, c < rows.length → 0 ≤ row.getD c 0) : ∀ (f : Nat) (p : List Int) (m : Nat), freeP rows.length p = some m → f = rows.length - p.length → ∀ q : List Nat, q.Perm (memsM m) → bestA rows rows.length f p ≤ costF rows (p ++ intsN q)
  | 0, p, m, hp, hf => fun q hq => by
    have hlen := freeP_len h24 hp
    have h0 : q = [] := List.eq_nil_of_length_eq_zero (by rw [hq.length_eq]; omega)
    subst h0
    simp [bestA, intsN]
  | f + 1, p, m, hp, hf => fun q hq => by
    have hlen := freeP_len h24 hp
    have hsub := (freeP_in h24 hp).2.2
    have hpos : ∀ x ∈ intsN (memsM m), 0 ≤ bestA rows rows.length f (p ++ [x]) := fun x hx => by
      obtain ⟨c, hc, rfl⟩ := List.mem_map.1 hx
      obtain ⟨q', h1, h2⟩ := best_some h24 num f _ _ (freeP_snoc h24 hp hc) (by rw [List.length_append, List.length_singleton]; omega)
      rw [h2]
      have hin := (freeP_in h24 hp).2.1
      have : ∀ (rs : List (List Int)) (l : List Int), (∀ row ∈ rs, row ∈ rows) → (∀ x ∈ l, 0 ≤ x ∧ x < rows.length) → 0 ≤ costF rs l := by
        intro rs
        induction rs with
        | nil => intro l _ _; simp [costF]
        | cons r rs ihr =>
          intro l h3 h4
          cases l with
          | nil => simp [costF]
          | cons d l =>
            have h5 := h4 d (by simp)
            have h6 := num r (h3 r (by simp)) d.toNat (by omega)
            have h7 := ihr l (fun y hy => h3 y (by simp [hy])) (fun y hy => h4 y (by simp [hy]))
            simp only [costF]
            omega
      refine this rows _ (fun _ h => h) fun y hy => ?_
      rcases List.mem_append.1 hy with hy | hy
      · rcases List.mem_append.1 hy with hy | hy
        · exact hin y hy
        · obtain rfl := List.mem_singleton.1 hy
          have := hsub.2 c hc
          omega
      · obtain ⟨d, hd, rfl⟩ := List.mem_map.1 hy
        have := hsub.2 d (((clr_mem hsub.1).1 (h1.mem_iff.1 hd)).1)
        omega
    have e : bestA rows rows.length (f + 1) p = leastF (fun x => bestA rows rows.length f (p ++ [x])) (-1) (intsN (memsM m)) := by
      show leastF _ (-1) (match freeP rows.length p with | none => [] | some m => intsN (memsM m)) = _
      rw [hp]
    rw [e]
    cases q with
    | nil =>
      have := hq.length_eq
      simp at this
      omega
    | cons c q =>
      have hc : c ∈ memsM m := hq.mem_iff.1 (by simp)
      refine Int.le_trans ((leastF_low hpos).1 (c : Int) (List.mem_map.2 ⟨c, hc, rfl⟩)) ?_
      have h := bestA_le h24 num f _ _ (freeP_snoc h24 hp hc) (by rw [List.length_append, List.length_singleton]; omega) q (perm_tail hsub.1 hq)
      have e2 : p ++ intsN (c :: q) = p ++ [(c : Int)] ++ intsN q := by simp [intsN]
      rw [e2]
      exact h
theorem bestT_le {rows : List (List Int)} (h1 : 1 ≤ rows.length) (h24 : rows.length ≤ 24) (num : ∀ a b, a < rows.length → b < rows.length → 0 ≤ costAt rows a b) : ∀ (f : Nat) (p : List Int) (m last : Nat) (cost : Int) (l : List Nat), walkP rows p = some (m, last, cost) → WalkOk rows p m last cost l → f = rows.length - 1 - p.length → ∀ q : List Nat, q.Perm (memsM m) → bestT rows f p ≤ pathT rows 0 (l ++ q)
  | 0, p, m, last, cost, l, hp, W, hf => fun q hq => by
    have hlen := W.len
    have hpl : p.length = l.length := by rw [W.eq, intsN_len]
    have h0 : q = [] := List.eq_nil_of_length_eq_zero (by rw [hq.length_eq]; omega)
    subst h0
    rw [List.append_nil]
    show pathT rows 0 (p.map Int.toNat) ≤ _
    rw [W.eq, toNat_ints]
    exact Int.le_refl _
  | f + 1, p, m, last, cost, l, hp, W, hf => fun q hq => by
    have hlen := W.len
    have hpl : p.length = l.length := by rw [W.eq, intsN_len]
    have nx : ∀ c ∈ memsM m, ∃ (m' last' : Nat) (cost' : Int), walkP rows (p ++ [(c : Int)]) = some (m', last', cost') ∧ m' = clrM m c ∧ WalkOk rows (p ++ [(c : Int)]) m' last' cost' (l ++ [c]) := fun c hc => by
      have hs := walkP_snoc h1 h24 hp hc
      obtain ⟨l', W'⟩ := walk_ok h1 h24 hs
      have e : l' = l ++ [c] := by
        have := W'.eq
        rw [W.eq] at this
        have h2 := congrArg (List.map Int.toNat) this
        rw [toNat_ints] at h2
        rw [← h2, List.map_append, toNat_ints]
        rfl
      subst e
      exact ⟨_, _, _, hs, rfl, W'⟩
    have hpos : ∀ x ∈ intsN (memsM m), 0 ≤ bestT rows f (p ++ [x]) := fun x hx => by
      obtain ⟨c, hc, rfl⟩ := List.mem_map.1 hx
      obtain ⟨m', last', cost', hs, rfl, W'⟩ := nx c hc
      obtain ⟨q', a1, a2⟩ := bestT_some h1 h24 num f _ _ _ _ _ hs W' (by rw [List.length_append, List.length_singleton]; omega)
      rw [a2]
      refine pathT_pos num _ _ (by omega) fun y hy => ?_
      rcases List.mem_append.1 hy with hy | hy
      · exact (W'.inn y hy).1
      · exact ((W'.rest y).1 (a1.mem_iff.1 hy)).1.1
    have e : bestT rows (f + 1) p = leastF (fun x => bestT rows f (p ++ [x])) (-1) (intsN (memsM m)) := by
      show leastF _ (-1) (match walkP rows p with | none => [] | some (m, _, _) => intsN (memsM m)) = _
      rw [hp]
    rw [e]
    cases q with
    | nil =>
      have := hq.length_eq
      simp at this
      omega
    | cons c q =>
      have hc : c ∈ memsM m := hq.mem_iff.1 (by simp)
      refine Int.le_trans ((leastF_low hpos).1 (c : Int) (List.mem_map.2 ⟨c, hc, rfl⟩)) ?_
      obtain ⟨m', last', cost', hs, rfl, W'⟩ := nx c hc
      have h := bestT_le h1 h24 num f _ _ _ _ _ hs W' (by rw [List.length_append, List.length_singleton]; omega) q (perm_tail W.sub.1 hq)
      rw [List.append_assoc] at h
      exact h
/-- the better one of two, -1 is none -/
def pkB (b c : Int) : Int := if 0 ≤ c ∧ (b < 0 ∨ c < b) then c else b
/-- the least cost of all answers to a knapsack that begin so; -1: there is none -/
def best1 (cap : Int) (ws vs : List Int) : Nat → List Int → Int
  | 0, x => if cap < takenL x ws then -1 else leftL x vs
  | f + 1, x => pkB (pkB (-1) (best1 cap ws vs f (x ++ [0]))) (best1 cap ws vs f (x ++ [1]))
/-- an answer that begins so -/
def ExtB (n : Nat) (x y : List Int) : Prop := (∃ s, y = x ++ s) ∧ y.length = n ∧ ∀ v ∈ y, v = 0 ∨ v = 1
theorem extB_step {n : Nat} {x y : List Int} (h : ExtB n x y) (hl : x.length < n) : ExtB n (x ++ [0]) y ∨ ExtB n (x ++ [1]) y := by
  obtain ⟨⟨s, rfl⟩, h1, h2⟩ := h
  cases s with
  | nil => simp at h1; omega
  | cons a s =>
    rcases h2 a (by simp) with rfl | rfl
    · exact .inl ⟨⟨s, by simp⟩, h1, h2⟩
    · exact .inr ⟨⟨s, by simp⟩, h1, h2⟩
theorem extB_back {n : Nat} {x y : List Int} {b : Int} (h : ExtB n (x ++ [b]) y) : ExtB n x y := by
  obtain ⟨⟨s, rfl⟩, h1, h2⟩ := h
  exact ⟨⟨b :: s, by simp⟩, h1, h2⟩
theorem leftL_pos {vs : List Int} (hv : ∀ x ∈ vs, 0 ≤ x) : ∀ (x : List Int), 0 ≤ leftL x vs := fun x => by
  unfold leftL
  refine sumL_nonneg fun z hz => ?_
  obtain ⟨k, hk, rfl⟩ := List.mem_iff_getElem.1 hz
  rw [List.getElem_zipWith]
  have := hv _ (List.getElem_mem (by simp at hk; omega : k < vs.length))
  split <;> omega
theorem best1_law {cap : Int} {ws vs : List Int} {n : Nat} (hv : ∀ x ∈ vs, 0 ≤ x) : ∀ (f : Nat) (x : List Int), (∀ v ∈ x, v = 0 ∨ v = 1) → x.length + f = n →
    (best1 cap ws vs f x = -1 ∨ ∃ y, ExtB n x y ∧ takenL y ws ≤ cap ∧ best1 cap ws vs f x = leftL y vs) ∧ ∀ y, ExtB n x y → takenL y ws ≤ cap → 0 ≤ best1 cap ws vs f x ∧ best1 cap ws vs f x ≤ leftL y vs
  | 0, x, h01, hl => by
    unfold best1
    by_cases hc : cap < takenL x ws
    · rw [if_pos hc]
      refine ⟨.inl rfl, fun y hy hy2 => ?_⟩
      obtain ⟨⟨s, rfl⟩, h1, h2⟩ := hy
      have : s = [] := List.eq_nil_of_length_eq_zero (by simp at h1; omega)
      subst this
      rw [List.append_nil] at hy2
      omega
    · rw [if_neg hc]
      refine ⟨.inr ⟨x, ⟨⟨[], by simp⟩, by omega, h01⟩, by omega, rfl⟩, fun y hy hy2 => ?_⟩
      obtain ⟨⟨s, rfl⟩, h1, h2⟩ := hy
      have : s = [] := List.eq_nil_of_length_eq_zero (by simp at h1; omega)
      subst this
      rw [List.append_nil]
      exact ⟨leftL_pos hv x, Int.le_refl _⟩
  | f + 1, x, h01, hl => by
    have g0 : ∀ v ∈ x ++ [0], v = 0 ∨ v = 1 := fun v hv => by
      rcases List.mem_append.1 hv with h | h
      · exact h01 v h
      · exact .inl (List.mem_singleton.1 h)
    have g1 : ∀ v ∈ x ++ [1], v = 0 ∨ v = 1 := fun v hv => by
      rcases List.mem_append.1 hv with h | h
      · exact h01 v h
      · exact .inr (List.mem_singleton.1 h)
    obtain ⟨a1, a2⟩ := best1_law (cap := cap) (ws := ws) (n := n) hv f (x ++ [0]) g0 (by simp; omega)
    obtain ⟨b1, b2⟩ := best1_law (cap := cap) (ws := ws) (n := n) hv f (x ++ [1]) g1 (by simp; omega)
    have e : best1 cap ws vs (f + 1) x = pkB (pkB (-1) (best1 cap ws vs f (x ++ [0]))) (best1 cap ws vs f (x ++ [1])) := rfl
    rw [e]
    have a3 : -1 ≤ best1 cap ws vs f (x ++ [0]) := by
      rcases a1 with h | ⟨y, _, _, h⟩
      · omega
      · have := leftL_pos hv y; omega
    have b3 : -1 ≤ best1 cap ws vs f (x ++ [1]) := by
      rcases b1 with h | ⟨y, _, _, h⟩
      · omega
      · have := leftL_pos hv y; omega
    generalize best1 cap ws vs f (x ++ [0]) = a at *
    generalize best1 cap ws vs f (x ++ [1]) = b at *
    have e1 : pkB (-1) a = a := by
      unfold pkB
      split <;> omega
    rw [e1]
    have e2 : (pkB a b = a ∧ (b = -1 ∨ (0 ≤ a ∧ a ≤ b))) ∨ (pkB a b = b ∧ 0 ≤ b ∧ (a = -1 ∨ b < a)) := by
      unfold pkB
      split <;> omega
    constructor
    · rcases e2 with ⟨h, _⟩ | ⟨h, _⟩
      · rw [h]
        rcases a1 with h2 | ⟨y, h3, h4, h5⟩
        · exact .inl h2
        · exact .inr ⟨y, extB_back h3, h4, h5⟩
      · rw [h]
        rcases b1 with h2 | ⟨y, h3, h4, h5⟩
        · exact .inl h2
        · exact .inr ⟨y, extB_back h3, h4, h5⟩
    · intro y hy hc
      rcases extB_step hy (by omega) with h | h
      · have := a2 y h hc
        omega
      · have := b2 y h hc
        omega
end Go.Proofs.Ytpapkofildcdiaa
namespace Go.Proofs.Ytpapkofildcdiaa

/-- what is left of a round trip behind its first so many ways -/
def restW (co : List (List Int)) : List Nat → Int
  | [] => 0
  | u :: q => pathT co u q
theorem pathT_bd {rows : List (List Int)} (num : ∀ a b, a < rows.length → b < rows.length → 0 ≤ costAt rows a b ∧ costAt rows a b ≤ 2147483647) : ∀ (q : List Nat) (s : Nat), s < rows.length → (∀ x ∈ q, x < rows.length) → 0 ≤ pathT rows s q ∧ pathT rows s q ≤ 2147483647 * ((q.length : Int) + 1)
  | [], s, hs, _ => by have := num s 0 hs (by omega); simp only [pathT, List.length_nil]; omega
  | u :: q, s, hs, h => by
    have h1 := num s u hs (h u (by simp))
    have h2 := pathT_bd num q u (h u (by simp)) fun x hx => h x (by simp [hx])
    simp only [pathT, List.length_cons]
    omega
theorem intsN_at {l : List Nat} {k y : Nat} (h : l[k]? = some y) : (intsN l)[k]? = some (y : Int) := by simp [intsN, h]
end Go.Proofs.Ytpapkofildcdiaa
namespace Go.Proofs.Ytpapkofildcdiaa
open Go.RowKit Go.ChangeShapes Go.WideShapes Go.ChangeAt Go.Deep

/-- does each way cost what the way back does? -/
def mirP (rows : List (List Int)) : Bool := decide (∀ x, x < rows.length → ∀ y, y < x → costAt rows x y = costAt rows y x)
theorem mirP_true {rows : List (List Int)} (h : ∀ x, x < rows.length → ∀ y, y < x → costAt rows x y = costAt rows y x) : mirP rows = true := decide_eq_true h
theorem mirP_false {rows : List (List Int)} {x y : Nat} (hx : x < rows.length) (hy : y < x) (h : costAt rows x y ≠ costAt rows y x) : mirP rows = false := decide_eq_false fun k => h (k x hx y hy)
theorem mirP_sym {rows : List (List Int)} (h : mirP rows = true) (a b : Nat) (ha : a < rows.length) (hb : b < rows.length) : costAt rows a b = costAt rows b a := by
  have k := of_decide_eq_true h
  rcases Nat.lt_trichotomy a b with hc | hc | hc
  · exact (k b hb a hc).symm
  · subst hc; rfl
  · exact k a ha b hc
set_option maxRecDepth 100000 in
set_option maxHeartbeats 4000000 in
theorem mirror_any (i : InstP) (us : List Value) (w : World) (H : RInst w us i) (hc : checkP i = 0) (hk : i.kind = 3) :
    Calls Try.prog 36 #[.agg (List.toArray us)] w fun e w' => e = .returned (.bool (mirP i.cost)) ∧ Ext w w' := by
  have ok := square_ok hc (by omega)
  have lw : i.weight.length ≤ 1000000000 := by rw [ok.w]; simp
  have lv : i.value.length ≤ 1000000000 := by rw [ok.v]; simp
  have CH := fun (W : World) (x : Ext w W) => check_any i us W (H.ext x) lw lv
  rw [hc] at CH
  have rok := rows_ok ok
  have n24 := rok.n2
  clear ok lw lv hc
  obtain ⟨kind, nn, cap, xw, xv, co⟩ := i
  obtain ⟨A, a, B, b, D, d, rfl, -, -, ⟨hC, -, -⟩⟩ := H
  simp only at *
  subst hk
  have B1 : Hid (Blk (w.alloc (.cells #[.int .i64 3, .int .i64 nn, .int .i64 cap, .slice A xw.length a, .slice B xv.length b, .slice D co.length d] 25)) w.heap.size 25 #[.int .i64 3, .int .i64 nn, .int .i64 cap, .slice A xw.length a, .slice B xv.length b, .slice D co.length d]) := .new rfl
  replace CH := Lib.hid CH
  replace hC := Lib.hid hC
  replace rok := Lib.hid rok
  obtain ⟨mm, hmm⟩ : ∃ mm, Hid (mirP co = mm) := ⟨_, rfl⟩
  rw [hmm.out]
  go_enter Try.func36, Try.ntmps36
  go_wp2_with (fail)
  refine (CH.out _ (by (repeat (first | assumption | exact Ext.rf _ | apply Ext.drew | apply Ext.drewN | apply Ext.alloc)))).mono ?_
  rintro e w1 ⟨rfl, x1⟩
  have X1 := Lib.hid (Ext.tr (a := w) (by (repeat (first | assumption | exact Ext.rf _ | apply Ext.drew | apply Ext.drewN | apply Ext.alloc))) x1)
  have BB := Lib.hid (B1.out.ext x1)
  have d5 : w1.cell? ⟨w.heap.size, 5, none⟩ = some (.slice D co.length d) := BB.out.cell 5
  clear x1
  go_wp2_with (fail)
  go_loopw [17] (fun v wr => ∃ k : Nat, v = .int .i64 k ∧ k ≤ co.length ∧ Hid (∀ x, x < k → ∀ y, y < x → costAt co x y = costAt co y x) ∧ Hid (Ext w1 wr)) (fun v _ => co.length - (intOf v).toNat)
  case atStart => exact ⟨0, rfl, by omega, fun x hx => absurd hx (Nat.not_lt_zero _), Ext.rf _⟩
  case round =>
    obtain ⟨wo, rfl⟩ : ∃ wo : World, wo = wr := ⟨_, rfl⟩
    obtain ⟨k, rfl, hk, HS, Y⟩ := hrel
    by_cases hlt : k < co.length
    · have XW : Hid (Ext w wo) := X1.out.tr Y.out
      obtain ⟨cb, cof, D', row, d', rfl, zb, cD, er, _, rD, iD, ld, md⟩ := (hC.out.ext XW.out fun _ _ h => h.ext XW.out).ints hlt
      have lrow := rok.out.row row (List.mem_of_getElem? er.out)
      have q1 : (k : Int) < (co.length : Int) := by omega
      replace er := Lib.hid er.out
      replace rD := Lib.hid rD
      go_wp2_with (fail)
      go_loopw [23] (fun v wr => ∃ j : Nat, v = .int .i64 j ∧ j ≤ k ∧ Hid (∀ y, y < j → costAt co k y = costAt co y k) ∧ Hid (Ext wo wr)) (fun v _ => k - (intOf v).toNat)
      case atStart => exact ⟨0, rfl, by omega, fun y hy => absurd hy (Nat.not_lt_zero _), Ext.rf _⟩
      case round =>
        obtain ⟨wi, rfl⟩ : ∃ wi : World, wi = wr := ⟨_, rfl⟩
        obtain ⟨j, rfl, hj, HJ, Z⟩ := hrel
        have XZ := Lib.hid (Ext.tr (a := w) (XW.out) Z.out)
        by_cases hlj : j < k
        · obtain ⟨cb', cof', D2, row2, d2, hq, zb2, cD2, er2, _, rD2, iD2, ld2, md2⟩ := (hC.out.ext XZ.out fun _ _ h => h.ext XZ.out).ints (r := j) (by omega)
          obtain ⟨rfl, rfl⟩ : cb = cb' ∧ cof = cof' := by simpa using hq
          have lrow2 := rok.out.row row2 (List.mem_of_getElem? er2.out)
          obtain ⟨rb, ro, x, rfl, zx, cx, ex, _⟩ := (rD.out.ext Z.out).at (k := j) (by omega)
          obtain ⟨rb2, ro2, y, rfl, zy, cy, ey, _⟩ := rD2.at (k := k) (by omega)
          have d5' : wi.cell? ⟨w.heap.size, 5, none⟩ = some (.slice (some ⟨cb, cof, none⟩) co.length d) := ((BB.out.ext Y.out).ext Z.out).cell 5
          have exy : Hid (costAt co k j = x ∧ costAt co j k = y) := by
            refine ⟨?_, ?_⟩
            · unfold costAt; rw [getD_some er.out, getD_some ex.out]
            · unfold costAt; rw [getD_some er2.out, getD_some ey.out]
          have q2 : (j : Int) < (co.length : Int) := by omega
          have q3 : (j : Int) < (row.length : Int) := by omega
          have q4 : (k : Int) < (row2.length : Int) := by omega
          replace ex := Lib.hid ex.out
          replace ey := Lib.hid ey.out
          replace er2 := Lib.hid er2.out
          replace rD2 := Lib.hid rD2
          clear hq
          by_cases hxy : x = y
          · subst hxy
            have t0 : (x != x) = false := by simp
            have NX : Hid (∀ yy, yy < j + 1 → costAt co k yy = costAt co yy k) := fun yy hy => by
              by_cases e : yy = j
              · subst e; rw [exy.out.1, exy.out.2]
              · exact HJ.out yy (by omega)
            go_wp2_with (fail)
            go_quiet (fail)
            go_wp2_with (fail)
            go_roundw
            case rel => exact ⟨j + 1, by go_num, by omega, NX, Z.out.drewN _⟩
            case measure => simp [intOf]; omega
          · have t0 : (x != y) = true := by simpa using hxy
            have HM : Hid (mm = false) := by
              have h : mm = false := by
                rw [← hmm.out]
                exact mirP_false hlt hlj (by rw [exy.out.1, exy.out.2]; exact hxy)
              exact h
            go_wp2_with (fail)
            go_quiet (fail)
            go_wp2_with (fail)
            go_ret
            rw [HM.out]
            exact ⟨rfl, XZ.out.drewN _⟩
        · obtain rfl : j = k := by omega
          have q2 : ¬ (j : Int) < (j : Int) := by omega
          have HS3 : Hid (∀ x, x < j + 1 → ∀ y, y < x → costAt co x y = costAt co y x) := fun x hx => by
            by_cases e : x = j
            · subst e; exact HJ.out
            · exact HS.out x (by omega)
          have YZ := Lib.hid (Y.out.tr Z.out)
          go_wp2_with (fail)
          go_roundw
          case rel => exact ⟨j + 1, by go_num, by omega, HS3, YZ.out⟩
          case measure => simp [intOf]; omega
    · obtain rfl : k = co.length := by omega
      have HM : Hid (mm = true) := by
        have h : mm = true := by
          rw [← hmm.out]
          exact mirP_true HS.out
        exact h
      have q2 : ¬ (co.length : Int) < (co.length : Int) := by omega
      have XW := Lib.hid (X1.out.tr Y.out)
      go_wp2_with (fail)
      go_ret
      rw [HM.out]
      exact ⟨rfl, XW.out⟩
end Go.Proofs.Ytpapkofildcdiaa
namespace Go.Proofs.Ytpapkofildcdiaa
open Go.RowKit Go.ChangeShapes Go.WideShapes Go.ChangeAt Go.Deep

/-- the least one of a row that isn't below nought -/
def leastG : Int → List Int → Int
  | b, [] => b
  | b, x :: l => leastG (if 0 ≤ x ∧ (b < 0 ∨ x < b) then x else b) l
theorem leastG_bd {B : Int} : ∀ {l : List Int} {b : Int}, (∀ x ∈ l, x ≤ B) → b ≤ B → leastG b l ≤ B
  | [], b, _, h => h
  | x :: l, b, h, hb => by
    unfold leastG
    refine leastG_bd (fun y hy => h y (by simp [hy])) ?_
    have := h x (by simp)
    split <;> omega
def colG (c : Nat) (b : Int) : List (List Int) → List Int → Int
  | row :: rows, o :: off => colG c (if 0 ≤ row.getD c 0 ∧ (b < 0 ∨ row.getD c 0 - o < b) then row.getD c 0 - o else b) rows off
  | _, _ => b
def offG (ms : List (List Int)) : List Int := ms.map fun row => max (leastG (-1) row) 0
def rcolG (ms : List (List Int)) (L : Nat) : List Int := (List.range L).map fun c => max (colG c (-1) ms (offG ms)) 0
def rreduceG (ms : List (List Int)) (L : Nat) : Int := sumL (offG ms) + sumL (rcolG ms L)
end Go.Proofs.Ytpapkofildcdiaa
namespace Go.Proofs.Ytpapkofildcdiaa

theorem leastN_mem {f : Nat → Int} : ∀ {l : List Nat} {b : Int}, (∀ x ∈ l, 0 ≤ f x) → (0 ≤ b ∨ l ≠ []) → (leastN f b l = b ∧ 0 ≤ b) ∨ ∃ x ∈ l, leastN f b l = f x
  | [], b, _, h => by
    rcases h with h | h
    · exact .inl ⟨rfl, h⟩
    · exact absurd rfl h
  | x :: l, b, h, _ => by
    have hx := h x (by simp)
    have ih := leastN_mem (f := f) (l := l) (b := if b < 0 then f x else if f x < b then f x else b) (fun y hy => h y (by simp [hy])) (.inl (by split <;> (try split) <;> omega))
    have e : leastN f b (x :: l) = leastN f (if b < 0 then f x else if f x < b then f x else b) l := rfl
    rw [e]
    rcases ih with ⟨e, _⟩ | ⟨y, hy, e⟩
    · rw [e]
      split
      · exact .inr ⟨x, by simp, rfl⟩
      · split
        · exact .inr ⟨x, by simp, rfl⟩
        · exact .inl ⟨rfl, by omega⟩
    · exact .inr ⟨y, by simp [hy], e⟩
theorem leastN_perm {f : Nat → Int} {l l' : List Nat} (hp : l.Perm l') (h : ∀ x ∈ l, 0 ≤ f x) : leastN f (-1) l = leastN f (-1) l' := by
  by_cases hl : l = []
  · subst hl
    rw [List.Perm.eq_nil hp.symm]
  · have h' : ∀ x ∈ l', 0 ≤ f x := fun x hx => h x (hp.mem_iff.2 hx)
    have hl' : l' ≠ [] := fun e => hl (List.Perm.eq_nil (e ▸ hp))
    rcases leastN_mem h (b := -1) (.inr hl) with ⟨_, h1⟩ | ⟨x, hx, h1⟩
    · omega
    · rcases leastN_mem h' (b := -1) (.inr hl') with ⟨_, h2⟩ | ⟨y, hy, h2⟩
      · omega
      · have a1 := (leastN_le (b := -1) h).1 y (hp.mem_iff.2 hy)
        have a2 := (leastN_le (b := -1) h').1 x (hp.mem_iff.1 hx)
        omega
theorem leastN_congr {f g : Nat → Int} : ∀ {l : List Nat} {b : Int}, (∀ x ∈ l, f x = g x) → leastN f b l = leastN g b l
  | [], _, _ => rfl
  | x :: l, b, h => by
    show leastN f (if b < 0 then f x else if f x < b then f x else b) l = leastN g (if b < 0 then g x else if g x < b then g x else b) l
    rw [h x (by simp)]
    exact leastN_congr fun y hy => h y (by simp [hy])
theorem leastG_map (f : Nat → Int) : ∀ (l : List Nat) (b : Int), leastG b (l.map f) = leastN f b (l.filter fun x => decide (0 ≤ f x))
  | [], b => rfl
  | x :: l, b => by
    show leastG (if 0 ≤ f x ∧ (b < 0 ∨ f x < b) then f x else b) (l.map f) = _
    rw [leastG_map f l]
    by_cases h : 0 ≤ f x
    · rw [List.filter_cons_of_pos (by simpa using h)]
      show _ = leastN f (if b < 0 then f x else if f x < b then f x else b) _
      congr 1
      split <;> split <;> (try split) <;> omega
    · rw [List.filter_cons_of_neg (by simpa using h), if_neg (fun h2 => h h2.1)]
theorem colG_map (r : Nat → List Int) (o : Nat → Int) (c : Nat) : ∀ (S : List Nat) (b : Int), colG c b (S.map r) (S.map o) = leastN (fun s => (r s).getD c 0 - o s) b (S.filter fun s => decide (0 ≤ (r s).getD c 0))
  | [], b => rfl
  | s :: S, b => by
    simp only [List.map_cons, colG]
    rw [colG_map r o c S]
    by_cases h : 0 ≤ (r s).getD c 0
    · rw [List.filter_cons_of_pos (by simpa using h)]
      show _ = leastN _ (if b < 0 then (r s).getD c 0 - o s else if (r s).getD c 0 - o s < b then (r s).getD c 0 - o s else b) _
      congr 1
      split <;> split <;> (try split) <;> omega
    · rw [List.filter_cons_of_neg (by simpa using h), if_neg (fun h2 => h h2.1)]
section
variable {rows : List (List Int)} {us : List Nat} {last : Nat}
/-- the document's square -/
def entT (rows : List (List Int)) (us : List Nat) (last src dst : Nat) : Int := if dst ∈ colsT us last src then costAt rows src dst else -1
def matT (rows : List (List Int)) (us : List Nat) (last : Nat) : List (List Int) := (last :: us).map fun src => (us ++ [0]).map fun dst => entT rows us last src dst
theorem entT_nonneg (num : ∀ a b, (a = last ∨ a ∈ us) → (b = 0 ∨ b ∈ us) → 0 ≤ costAt rows a b) {src dst : Nat} (hs : src ∈ last :: us) (hd : dst ∈ us ++ [0]) : decide (0 ≤ entT rows us last src dst) = decide (dst ∈ colsT us last src) := by
  have h := num src dst (List.mem_cons.1 hs) (by
    rcases List.mem_append.1 hd with h | h
    · exact .inr h
    · exact .inl (List.mem_singleton.1 h))
  unfold entT
  by_cases hc : dst ∈ colsT us last src
  · rw [if_pos hc, decide_eq_true hc, decide_eq_true h]
  · rw [if_neg hc, decide_eq_false hc]
    rfl
theorem offG_mat (num : ∀ a b, (a = last ∨ a ∈ us) → (b = 0 ∨ b ∈ us) → 0 ≤ costAt rows a b) (_ : last ∉ us) (h0 : 0 ∉ us) : offG (matT rows us last) = (last :: us).map fun src => offT rows us last src := by
  unfold offG matT
  rw [List.map_map]
  refine List.map_congr_left fun src hs => ?_
  show max (leastG (-1) ((us ++ [0]).map fun dst => entT rows us last src dst)) 0 = offT rows us last src
  have hf : (us ++ [0]).filter (fun x => decide (0 ≤ entT rows us last src x)) = (us ++ [0]).filter fun x => decide (x ∈ colsT us last src) := List.filter_congr fun x hx => entT_nonneg num hs hx
  rw [leastG_map, hf]
  have e1 : leastN (fun dst => entT rows us last src dst) (-1) ((us ++ [0]).filter fun x => decide (x ∈ colsT us last src)) = leastN (fun dst => costAt rows src dst) (-1) ((us ++ [0]).filter fun x => decide (x ∈ colsT us last src)) := leastN_congr fun x hx => by
    unfold entT
    rw [if_pos (of_decide_eq_true (List.mem_filter.1 hx).2)]
  have e2 : ((us ++ [0]).filter fun x => decide (x ∈ colsT us last src)).Perm (colsT us last src) := by
    unfold colsT
    by_cases e : src = last
    · rw [if_pos e, List.filter_append, List.filter_eq_self.2 (fun x hx => decide_eq_true hx), List.filter_cons_of_neg (by simpa using h0)]
      simp
    · rw [if_neg e, List.filter_append]
      have a1 : us.filter (fun x => decide (x ∈ 0 :: us.filter fun x => decide (src ≠ x))) = us.filter fun x => decide (src ≠ x) := List.filter_congr fun x hx => by
        rw [decide_eq_decide, List.mem_cons, List.mem_filter]
        constructor
        · rintro (h | h)
          · subst h; exact absurd hx h0
          · exact of_decide_eq_true h.2
        · exact fun h => .inr ⟨hx, decide_eq_true h⟩
      have a2 : [0].filter (fun x => decide (x ∈ 0 :: us.filter fun x => decide (src ≠ x))) = [0] := by simp
      rw [a1, a2]
      exact List.perm_append_comm (l₂ := [0])
  rw [e1, leastN_perm e2 fun x hx => num src x (List.mem_cons.1 hs) (by
    rcases List.mem_append.1 (List.mem_filter.1 hx).1 with h | h
    · exact .inr h
    · exact .inl (List.mem_singleton.1 h))]
  rfl
theorem getD_map_app {f : Nat → Int} {D : List Nat} {c d : Nat} (h : D[c]? = some d) : (D.map f).getD c 0 = f d := by
  simp [List.getD, h]
theorem reduceG_mat (num : ∀ a b, (a = last ∨ a ∈ us) → (b = 0 ∨ b ∈ us) → 0 ≤ costAt rows a b) (hl : last ∉ us) (h0 : 0 ∉ us) : rreduceG (matT rows us last) (us.length + 1) = reduceT rows us last := by
  have ho := offG_mat num hl h0
  have hc : ∀ (c d : Nat), (us ++ [0])[c]? = some d → colG c (-1) (matT rows us last) (offG (matT rows us last)) = colT rows us last d := fun c d hd => by
    rw [ho]
    unfold matT
    refine Eq.trans (colG_map (fun src => (us ++ [0]).map fun dst => entT rows us last src dst) (fun src => offT rows us last src) c (last :: us) (-1)) ?_
    have hdm := List.mem_of_getElem? hd
    have e1 : (last :: us).filter (fun s => decide (0 ≤ ((us ++ [0]).map fun dst => entT rows us last s dst).getD c 0)) = (last :: us).filter fun s => decide (d ∈ colsT us last s) := List.filter_congr fun s hs => by
      rw [getD_map_app hd]
      exact entT_nonneg num hs hdm
    rw [e1]
    unfold colT
    refine leastN_congr fun s hs => ?_
    rw [getD_map_app hd]
    unfold entT
    rw [if_pos (of_decide_eq_true (List.mem_filter.1 hs).2)]
  unfold rreduceG reduceT
  rw [ho]
  congr 1
  have e2 : rcolG (matT rows us last) (us.length + 1) = (us ++ [0]).map fun dst => max (colT rows us last dst) 0 := by
    have hr : (List.range (us.length + 1)).map (fun c => (us ++ [0]).getD c 0) = us ++ [0] := by
      apply List.ext_getElem
      · simp
      · intro k h1 h2
        rw [List.getElem_map, List.getElem_range]
        simp only [List.getD]
        rw [List.getElem?_eq_getElem h2]
        rfl
    refine Eq.trans ?_ (congrArg (List.map fun dst => max (colT rows us last dst) 0) hr)
    rw [List.map_map]
    unfold rcolG
    refine List.map_congr_left fun c hcr => ?_
    have hk : c < (us ++ [0]).length := by
      have := List.mem_range.1 hcr
      simp only [List.length_append, List.length_singleton]
      exact this
    obtain ⟨d, hd⟩ : ∃ d, (us ++ [0])[c]? = some d := ⟨_, List.getElem?_eq_getElem hk⟩
    have e3 : (us ++ [0]).getD c 0 = d := getD_some hd
    simp only [Function.comp_apply]
    rw [hc c d hd, e3]
  rw [e2]
  exact sumL_perm ((List.perm_append_comm (l₁ := us) (l₂ := [0])).map _)
end
/-! the beginnings as a tree -/
section
variable {rows : List (List Int)}
theorem kidsT_of {p : List Int} {m last : Nat} {cost : Int} (hp : walkP rows p = some (m, last, cost)) : ∃ l : List Nat, (kidsT rows p).1 = intsN l ∧ l.Perm (memsM m) ∧ (kidsT rows p).2 = 0 := by
  refine ⟨sortP (ltC (cfR (rows.getD last []))) (memsM m), ?_, msortP_perm _ _ _, ?_⟩ <;> (unfold kidsT; rw [hp])
theorem walkP_len (h1 : 1 ≤ rows.length) (h24 : rows.length ≤ 24) {p : List Int} {m last : Nat} {cost : Int} (h : walkP rows p = some (m, last, cost)) : (memsM m).length + p.length = rows.length - 1 := by
  obtain ⟨l, W⟩ := walk_ok h1 h24 h
  have := W.len
  rw [W.eq, intsN_len]
  exact this
theorem walkP_root : walkP rows [] = some (restM rows.length, 0, 0) := by
  unfold walkP
  rw [if_neg (by simp)]
  rfl
end
end Go.Proofs.Ytpapkofildcdiaa
namespace Go.Proofs.Ytpapkofildcdiaa
open Go.RowKit Go.ChangeShapes Go.WideShapes Go.ChangeAt Go.Deep Go.Shelf
attribute [local go_sem] Oper.semAt_some

theorem putP_bd {B n : Int} {p : Int × Int} (h1 : 0 ≤ p.1 ∧ p.1 ≤ B) (h2 : 0 ≤ p.2 ∧ p.2 ≤ B) (hn : 0 ≤ n ∧ n ≤ B) : (0 ≤ (putP p n).1 ∧ (putP p n).1 ≤ B) ∧ 0 ≤ (putP p n).2 ∧ (putP p n).2 ≤ B := by
  unfold putP
  split
  · exact ⟨hn, h1⟩
  · split
    · exact ⟨h1, hn⟩
    · exact ⟨h1, h2⟩
theorem foldP_bd {B : Int} {f : Nat → Int} : ∀ (l : List Nat) (p : Int × Int), (0 ≤ p.1 ∧ p.1 ≤ B) → (0 ≤ p.2 ∧ p.2 ≤ B) → (∀ v ∈ l, 0 ≤ f v ∧ f v ≤ B) → (0 ≤ (l.foldl (fun p v => putP p (f v)) p).1 ∧ (l.foldl (fun p v => putP p (f v)) p).1 ≤ B) ∧ 0 ≤ (l.foldl (fun p v => putP p (f v)) p).2 ∧ (l.foldl (fun p v => putP p (f v)) p).2 ≤ B
  | [], _, h1, h2, _ => ⟨h1, h2⟩
  | v :: l, p, h1, h2, h => by
    have h3 := putP_bd h1 h2 (h v (by simp))
    exact foldP_bd l _ h3.1 h3.2 fun x hx => h x (by simp [hx])
end Go.Proofs.Ytpapkofildcdiaa
namespace Go.Proofs.Ytpapkofildcdiaa
open Go.RowKit Go.ChangeShapes Go.WideShapes Go.ChangeAt Go.Deep

theorem walk_last {rows : List (List Int)} (h1 : 1 ≤ rows.length) {p : List Int} {m last : Nat} {cost : Int} {l : List Nat} (h : WalkOk rows p m last cost l) : last < rows.length := by
  rw [h.last]
  rcases lastT_mem l 0 with e | e
  · rw [e]; exact h1
  · exact (h.inn _ e).1
end Go.Proofs.Ytpapkofildcdiaa
namespace Go.Proofs.Ytpapkofildcdiaa
open Go.RowKit Go.ChangeShapes Go.WideShapes Go.ChangeAt Go.Deep

end Go.Proofs.Ytpapkofildcdiaa
namespace Go.Proofs.Ytpapkofildcdiaa
open Go.RowKit Go.ChangeShapes Go.WideShapes Go.ChangeAt Go.Deep

theorem sumL_map_bd {f : Nat → Int} {B : Int} : ∀ (l : List Nat), (∀ x ∈ l, 0 ≤ f x ∧ f x ≤ B) → 0 ≤ sumL (l.map f) ∧ sumL (l.map f) ≤ B * (l.length : Int)
  | [], _ => by simp [sumL]
  | x :: l, h => by
    have h1 := h x (by simp)
    have h2 := sumL_map_bd l fun y hy => h y (by simp [hy])
    have h3 : B * ((l.length : Int) + 1) = B * (l.length : Int) + B := by rw [Int.mul_add, Int.mul_one]
    simp only [List.map_cons, sumL, List.length_cons, Int.natCast_add, Int.natCast_one]
    omega
theorem wayC_bd {rows : List (List Int)} (num : ∀ a b, a < rows.length → b < rows.length → 0 ≤ costAt rows a b ∧ costAt rows a b ≤ 2147483647) : ∀ (l : List Nat) (s : Nat), s < rows.length → (∀ x ∈ l, x < rows.length) → 0 ≤ wayC rows s (intsN l) ∧ wayC rows s (intsN l) ≤ 2147483647 * (l.length : Int)
  | [], _, _, _ => by simp [wayC, intsN]
  | x :: l, s, hs, h => by
    have h1 := num s x hs (h x (by simp))
    have h2 := wayC_bd num l x (h x (by simp)) fun y hy => h y (by simp [hy])
    have e : wayC rows s (intsN (x :: l)) = costAt rows s x + wayC rows x (intsN l) := by simp [intsN, wayC]
    rw [e]
    simp only [List.length_cons, Int.natCast_add, Int.natCast_one]
    omega
section
variable {rows : List (List Int)} {us : List Nat} {last : Nat}
theorem reduceT_bd (num : ∀ a b, a < rows.length → b < rows.length → 0 ≤ costAt rows a b ∧ costAt rows a b ≤ 2147483647) (h0 : 0 < rows.length) (hl : last < rows.length) (hu : ∀ x ∈ us, x < rows.length) (hlen : us.length ≤ 24) : 0 ≤ reduceT rows us last ∧ reduceT rows us last ≤ 2147483647 * 100 := by
  have hcol : ∀ {s : Nat}, ∀ d ∈ colsT us last s, d < rows.length := fun {s} d h => by
    unfold colsT at h
    split at h
    · exact hu d h
    · rcases List.mem_cons.1 h with rfl | h
      · exact h0
      · exact hu d (List.mem_filter.1 h).1
  have hsrc : ∀ s ∈ last :: us, s < rows.length := fun s h => by
    rcases List.mem_cons.1 h with rfl | h
    · exact hl
    · exact hu s h
  have hoff : ∀ s ∈ last :: us, 0 ≤ offT rows us last s ∧ offT rows us last s ≤ 2147483647 := fun s hs => by
    have h1 := leastN_bd (f := fun dst => costAt rows s dst) (B := 2147483647) (l := colsT us last s) (b := -1) (fun c hc => by
      have := num s c (hsrc s hs) (hcol c hc)
      omega) (by omega) (by omega)
    unfold offT
    omega
  have h1 := sumL_map_bd (f := fun src => offT rows us last src) (last :: us) hoff
  have h2 := sumL_map_bd (f := fun dst => max (colT rows us last dst) 0) (B := 4294967294) (0 :: us) fun d hd => by
    have hd' : d < rows.length := by
      rcases List.mem_cons.1 hd with rfl | hd
      · exact h0
      · exact hu d hd
    have h3 : -4294967294 ≤ colT rows us last d ∧ colT rows us last d ≤ 4294967294 := by
      unfold colT
      refine leastN_bd (fun s hs => ?_) (by omega) (by omega)
      have h4 := num s d (hsrc s (List.mem_filter.1 hs).1) hd'
      have h5 := hoff s (List.mem_filter.1 hs).1
      omega
    omega
  unfold reduceT
  simp only [List.length_cons] at h1 h2
  omega
theorem endsT_bd (num : ∀ a b, a < rows.length → b < rows.length → 0 ≤ costAt rows a b ∧ costAt rows a b ≤ 2147483647) (h0 : 0 < rows.length) (hl : last < rows.length) (hu : ∀ x ∈ us, x < rows.length) (hlen : us.length ≤ 24) (hne : us ≠ []) : 0 ≤ endsT rows us last ∧ endsT rows us last ≤ 4294967294 * 30 := by
  have h1 := sumL_map_bd (f := fun u => (pairT rows us last u).1 + (pairT rows us last u).2) (B := 4294967294) us fun y hy => by
    have k0 := hu y hy
    have k1 := num y last k0 hl
    have k2 := num y 0 k0 h0
    have h3 := foldP_bd (B := 2147483647) (f := fun v => costAt rows y v) (us.filter fun j => decide (y ≠ j)) (min (costAt rows y last) (costAt rows y 0), max (costAt rows y last) (costAt rows y 0)) (by simp only; omega) (by simp only; omega) fun v hv => num y v k0 (hu v (List.mem_filter.1 hv).1)
    have h4 : pairT rows us last y = (us.filter fun j => decide (y ≠ j)).foldl (fun p v => putP p (costAt rows y v)) (min (costAt rows y last) (costAt rows y 0), max (costAt rows y last) (costAt rows y 0)) := rfl
    rw [← h4] at h3
    omega
  have h2 := leastN_pos (f := fun u => costAt rows last u) (B := 2147483647) (l := us) (fun x hx => num last x hl (hu x hx)) hne (by omega)
  have h3 := leastN_pos (f := fun u => costAt rows u 0) (B := 2147483647) (l := us) (fun x hx => num x 0 (hu x hx) h0) hne (by omega)
  unfold endsT
  omega
end
end Go.Proofs.Ytpapkofildcdiaa
namespace Go.Proofs.Ytpapkofildcdiaa
open Go.RowKit Go.ChangeShapes Go.WideShapes Go.ChangeAt Go.Deep

/-- one number of the ways' costs, in memory -/
theorem cost_at {w : World} {D : Option Addr} {co : List (List Int)} (rok : RowsOk co) (hC : RdE 1 RInts w D co) {r c : Nat} (hr : r < co.length) (hc : c < co.length) :
    ∃ cb cof rb ro d', D = some ⟨cb, cof, none⟩ ∧ w.cell? ⟨cb, cof + r, none⟩ = some (.slice (some ⟨rb, ro, none⟩) co.length d') ∧ w.cell? ⟨rb, ro + c, none⟩ = some (.int .i64 (costAt co r c)) := by
  obtain ⟨cb, cof, D', row, d', rfl, zb, cD, er, _, rD, iD, ld, md⟩ := hC.ints hr
  have lrow := rok.row row (List.mem_of_getElem? er.out)
  obtain ⟨rb, ro, x, rfl, zx, cx, ex, _⟩ := rD.at (k := c) (by omega)
  refine ⟨cb, cof, rb, ro, d', rfl, by rw [cD, lrow], ?_⟩
  rw [cx]
  unfold costAt
  rw [getD_some er.out, getD_some ex.out]
theorem cost_in {w : World} {cb cof : Nat} {co : List (List Int)} (rok : RowsOk co) (hC : RdE 1 RInts w (some ⟨cb, cof, none⟩) co) {r c : Nat} (hr : r < co.length) (hc : c < co.length) :
    ∃ rb ro d', w.cell? ⟨cb, cof + r, none⟩ = some (.slice (some ⟨rb, ro, none⟩) co.length d') ∧ w.cell? ⟨rb, ro + c, none⟩ = some (.int .i64 (costAt co r c)) := by
  obtain ⟨cb', cof', rb, ro, d', h, h1, h2⟩ := cost_at rok hC hr hc
  obtain ⟨rfl, rfl⟩ : cb = cb' ∧ cof = cof' := by simpa using h
  exact ⟨rb, ro, d', h1, h2⟩
theorem ends_num {rows : List (List Int)} (ok : RowsOk rows) (a b : Nat) (ha : a < rows.length) (hb : b < rows.length) : 0 ≤ costAt rows a b ∧ costAt rows a b ≤ 2147483647 := by
  have e1 : rows[a]? = some rows[a] := List.getElem?_eq_getElem ha
  have e2 := ok.row _ (List.getElem_mem ha)
  have e3 : (rows[a])[b]? = some (rows[a])[b] := List.getElem?_eq_getElem (by omega)
  unfold costAt
  rw [getD_some e1, getD_some e3]
  exact ok.num _ (List.getElem_mem ha) _ (List.getElem_mem _)
end Go.Proofs.Ytpapkofildcdiaa
namespace Go.Proofs.Ytpapkofildcdiaa
open Go.RowKit Go.ChangeShapes Go.WideShapes Go.ChangeAt Go.Deep

theorem pairT_bd {rows : List (List Int)} {us : List Nat} {last : Nat} (num : ∀ a b, a < rows.length → b < rows.length → 0 ≤ costAt rows a b ∧ costAt rows a b ≤ 2147483647) (h0 : 0 < rows.length) (hl : last < rows.length) (hu : ∀ x ∈ us, x < rows.length) {y : Nat} (k0 : y < rows.length) : (0 ≤ (pairT rows us last y).1 ∧ (pairT rows us last y).1 ≤ 2147483647) ∧ 0 ≤ (pairT rows us last y).2 ∧ (pairT rows us last y).2 ≤ 2147483647 := by
  have k1 := num y last k0 hl
  have k2 := num y 0 k0 h0
  exact foldP_bd (B := 2147483647) (f := fun v => costAt rows y v) (us.filter fun j => decide (y ≠ j)) (min (costAt rows y last) (costAt rows y 0), max (costAt rows y last) (costAt rows y 0)) (by simp only; omega) (by simp only; omega) fun v hv => num y v k0 (hu v (List.mem_filter.1 hv).1)
end Go.Proofs.Ytpapkofildcdiaa
namespace Go.Proofs.Ytpapkofildcdiaa
open Go.RowKit

/-- is an operation's word to be kept over another one's run? not where it is spent (the one alone that wants it has run), nor where it comes behind that one -/
def keepsV (ops : Array Oper) (rem : List (Nat × Option Tmp)) (kill : Nat → List Nat) (i j : Nat) : Bool :=
  decide (i ≠ j) && !(kill j).contains i && (kill j).all (fun k => !reachN ops (rem.map (·.1)) (rem.length + 1) i k) && !reachN ops (rem.map (·.1)) (rem.length + 1) j i
/-- who wants it spends it, or it is not spent -/
def killOk (ops : Array Oper) (rem : List (Nat × Option Tmp)) (kill : Nat → List Nat) : Bool :=
  rem.all fun p => (depsOf ops rem p.1).all fun j => (kill j).all fun k => k == p.1
section
variable {P : Program} {ops : Array Oper} {Q : Exit → Act → World → Prop}
/-- wpAny_core2, with words that are spent -/
theorem wpAny_core3 (rem : List (Nat × Option Tmp)) (kill : Nat → List Nat) (R : World → Prop) (V : Nat → Value → World → Prop) (Stab : Nat → World → World → Prop) {listed0 : Array Bool} (listed1 : Array Bool) (hok : coreOk2 ops listed0 listed1 rem = true) (hkill : killOk ops rem kill = true)
    (stab : ∀ i j v w w', keepsV ops rem kill i j = true → V j v w → Stab i w w' → V j v w')
    {a0 : Act}
    (step : ∀ p ∈ rem, ∀ u w, R w → (∀ j ∈ depsOf ops rem p.1, V j (u j) w) → ∀ K : Act → World → Prop, (∀ v w', V p.1 v w' → R w' → Stab p.1 w w' → K ((putAll a0 rem u).put p.2 v) w') → wpOp P ops Q p.1 K (putAll a0 rem u) w)
    (n : Nat) (done : ∀ u w, R w → (∀ p ∈ rem, kill p.1 = [] → V p.1 (u p.1) w) → wpAny P .any ops Q n listed1 (putAll a0 rem u) w) {w0 : World} (hR : R w0) :
    wpAny P .any ops Q (rem.length + n) listed0 a0 w0 := by
  simp only [coreOk2, Bool.and_eq_true, decide_eq_true_eq] at hok
  obtain ⟨⟨⟨⟨⟨hn, hdn⟩, hsz⟩, hsz1⟩, hall⟩, hcomp⟩ := hok
  have hall := List.all_eq_true.1 hall
  have hcomp := List.all_eq_true.1 hcomp
  have hmem : ∀ i ∈ rem.map (·.1), listed0.getD i true = false ∧ i < ops.size := by
    intro i hi
    obtain ⟨p, hp, rfl⟩ := List.mem_map.1 hi
    have h1 := hall p hp
    have hlt : p.1 < ops.size := by
      rcases Nat.lt_or_ge p.1 ops.size with h | h
      · exact h
      · rw [Array.getElem?_eq_none h] at h1; simp at h1
    have := hcomp p.1 (List.mem_range.2 hlt)
    have hc : (rem.map (·.1)).contains p.1 = true := by simpa using hi
    rw [hc] at this
    simp only [if_true, Bool.and_eq_true, Bool.not_eq_true'] at this
    exact ⟨this.1, hlt⟩
  have hone : ∀ i ∈ rem.map (·.1), listed1.getD i true = true := by
    intro i hi
    have := hcomp i (List.mem_range.2 (hmem i hi).2)
    have hc : (rem.map (·.1)).contains i = true := by simpa using hi
    rw [hc] at this
    simp only [if_true, Bool.and_eq_true] at this
    exact this.2
  have hrest : ∀ i, i < ops.size → i ∉ rem.map (·.1) → listed1.getD i true = listed0.getD i true ∧ ((listed0.getD i true = true ∨ ∀ p ∈ rem, reachN ops (rem.map (·.1)) (rem.length + 1) i p.1 = true) ∨ ∃ o, ops[i]? = some o ∧ ∃ e ∈ o.after.toList, Region.binds .any e = true ∧ e.on < ops.size ∧ listed0.getD e.on true = false ∧ e.on ∉ rem.map (·.1)) := by
    intro i hi hni
    have := hcomp i (List.mem_range.2 hi)
    have hc : (rem.map (·.1)).contains i = false := by
      cases h : (rem.map (·.1)).contains i with
      | false => rfl
      | true => exact absurd (by simpa using h) hni
    rw [hc] at this
    simp only [Bool.false_eq_true, if_false, Bool.and_eq_true, beq_iff_eq, Bool.or_eq_true] at this
    refine ⟨this.1, ?_⟩
    rcases this.2 with (h | h) | h
    · exact .inl (.inl h)
    · exact .inl (.inr fun p hp => List.all_eq_true.1 h p hp)
    · right
      rw [Array.getElem?_eq_getElem hi] at h
      refine ⟨ops[i], Array.getElem?_eq_getElem hi, ?_⟩
      simp only [Array.any_toList.symm, List.any_eq_true, Bool.and_eq_true, decide_eq_true_eq, Bool.not_eq_true'] at h
      obtain ⟨e, he, ⟨⟨h1, h2⟩, h3⟩, h4⟩ := h
      exact ⟨e, he, h1, h2, h3, by simpa using h4⟩
  -- the invariant
  suffices H : ∀ k (listed : Array Bool) (u : Nat → Value) (w : World), listed.size = ops.size → R w → (∀ i, i < ops.size → i ∉ rem.map (·.1) → listed.getD i true = listed0.getD i true) →
      (∀ p ∈ rem, listed.getD p.1 true = true → (∀ k ∈ kill p.1, listed.getD k true = false) → V p.1 (u p.1) w) → (∀ p ∈ rem.map (·.1), listed.getD p true = true → ∀ o, ops[p]? = some o → ∀ e ∈ o.after.toList, Region.binds .any e = true → listed.getD e.on true = true) → openOf listed rem = k → wpAny P .any ops Q (k + n) listed (putAll a0 rem u) w by
    obtain ⟨u, hu⟩ := putAll_self a0 rem hn
    have hopen : openOf listed0 rem = rem.length := by
      unfold openOf
      rw [List.filter_eq_self.2]
      intro p hp
      simp [(hmem p.1 (List.mem_map.2 ⟨p, hp, rfl⟩)).1]
    have h := H rem.length listed0 u w0 hsz hR (fun i hi hni => rfl) (fun p hp hl _ => by
      have := (hmem p.1 (List.mem_map.2 ⟨p, hp, rfl⟩)).1
      rw [this] at hl
      cases hl) (fun p hp hl => by
      rw [(hmem p hp).1] at hl
      cases hl) hopen
    rwa [hu] at h
  intro k
  induction k with
  | zero =>
    intro listed u w hs hRw hout hV hcl hopen
    have hall' : ∀ p ∈ rem, listed.getD p.1 true = true := by
      intro p hp
      simp only [openOf, List.length_eq_zero_iff, List.filter_eq_nil_iff, Bool.not_eq_true', Bool.not_eq_false] at hopen
      exact hopen p hp
    have hl : listed = listed1 := by
      apply Array.ext
      · rw [hs, hsz1]
      · intro i h1 h2
        have : listed.getD i true = listed1.getD i true := by
          by_cases hr : i ∈ rem.map (·.1)
          · rw [hone i hr]
            obtain ⟨p, hp, rfl⟩ := List.mem_map.1 hr
            exact hall' p hp
          · rw [hout i (by omega) hr, (hrest i (by omega) hr).1]
        simpa [Array.getD, h1, h2] using this
    rw [hl, Nat.zero_add]
    exact done u w hRw (fun p hp hk => hV p hp (hall' p hp) (fun k h => by rw [hk] at h; cases h))
  | succ k ih =>
    intro listed u w hs hRw hout hV hcl hopen
    rw [Nat.add_right_comm]
    -- one of the list is not yet listed: none of the others is ready
    have hsome : ∃ p ∈ rem, listed.getD p.1 true = false := by
      have : (rem.filter fun p => !listed.getD p.1 true) ≠ [] := by
        intro h
        simp only [openOf, h, List.length_nil] at hopen
        omega
      obtain ⟨p, hp⟩ := List.exists_mem_of_ne_nil _ this
      obtain ⟨h1, h2⟩ := List.mem_filter.1 hp
      exact ⟨p, h1, by simpa using h2⟩
    have hno : ∀ i, i ∈ Region.ready .any ops listed → i ∈ rem.map (·.1) := by
      intro i hi
      obtain ⟨hi1, hi2⟩ := List.mem_filter.1 hi
      have hilt := List.mem_range.1 hi1
      simp only [Bool.and_eq_true] at hi2
      have hil : listed.getD i true = false := by simpa using hi2.1
      by_cases hr : i ∈ rem.map (·.1)
      · exact hr
      · exfalso
        obtain ⟨h1, h2⟩ := hrest i hilt hr
        rw [hout i hilt hr] at hil
        rcases h2 with (h2 | h2) | h2
        · rw [h2] at hil; cases hil
        rotate_left
        · obtain ⟨o, ho, e, he, hb, hsz2, hl0, hnr⟩ := h2
          have h3 := hi2.2
          rw [ho] at h3
          simp only [Option.map_some, Option.getD_some, Array.all_eq_true_iff_forall_mem] at h3
          have := h3 e (by simpa using he)
          rw [hb] at this
          simp only [Bool.not_true, Bool.false_or] at this
          have hlt : e.on < listed.size := by rw [hs]; exact hsz2
          have e1 : listed.getD e.on false = listed.getD e.on true := by simp only [Array.getD, hlt, dif_pos]
          rw [e1, hout e.on hsz2 hnr, hl0] at this
          cases this
        · obtain ⟨p, hp, hpl⟩ := hsome
          have := reach_listed hcl _ i (ready_deps hi2.2) p.1 (h2 p hp)
          rw [hpl] at this
          cases this
    constructor
    · intro hnil
      -- the least one that is not listed is ready
      exfalso
      have key : ∀ i, i < ops.size → i ∈ rem.map (·.1) → listed.getD i true = true := by
        intro i
        induction i using Nat.strongRecOn with
        | _ i ihi =>
          intro hi hr
          obtain ⟨p, hp, rfl⟩ := List.mem_map.1 hr
          have h1 := hall p hp
          cases hl : listed.getD p.1 true with
          | true => rfl
          | false =>
            exfalso
            have hready : p.1 ∈ Region.ready .any ops listed := by
              refine List.mem_filter.2 ⟨List.mem_range.2 hi, ?_⟩
              rw [Array.getElem?_eq_getElem hi] at h1 ⊢
              simp only [Bool.and_eq_true, beq_iff_eq] at h1
              simp only [hl, Bool.not_false, Option.map_some, Option.getD_some, Bool.true_and]
              rw [Array.all_eq_true_iff_forall_mem] at h1 ⊢
              intro e he
              have := h1.2 e he
              cases hb : Region.binds .any e with
              | false => rfl
              | true =>
                rw [hb] at this
                simp only [Bool.not_true, Bool.false_or, Bool.and_eq_true, decide_eq_true_eq, Bool.or_eq_true] at this
                have hlt : e.on < listed.size := by rw [hs]; omega
                have hh : listed.getD e.on true = true := by
                  rcases this.2 with h | h
                  · exact ihi e.on this.1 (by omega) (by simpa using h)
                  · by_cases hr' : e.on ∈ rem.map (·.1)
                    · exact ihi e.on this.1 (by omega) hr'
                    · rw [hout e.on (by omega) hr']; exact h
                simp only [Array.getD, hlt, dif_pos] at hh ⊢
                simpa using hh
            rw [hnil] at hready
            cases hready
      obtain ⟨p, hp, hpl⟩ := hsome
      have := key p.1 (hmem p.1 (List.mem_map.2 ⟨p, hp, rfl⟩)).2 (List.mem_map.2 ⟨p, hp, rfl⟩)
      rw [this] at hpl
      cases hpl
    · intro i hi
      have hir := hno i hi
      obtain ⟨hi1, hi2⟩ := List.mem_filter.1 hi
      have hilt := List.mem_range.1 hi1
      simp only [Bool.and_eq_true] at hi2
      have hil : listed.getD i true = false := by simpa using hi2.1
      obtain ⟨p, hp, rfl⟩ := List.mem_map.1 hir
      refine step p hp u w hRw ?_ _ ?_
      · intro j hj
        rw [depsOf, Array.getElem?_eq_getElem hilt] at hj
        obtain ⟨e, he, rfl⟩ := List.mem_map.1 hj
        obtain ⟨he1, he2⟩ := List.mem_filter.1 he
        simp only [Bool.and_eq_true] at he2
        have hjr : e.on ∈ rem.map (·.1) := by simpa using he2.2
        obtain ⟨q, hq, hqe⟩ := List.mem_map.1 hjr
        have hjd : e.on ∈ depsOf ops rem p.1 := by
          rw [depsOf, Array.getElem?_eq_getElem hilt]
          exact List.mem_map.2 ⟨e, he, rfl⟩
        have hkj : ∀ k ∈ kill q.1, listed.getD k true = false := by
          intro k hk
          rw [hqe] at hk
          have h9 := List.all_eq_true.1 (List.all_eq_true.1 (List.all_eq_true.1 hkill p hp) e.on hjd) k hk
          obtain rfl : k = p.1 := by simpa using h9
          exact hil
        rw [← hqe]
        refine hV q hq ?_ hkj
        have h3 := hi2.2
        rw [Array.getElem?_eq_getElem hilt] at h3
        simp only [Option.map_some, Option.getD_some, Array.all_eq_true_iff_forall_mem] at h3
        have := h3 e (by simpa using he1)
        rw [he2.1] at this
        simp only [Bool.not_true, Bool.false_or] at this
        rw [hqe]
        have hlt : e.on < listed.size := by rw [hs, ← hqe]; exact (hmem q.1 (List.mem_map.2 ⟨q, hq, rfl⟩)).2
        simp only [Array.getD, hlt, dif_pos] at this ⊢
        simpa using this
      · intro v w' hv hR' hst
        have hpp : (p.1, p.2) ∈ rem := hp
        rw [putAll_upd a0 p.1 p.2 u v rem hn hdn hpp]
        have hset : ∀ j, (listed.setIfInBounds p.1 true).getD j true = if j = p.1 then true else listed.getD j true := by
          intro j
          simp only [Array.getD_eq_getD_getElem?, Array.getElem?_setIfInBounds]
          by_cases hj : p.1 = j
          · subst hj
            simp
            split <;> simp
          · rw [if_neg hj, if_neg (Ne.symm hj)]
        refine ih _ _ _ (by simpa using hs) hR' ?_ ?_ ?_ ?_
        · intro j hj hjr
          have hjp : ¬ j = p.1 := fun e => hjr (by rw [e]; exact List.mem_map.2 ⟨p, hp, rfl⟩)
          rw [hset, if_neg hjp]
          exact hout j hj hjr
        · intro q hq hql hkq
          rw [hset] at hql
          by_cases he : q.1 = p.1
          · rw [he]
            simpa [upd] using hv
          · rw [if_neg he] at hql
            simp only [upd, if_neg he]
            have hk1 : ∀ k ∈ kill q.1, k ≠ p.1 ∧ listed.getD k true = false := by
              intro k hk
              have h9 := hkq k hk
              rw [hset] at h9
              by_cases hkp : k = p.1
              · rw [if_pos hkp] at h9; cases h9
              · rw [if_neg hkp] at h9; exact ⟨hkp, h9⟩
            refine stab p.1 q.1 _ _ _ ?_ (hV q hq hql fun k hk => (hk1 k hk).2) hst
            unfold keepsV
            simp only [Bool.and_eq_true, decide_eq_true_eq, Bool.not_eq_true']
            refine ⟨⟨⟨Ne.symm he, ?_⟩, List.all_eq_true.2 fun k hk => ?_⟩, ?_⟩
            · cases hc : (kill q.1).contains p.1 with
              | false => rfl
              | true => exact absurd rfl (hk1 p.1 (by simpa using hc)).1
            · cases hc : reachN ops (rem.map (·.1)) (rem.length + 1) p.1 k with
              | false => rfl
              | true =>
                have h5 := reach_listed hcl _ p.1 (ready_deps hi2.2) k hc
                rw [(hk1 k hk).2] at h5
                cases h5
            · cases hc : reachN ops (rem.map (·.1)) (rem.length + 1) q.1 p.1 with
              | false => rfl
              | true =>
                have h5 := reach_listed hcl _ q.1 (hcl q.1 (List.mem_map.2 ⟨q, hq, rfl⟩) hql) p.1 hc
                rw [hil] at h5
                cases h5
        · intro q hq hql o ho e he hb
          rw [hset]
          split
          · rfl
          · rw [hset] at hql
            by_cases hqp : q = p.1
            · subst hqp
              exact ready_deps hi2.2 o ho e he hb
            · rw [if_neg hqp] at hql
              exact hcl q hq hql o ho e he hb
        · have hlt : openOf (listed.setIfInBounds p.1 true) rem + 1 = openOf listed rem := by
            unfold openOf
            have h1 : ∀ (qs : List (Nat × Option Tmp)), (qs.map (·.1)).Nodup → p ∈ qs → (qs.filter fun q => !(listed.setIfInBounds p.1 true).getD q.1 true).length + 1 = (qs.filter fun q => !listed.getD q.1 true).length := by
              intro qs hqn hpq
              have heq : ∀ (rs : List (Nat × Option Tmp)), p.1 ∉ rs.map (·.1) → (rs.filter fun q => !(listed.setIfInBounds p.1 true).getD q.1 true) = (rs.filter fun q => !listed.getD q.1 true) := by
                intro rs hrs
                refine List.filter_congr fun q hq => ?_
                have hne : q.1 ≠ p.1 := fun e => hrs (e ▸ List.mem_map.2 ⟨q, hq, rfl⟩)
                rw [hset, if_neg hne]
              induction qs with
              | nil => cases hpq
              | cons r rs ihr =>
                rcases List.mem_cons.1 hpq with rfl | hpq'
                · have := heq rs (List.nodup_cons.1 hqn).1
                  rw [List.filter_cons, List.filter_cons, this, hset, if_pos rfl, hil]
                  simp
                · have ih2 := ihr (List.nodup_cons.1 hqn).2 hpq'
                  have hne : r.1 ≠ p.1 := by
                    intro e
                    exact (List.nodup_cons.1 hqn).1 (List.mem_map.2 ⟨p, hpq', e.symm⟩)
                  rw [List.filter_cons, List.filter_cons, hset, if_neg hne]
                  split <;> (try simp only [List.length_cons]) <;> omega
            exact h1 rem hn hp
          omega
end
theorem VF.stab1 {f : Nat → Option Value} {g : Nat → Value → World → Prop} {j : Nat} {v : Value} {w w' : World} (h : f j = none → g j v w → g j v w') (hv : VF f g j v w) : VF f g j v w' := by
  unfold VF at hv ⊢
  cases hf : f j with
  | none => rw [hf] at hv; exact h hf hv
  | some c => rw [hf] at hv; exact hv
end Go.Proofs.Ytpapkofildcdiaa
