/-
  A tour, plainly: where a beginning has come to; what may follow; what the rest must cost at least, by rows and columns and by what meets at each city.
    A tour, plainly: the bound is no number below nought and none above the least cost by trying; the beginnings as a tree.
  The document's Reduce, of squares that miss some numbers.
  A tour, plainly: the document's square of what is left costs at least what the kernel reckons; the beginnings as a tree.
  The kernel of a problem's kind, plainly: what may follow, what it costs at least; the search over it.
  What the checker knows of a problem, plainly: a knapsack's order and bound.
  A knapsack in form: what that says.
  bits.Mul64 of small numbers; the program's sizes, products and Cross of small numbers.
    The program's sizes, products and Cross of small numbers.
    The program's Cross of small numbers.
  The closure that tells which of two items stands ahead; the numbers from 0 on.
    The numbers from 0 on; the sort by merging, with whatever order.
  A knapsack's kernel: what New leaves alone of other problems; what a problem in form says.
    A knapsack's kernel as New makes it: its first half, the memory of it.
    A knapsack's kernel as New makes it: what an append and a store do to it.
  A knapsack's kernel: how deep it goes, where a beginning has come to, what may follow.
    A knapsack's kernel: Part; what the rest may bring; Kids.
  A knapsack's kernel: what the rest may bring, Bound, Answer; of no kernel nothing is told.
  The document's great numbers, of two parts: a number's size, a product, which is less, a difference.
    The document's great numbers: products of small numbers.
    The document's Times, of small numbers.
  The document's great numbers with a sign: of small numbers, products.
  The document's great numbers: which is less, and a difference.
  The document's great numbers with a sign: a sum of two of other signs.
  The document's Cmp, of products of small numbers.
  The document's word on which of two items stands ahead.
  The document's ByRatio.
-/
import Derived.Test.YtpapkofildcdiaaCheckTellsP2
import Derived.Lib.VarintBits
namespace Go.Proofs.Ytpapkofildcdiaa

/-- the ways of a beginning; none: it is none -/
def walkT (rows : List (List Int)) (m last : Nat) (cost : Int) : List Int → Option (Nat × Nat × Int)
  | [] => some (m, last, cost)
  | c :: p => if 0 ≤ c ∧ c < 64 ∧ m.testBit c.toNat = true then walkT rows (clrM m c.toNat) c.toNat (cost + costAt rows last c.toNat) p else none
def walkP (rows : List (List Int)) (p : List Int) : Option (Nat × Nat × Int) := if rows.length - 1 < p.length then none else walkT rows (clrM (2 ^ rows.length - 1) 0) 0 0 p
def kidsT (rows : List (List Int)) (p : List Int) : List Int × Int :=
  match walkP rows p with
  | none => ([], 1)
  | some (m, last, _) => (intsN (sortP (ltC (cfR (rows.getD last []))) (memsM m)), 0)
/-- where one may go to from a city -/
def colsT (us : List Nat) (last src : Nat) : List Nat := if src = last then us else 0 :: us.filter fun x => decide (src ≠ x)
def offT (rows : List (List Int)) (us : List Nat) (last src : Nat) : Int := max (leastN (fun dst => costAt rows src dst) (-1) (colsT us last src)) 0
/-- the least that a city may be come to by, beyond what the cities must cost -/
def colT (rows : List (List Int)) (us : List Nat) (last dst : Nat) : Int := leastN (fun src => costAt rows src dst - offT rows us last src) (-1) ((last :: us).filter fun src => decide (dst ∈ colsT us last src))
def reduceT (rows : List (List Int)) (us : List Nat) (last : Nat) : Int := sumL ((last :: us).map fun src => offT rows us last src) + sumL ((0 :: us).map fun dst => max (colT rows us last dst) 0)
/-- one more number beside the two least ones -/
def putP (p : Int × Int) (n : Int) : Int × Int := if n < p.1 then (n, p.1) else if n < p.2 then (p.1, n) else p
def pairT (rows : List (List Int)) (us : List Nat) (last u : Nat) : Int × Int :=
  (us.filter fun x => decide (u ≠ x)).foldl (fun p v => putP p (costAt rows u v)) (min (costAt rows u last) (costAt rows u 0), max (costAt rows u last) (costAt rows u 0))
def endsT (rows : List (List Int)) (us : List Nat) (last : Nat) : Int :=
  sumL (us.map fun u => (pairT rows us last u).1 + (pairT rows us last u).2) + leastN (fun u => costAt rows last u) (-1) us + leastN (fun u => costAt rows u 0) (-1) us
def boundT (rows : List (List Int)) (mirror : Bool) (p : List Int) : Int × Int :=
  match walkP rows p with
  | none => (0, 1)
  | some (m, last, c) => (c + (if memsM m = [] then costAt rows last 0 else if mirror = true then max (reduceT rows (memsM m) last) ((endsT rows (memsM m) last + 1) / 2) else reduceT rows (memsM m) last), 0)
theorem leastN_le {f : Nat → Int} : ∀ {l : List Nat} {b : Int}, (∀ x ∈ l, 0 ≤ f x) → (∀ x ∈ l, leastN f b l ≤ f x) ∧ (0 ≤ b → leastN f b l ≤ b) := fun {l b} h => by
  have h1 := leastL_le (l := l.map f) (b := b) fun y hy => by
    obtain ⟨x, hx, rfl⟩ := List.mem_map.1 hy
    exact h x hx
  rw [leastL_map] at h1
  exact ⟨fun x hx => h1.1 (f x) (List.mem_map.2 ⟨x, hx, rfl⟩), h1.2⟩
theorem leastN_pos {f : Nat → Int} {B : Int} {l : List Nat} (h : ∀ x ∈ l, 0 ≤ f x ∧ f x ≤ B) (hl : l ≠ []) (hB : 0 ≤ B) : 0 ≤ leastN f (-1) l ∧ leastN f (-1) l ≤ B := by
  rw [← leastL_map]
  refine leastL_bd (fun y hy => ?_) (by omega) (.inr (by simpa using hl))
  obtain ⟨x, hx, rfl⟩ := List.mem_map.1 hy
  exact h x hx
section
variable {rows : List (List Int)} {us : List Nat} {last : Nat}
/-- each way of what is left costs no less than its row and its column -/
theorem way_ge {B : Int} (num : ∀ a b, (a = last ∨ a ∈ us) → (b = 0 ∨ b ∈ us) → 0 ≤ costAt rows a b ∧ costAt rows a b ≤ B) {src dst : Nat} (hs : src ∈ last :: us) (hd : dst ∈ colsT us last src) : offT rows us last src + max (colT rows us last dst) 0 ≤ costAt rows src dst := by
  have hcol : ∀ {s d : Nat}, d ∈ colsT us last s → d = 0 ∨ d ∈ us := fun {s d} h => by
    unfold colsT at h
    split at h
    · exact .inr h
    · rcases List.mem_cons.1 h with h | h
      · exact .inl h
      · exact .inr (List.mem_filter.1 h).1
  have hsrc : ∀ {s : Nat}, s ∈ last :: us → s = last ∨ s ∈ us := fun {s} h => List.mem_cons.1 h
  have hoff : ∀ s ∈ last :: us, ∀ d ∈ colsT us last s, offT rows us last s ≤ costAt rows s d ∧ 0 ≤ offT rows us last s := fun s h1 d h2 => by
    have h3 := (leastN_le (f := fun dst => costAt rows s dst) (l := colsT us last s) (b := -1) fun x hx => (num s x (hsrc h1) (hcol hx)).1).1 d h2
    have h4 := (num s d (hsrc h1) (hcol h2)).1
    unfold offT
    omega
  have h1 := hoff src hs dst hd
  have h2 := (leastN_le (f := fun src => costAt rows src dst - offT rows us last src) (l := (last :: us).filter fun src => decide (dst ∈ colsT us last src)) (b := -1) fun x hx => by
    have h3 := List.mem_filter.1 hx
    have h4 := hoff x h3.1 dst (of_decide_eq_true h3.2)
    omega).1 src (List.mem_filter.2 ⟨hs, decide_eq_true hd⟩)
  unfold colT
  omega
/-- the ways of a path, one by one -/
theorem path_ge {F G : Nat → Int} : ∀ (q : List Nat) (s : Nat), (∀ a b, (a, b) ∈ (s :: q).zip (q ++ [0]) → F a + G b ≤ costAt rows a b) → sumL ((s :: q).map F) + sumL ((q ++ [0]).map G) ≤ pathT rows s q
  | [], s, h => by
    have := h s 0 (by simp)
    simp only [List.map_cons, List.map_nil, List.nil_append, sumL, pathT]
    omega
  | u :: q, s, h => by
    have h1 := h s u (by simp)
    have h2 := path_ge q u fun a b hab => h a b (by
      simp only [List.cons_append, List.zip_cons_cons, List.mem_cons]
      exact .inr hab)
    simp only [List.map_cons, List.cons_append, sumL, pathT] at h2 ⊢
    omega
theorem zip_mem : ∀ (q : List Nat) (s a b : Nat), (a, b) ∈ (s :: q).zip (q ++ [0]) → (s :: q).Nodup → a ∈ s :: q ∧ (b = 0 ∨ b ∈ q) ∧ (a = s → q = [] ∨ b ∈ q) ∧ (b ∈ q → a ≠ b ∨ b = 0)
  | [], s, a, b, h, _ => by
    simp at h
    obtain ⟨rfl, rfl⟩ := h
    exact ⟨by simp, .inl rfl, fun _ => .inl rfl, fun h => by cases h⟩
  | u :: q, s, a, b, h, hn => by
    have hn' := List.nodup_cons.1 hn
    simp only [List.cons_append, List.zip_cons_cons, List.mem_cons, Prod.mk.injEq] at h
    rcases h with ⟨rfl, rfl⟩ | h
    · exact ⟨by simp, .inr (by simp), fun _ => .inr (by simp), fun _ => .inl fun e => hn'.1 (by simp [e])⟩
    · have ih := zip_mem q u a b h hn'.2
      refine ⟨List.mem_cons_of_mem _ ih.1, ?_, fun e => ?_, fun hb => ?_⟩
      · rcases ih.2.1 with h | h
        · exact .inl h
        · exact .inr (by simp [h])
      · subst e
        exact absurd ih.1 hn'.1
      · rcases List.mem_cons.1 hb with rfl | hb
        · rcases ih.2.1 with h0 | h0
          · exact .inr h0
          · exact absurd h0 (List.nodup_cons.1 hn'.2).1
        · exact ih.2.2.2 hb
theorem reduceT_le {B : Int} (num : ∀ a b, (a = last ∨ a ∈ us) → (b = 0 ∨ b ∈ us) → 0 ≤ costAt rows a b ∧ costAt rows a b ≤ B) (hn : (last :: us).Nodup) (hu : us ≠ []) (h0 : 0 ∉ us) {q : List Nat} (hq : q.Perm us) : reduceT rows us last ≤ pathT rows last q := by
  have hnq : (last :: q).Nodup := (hq.cons last).nodup_iff.2 hn
  have h := path_ge (rows := rows) (F := fun src => offT rows us last src) (G := fun dst => max (colT rows us last dst) 0) q last fun a b hab => by
    obtain ⟨z1, z2, z3, z4⟩ := zip_mem q last a b hab hnq
    refine way_ge num ((hq.cons last).mem_iff.1 z1) ?_
    unfold colsT
    by_cases e : a = last
    · rw [if_pos e]
      rcases z3 e with h | h
      · exfalso
        rw [h] at hq
        exact hu (List.Perm.eq_nil (hq.symm))
      · exact hq.mem_iff.1 h
    · rw [if_neg e]
      rcases z2 with rfl | h
      · simp
      · refine List.mem_cons_of_mem _ (List.mem_filter.2 ⟨hq.mem_iff.1 h, decide_eq_true ?_⟩)
        rcases z4 h with h' | h'
        · exact h'
        · subst h'
          exact absurd (hq.mem_iff.1 h) h0
  have e1 := sumL_perm (((hq.cons last)).map fun src => offT rows us last src)
  have e2 : sumL ((q ++ [0]).map fun dst => max (colT rows us last dst) 0) = sumL ((0 :: us).map fun dst => max (colT rows us last dst) 0) :=
    sumL_perm (((List.perm_append_comm (l₁ := q) (l₂ := [0])).trans (hq.cons 0)).map _)
  unfold reduceT
  rw [← e1, ← e2]
  exact h
/-- the two least ones of some -/
def Two (p : Int × Int) (l : List Int) : Prop := p.1 ≤ p.2 ∧ (∀ x ∈ l, p.1 ≤ x) ∧ l.Pairwise fun x y => p.1 + p.2 ≤ x + y
theorem Two.put {p : Int × Int} {l : List Int} (h : Two p l) (n : Int) : Two (putP p n) (l ++ [n]) := by
  obtain ⟨h1, h2, h3⟩ := h
  have key : ∀ {q : Int × Int}, q.1 ≤ q.2 → q.1 ≤ p.1 → q.1 ≤ n → q.1 + q.2 ≤ p.1 + p.2 → (∀ x ∈ l, q.1 + q.2 ≤ x + n) → Two q (l ++ [n]) := by
    intro q k1 k2 k3 k4 k5
    refine ⟨k1, fun x hx => ?_, List.pairwise_append.2 ⟨h3.imp fun hxy => by omega, List.pairwise_singleton _ _, fun x hx y hy => ?_⟩⟩
    · rcases List.mem_append.1 hx with hx | hx
      · have := h2 x hx; omega
      · obtain rfl := List.mem_singleton.1 hx; exact k3
    · obtain rfl := List.mem_singleton.1 hy
      exact k5 x hx
  unfold putP
  split
  · exact key (by simp only; omega) (by simp only; omega) (by simp only; omega) (by simp only; omega) fun x hx => by have := h2 x hx; simp only; omega
  · split
    · exact key (by simp only; omega) (by simp only; omega) (by simp only; omega) (by simp only; omega) fun x hx => by have := h2 x hx; simp only; omega
    · exact key (by omega) (by omega) (by omega) (by omega) fun x hx => by have := h2 x hx; omega
theorem two_fold (f : Nat → Int) : ∀ (vs : List Nat) (p : Int × Int) (l : List Int), Two p l → Two (vs.foldl (fun p v => putP p (f v)) p) (l ++ vs.map f)
  | [], p, l, h => by simpa using h
  | v :: vs, p, l, h => by
    have := two_fold f vs (putP p (f v)) (l ++ [f v]) (h.put (f v))
    simpa using this
theorem pairT_two (rows : List (List Int)) (us : List Nat) (last u : Nat) : Two (pairT rows us last u) ([costAt rows u last, costAt rows u 0] ++ (us.filter fun x => decide (u ≠ x)).map fun v => costAt rows u v) := by
  refine two_fold (fun v => costAt rows u v) _ _ _ ⟨by simp only; omega, fun x hx => ?_, ?_⟩
  · simp at hx
    rcases hx with rfl | rfl <;> (simp only; omega)
  · simp only [List.pairwise_cons, List.mem_singleton, forall_eq, List.not_mem_nil, false_imp_iff, implies_true, List.Pairwise.nil, and_true]
    omega
/-- at a city the two that meet cost no less than the two least ones -/
theorem meet_ge {u a b : Nat} (hu : us.Nodup) (ha : a = last ∨ (a ∈ us ∧ u ≠ a)) (hb : b = 0 ∨ (b ∈ us ∧ u ≠ b)) (hab : a ∈ us → b ∈ us → a ≠ b) (hl : last ∉ us) (_ : 0 ∉ us) : (pairT rows us last u).1 + (pairT rows us last u).2 ≤ costAt rows u a + costAt rows u b := by
  obtain ⟨_, _, h3⟩ := pairT_two rows us last u
  rw [List.pairwise_append] at h3
  obtain ⟨k1, k2, k3⟩ := h3
  have m : ∀ {x : Nat}, x ∈ us → u ≠ x → costAt rows u x ∈ (us.filter fun x => decide (u ≠ x)).map fun v => costAt rows u v := fun {x} h1 h2 => List.mem_map.2 ⟨x, List.mem_filter.2 ⟨h1, decide_eq_true h2⟩, rfl⟩
  rcases ha with rfl | ⟨a1, a2⟩
  · rcases hb with rfl | ⟨b1, b2⟩
    · simp only [List.pairwise_cons, List.mem_singleton, forall_eq] at k1
      exact k1.1
    · exact k3 _ (by simp) _ (m b1 b2)
  · rcases hb with rfl | ⟨b1, b2⟩
    · have := k3 (costAt rows u 0) (by simp) _ (m a1 a2)
      omega
    · have hne := hab a1 b1
      rw [List.pairwise_map] at k2
      have hfn : (us.filter fun x => decide (u ≠ x)).Nodup := List.Pairwise.filter _ hu
      obtain ⟨i, hi, ei⟩ := List.mem_iff_getElem.1 (List.mem_filter.2 ⟨a1, decide_eq_true a2⟩ : a ∈ us.filter fun x => decide (u ≠ x))
      obtain ⟨j, hj, ej⟩ := List.mem_iff_getElem.1 (List.mem_filter.2 ⟨b1, decide_eq_true b2⟩ : b ∈ us.filter fun x => decide (u ≠ x))
      rcases Nat.lt_trichotomy i j with h | h | h
      · have := List.pairwise_iff_getElem.1 k2 i j hi hj h
        rw [ei, ej] at this
        exact this
      · subst h
        exact absurd (ei.symm.trans ej) hne
      · have := List.pairwise_iff_getElem.1 k2 j i hj hi h
        rw [ei, ej] at this
        omega
end
end Go.Proofs.Ytpapkofildcdiaa
namespace Go.Proofs.Ytpapkofildcdiaa

section
variable {rows : List (List Int)} {us : List Nat} {last : Nat}
def pairS (rows : List (List Int)) (us : List Nat) (last u : Nat) : Int := (pairT rows us last u).1 + (pairT rows us last u).2
/-- of each three in a row the middle's two least ones cost no more than its two ways -/
def Trip (rows : List (List Int)) (us : List Nat) (last : Nat) : Nat → List Nat → Prop
  | _, [] => True
  | s, [u] => pairS rows us last u ≤ costAt rows s u + costAt rows u 0
  | s, u :: v :: q => pairS rows us last u ≤ costAt rows s u + costAt rows u v ∧ Trip rows us last u (v :: q)
theorem trip_ends : ∀ (q : List Nat) (s u : Nat), Trip rows us last s (u :: q) → sumL ((u :: q).map (pairS rows us last)) + costAt rows s u + costAt rows ((u :: q).getLast (by simp)) 0 ≤ 2 * pathT rows s (u :: q)
  | [], s, u, h => by
    simp only [Trip] at h
    simp only [List.map_cons, List.map_nil, sumL, List.getLast_singleton, pathT]
    omega
  | v :: q, s, u, h => by
    simp only [Trip] at h
    have ih := trip_ends q u v h.2
    have e : (u :: v :: q).getLast (by simp) = (v :: q).getLast (by simp) := List.getLast_cons (by simp)
    rw [e]
    simp only [List.map_cons, sumL, pathT] at ih ⊢
    omega
theorem trip_of (sym : ∀ a b, (a = last ∨ a ∈ us) → (b = last ∨ b ∈ us) → costAt rows a b = costAt rows b a) (hu : us.Nodup) (hl : last ∉ us) (h0 : 0 ∉ us) : ∀ (q : List Nat) (s : Nat), q.Nodup → (∀ x ∈ q, x ∈ us) → s ∉ q → (s = last ∨ s ∈ us) → Trip rows us last s q
  | [], _, _, _, _, _ => trivial
  | [u], s, _, hq, hs, hsl => by
    have huu := hq u (by simp)
    have hne : u ≠ s := fun e => hs (by simp [e])
    have := meet_ge (rows := rows) (us := us) (last := last) (u := u) (a := s) (b := 0) hu (hsl.imp id fun h => ⟨h, hne⟩) (.inl rfl) (fun _ h => absurd h h0) hl h0
    rw [sym u s (.inr huu) hsl] at this
    exact this
  | u :: v :: q, s, hn, hq, hs, hsl => by
    have huu := hq u (by simp)
    have hvv := hq v (by simp)
    have hne : u ≠ s := fun e => hs (by simp [e])
    have hn' := List.nodup_cons.1 hn
    have huv : u ≠ v := fun e => hn'.1 (by simp [e])
    have hsv : s ≠ v := fun e => hs (by simp [e])
    have := meet_ge (rows := rows) (us := us) (last := last) (u := u) (a := s) (b := v) hu (hsl.imp id fun h => ⟨h, hne⟩) (.inr ⟨hvv, huv⟩) (fun _ _ => hsv) hl h0
    rw [sym u s (.inr huu) hsl] at this
    exact ⟨this, trip_of sym hu hl h0 (v :: q) u hn'.2 (fun x hx => hq x (by simp [hx])) hn'.1 (.inr huu)⟩
theorem endsT_le (num : ∀ a b, (a = last ∨ a ∈ us) → (b = 0 ∨ b ∈ us) → 0 ≤ costAt rows a b) (sym : ∀ a b, (a = last ∨ a ∈ us) → (b = last ∨ b ∈ us) → costAt rows a b = costAt rows b a) (hu : us.Nodup) (hl : last ∉ us) (h0 : 0 ∉ us) {q : List Nat} (hq : q.Perm us) (hne : us ≠ []) : endsT rows us last ≤ 2 * pathT rows last q := by
  match q, hq with
  | [], hq => exact absurd (List.Perm.eq_nil hq.symm) hne
  | u :: q, hq =>
    have hsub : ∀ x ∈ u :: q, x ∈ us := fun x hx => hq.mem_iff.1 hx
    have h1 := trip_ends q last u (trip_of sym hu hl h0 (u :: q) last (hq.nodup_iff.2 hu) hsub (fun h => hl (hsub _ h)) (.inl rfl))
    have h2 := (leastN_le (f := fun u => costAt rows last u) (l := us) (b := -1) fun x hx => num last x (.inl rfl) (.inr hx)).1 u (hsub u (by simp))
    have h3 := (leastN_le (f := fun u => costAt rows u 0) (l := us) (b := -1) fun x hx => num x 0 (.inr hx) (.inl rfl)).1 _ (hsub _ (List.getLast_mem (l := u :: q) (by simp)))
    have e := sumL_perm (hq.map (pairS rows us last))
    have e2 : sumL (us.map (pairS rows us last)) = sumL (us.map fun u => (pairT rows us last u).1 + (pairT rows us last u).2) := rfl
    unfold endsT
    rw [← e2, ← e]
    omega
end
/-- where a beginning has come to, and what its ways cost -/
def lastT : Nat → List Int → Nat
  | s, [] => s
  | _, c :: p => lastT c.toNat p
def wayC (rows : List (List Int)) : Nat → List Int → Int
  | _, [] => 0
  | s, c :: p => costAt rows s c.toNat + wayC rows c.toNat p
theorem walkT_eq (rows : List (List Int)) : ∀ (p : List Int) (m last : Nat) (cost : Int), walkT rows m last cost p = (freeM m p).map fun q => (q, lastT last p, cost + wayC rows last p)
  | [], m, last, cost => by simp [walkT, freeM, lastT, wayC]
  | c :: p, m, last, cost => by
    unfold walkT freeM
    split
    · rw [walkT_eq rows p]
      cases freeM (clrM m c.toNat) p with
      | none => rfl
      | some q =>
        simp only [Option.map_some, lastT, wayC, Option.some.injEq, Prod.mk.injEq, true_and]
        omega
    · rfl
theorem lastT_mem : ∀ (l : List Nat) (s : Nat), lastT s (intsN l) = s ∨ lastT s (intsN l) ∈ l
  | [], s => .inl rfl
  | c :: l, s => by
    have ih := lastT_mem l c
    simp only [intsN, List.map_cons, lastT, Int.toNat_natCast] at ih ⊢
    rcases ih with h | h
    · right; rw [h]; simp
    · right; simp [h]
theorem pathT_app (rows : List (List Int)) : ∀ (l q : List Nat) (s : Nat), pathT rows s (l ++ q) = wayC rows s (intsN l) + pathT rows (lastT s (intsN l)) q
  | [], q, s => by simp [wayC, intsN, lastT]
  | c :: l, q, s => by
    have := pathT_app rows l q c
    simp only [List.cons_append, pathT, intsN, List.map_cons, wayC, lastT, Int.toNat_natCast] at this ⊢
    omega
/-- the tour's first city is not among what is left -/
def restM (n : Nat) : Nat := clrM (2 ^ n - 1) 0
theorem restM_sub {n : Nat} (h : n ≤ 24) : SubN n (restM n) := (subN_full h).clr 0
theorem restM_mem {n : Nat} (h : n ≤ 24) {x : Nat} : x ∈ memsM (restM n) ↔ x < n ∧ x ≠ 0 := by
  unfold restM
  rw [clr_mem (subN_full h).1, memsM_full (by omega), List.mem_range]
theorem restM_len {n : Nat} (h1 : 1 ≤ n) (h : n ≤ 24) : (memsM (restM n)).length = n - 1 := by
  have h2 := filter_ne_len (memsM_sorted (2 ^ n - 1)) (i := 0) (by rw [memsM_full (by omega)]; simp; omega)
  rw [← memsM_clr (subN_full h).1, memsM_full (by omega), List.length_range] at h2
  unfold restM
  omega
structure WalkOk (rows : List (List Int)) (p : List Int) (m last : Nat) (cost : Int) (l : List Nat) : Prop where
  eq : p = intsN l
  nodup : l.Nodup
  inn : ∀ x ∈ l, x < rows.length ∧ x ≠ 0
  rest : ∀ x, x ∈ memsM m ↔ (x < rows.length ∧ x ≠ 0) ∧ x ∉ l
  len : (memsM m).length + l.length = rows.length - 1
  sub : SubN rows.length m
  last : last = lastT 0 (intsN l)
  cost : cost = wayC rows 0 (intsN l)
theorem walk_ok {rows : List (List Int)} (h1 : 1 ≤ rows.length) (h24 : rows.length ≤ 24) {p : List Int} {m last : Nat} {cost : Int} (h : walkP rows p = some (m, last, cost)) : ∃ l, WalkOk rows p m last cost l := by
  unfold walkP at h
  split at h
  · cases h
  · rw [walkT_eq] at h
    cases hf : freeM (clrM (2 ^ rows.length - 1) 0) p with
    | none => rw [hf] at h; cases h
    | some q =>
      rw [hf] at h
      simp only [Option.map_some, Option.some.injEq, Prod.mk.injEq] at h
      obtain ⟨rfl, rfl, rfl⟩ := h
      have hs := restM_sub h24
      obtain ⟨l, rfl, a1, a2, a3⟩ := freeM_cols hs hf
      have a4 := freeM_len hs hf
      rw [restM_len h1 h24, intsN_len] at a4
      exact ⟨l, rfl, a1, fun x hx => (restM_mem h24).1 (a2 x hx), fun x => by rw [a3 x, restM_mem h24], a4, freeM_sub hs hf, rfl, by omega⟩
theorem walkT_snoc (rows : List (List Int)) {c : Nat} (hc64 : c < 64) : ∀ {p : List Int} {m0 m s last : Nat} {c0 cost : Int}, walkT rows m0 s c0 p = some (m, last, cost) → m.testBit c = true → walkT rows m0 s c0 (p ++ [(c : Int)]) = some (clrM m c, c, cost + costAt rows last c)
  | [], m0, m, s, last, c0, cost, h, hb => by
    simp only [walkT, Option.some.injEq, Prod.mk.injEq] at h
    obtain ⟨rfl, rfl, rfl⟩ := h
    show walkT rows m0 s c0 ((c : Int) :: []) = _
    unfold walkT
    rw [if_pos ⟨by omega, by omega, by rw [Int.toNat_natCast]; exact hb⟩, Int.toNat_natCast]
    rfl
  | d :: p, m0, m, s, last, c0, cost, h, hb => by
    show walkT rows m0 s c0 (d :: (p ++ [(c : Int)])) = _
    unfold walkT at h ⊢
    split at h
    · rename_i hd
      rw [if_pos hd]
      exact walkT_snoc rows hc64 h hb
    · cases h
theorem walkP_snoc {rows : List (List Int)} (h1 : 1 ≤ rows.length) (h24 : rows.length ≤ 24) {p : List Int} {m last : Nat} {cost : Int} (h : walkP rows p = some (m, last, cost)) {c : Nat} (hc : c ∈ memsM m) : walkP rows (p ++ [(c : Int)]) = some (clrM m c, c, cost + costAt rows last c) := by
  obtain ⟨l, W⟩ := walk_ok h1 h24 h
  have hpos : 0 < (memsM m).length := List.length_pos_of_mem hc
  have hlen := W.len
  have hpl : p.length = l.length := by rw [W.eq, intsN_len]
  have hb := memsM_mem.1 hc
  unfold walkP at h ⊢
  rw [if_neg (by omega)] at h
  rw [if_neg (by rw [List.length_append, List.length_singleton]; omega)]
  exact walkT_snoc rows hb.1 h hb.2
/-- the least cost of all tours that begin so, by trying -/
def bestT (rows : List (List Int)) : Nat → List Int → Int
  | 0, p => pathT rows 0 (p.map Int.toNat)
  | f + 1, p => leastF (fun x => bestT rows f (p ++ [x])) (-1) (match walkP rows p with | none => [] | some (m, _, _) => intsN (memsM m))
theorem toNat_ints : ∀ l : List Nat, (intsN l).map Int.toNat = l
  | [] => rfl
  | c :: l => by
    have := toNat_ints l
    simp only [intsN, List.map_cons, Int.toNat_natCast] at this ⊢
    rw [this]
theorem pathT_pos {rows : List (List Int)} (num : ∀ a b, a < rows.length → b < rows.length → 0 ≤ costAt rows a b) : ∀ (q : List Nat) (s : Nat), s < rows.length → (∀ x ∈ q, x < rows.length) → 0 ≤ pathT rows s q
  | [], s, hs, _ => num s 0 hs (by omega)
  | u :: q, s, hs, h => by
    have h1 := num s u hs (h u (by simp))
    have h2 := pathT_pos num q u (h u (by simp)) fun x hx => h x (by simp [hx])
    simp only [pathT]
    omega
theorem bestT_some {rows : List (List Int)} (h1 : 1 ≤ rows.length) (h24 : rows.length ≤ 24) (num : ∀ a b, a < rows.length → b < rows.length → 0 ≤ costAt rows a b) : ∀ (f : Nat) (p : List Int) (m last : Nat) (cost : Int) (l : List Nat), walkP rows p = some (m, last, cost) → WalkOk rows p m last cost l → f = rows.length - 1 - p.length → ∃ q : List Nat, q.Perm (memsM m) ∧ bestT rows f p = pathT rows 0 (l ++ q)
  | 0, p, m, last, cost, l, hp, W, hf => by
    have hlen := W.len
    have hpl : p.length = l.length := by rw [W.eq, intsN_len]
    refine ⟨[], ?_, by rw [List.append_nil]; show pathT rows 0 (p.map Int.toNat) = _; rw [W.eq, toNat_ints]⟩
    rw [List.eq_nil_of_length_eq_zero (show (memsM m).length = 0 by omega)]
  | f + 1, p, m, last, cost, l, hp, W, hf => by
    have hlen := W.len
    have hpl : p.length = l.length := by rw [W.eq, intsN_len]
    have ih : ∀ c ∈ memsM m, ∃ q : List Nat, q.Perm (memsM (clrM m c)) ∧ bestT rows f (p ++ [(c : Int)]) = pathT rows 0 ((l ++ [c]) ++ q) := fun c hc => by
      have hs := walkP_snoc h1 h24 hp hc
      obtain ⟨l', W'⟩ := walk_ok h1 h24 hs
      have e : l' = l ++ [c] := by
        have := W'.eq
        rw [W.eq] at this
        have h2 := congrArg (List.map Int.toNat) this
        rw [toNat_ints] at h2
        rw [← h2, List.map_append, toNat_ints]
        rfl
      subst e
      exact bestT_some h1 h24 num f _ _ _ _ _ hs W' (by rw [List.length_append, List.length_singleton]; omega)
    have hpos : ∀ x ∈ intsN (memsM m), 0 ≤ bestT rows f (p ++ [x]) := fun x hx => by
      obtain ⟨c, hc, rfl⟩ := List.mem_map.1 hx
      obtain ⟨q, a1, a2⟩ := ih c hc
      rw [a2]
      refine pathT_pos num _ _ (by omega) fun y hy => ?_
      rcases List.mem_append.1 hy with hy | hy
      · rcases List.mem_append.1 hy with hy | hy
        · exact (W.inn y hy).1
        · obtain rfl := List.mem_singleton.1 hy
          exact ((W.rest y).1 hc).1.1
      · exact ((W.rest y).1 ((clr_mem W.sub.1).1 (a1.mem_iff.1 hy)).1).1.1
    have hne : memsM m ≠ [] := by
      intro e
      rw [e] at hlen
      simp at hlen
      omega
    have e : bestT rows (f + 1) p = leastF (fun x => bestT rows f (p ++ [x])) (-1) (intsN (memsM m)) := by
      show leastF _ (-1) (match walkP rows p with | none => [] | some (m, _, _) => intsN (memsM m)) = _
      rw [hp]
    rcases leastF_in (b := -1) hpos (.inr (by simpa [intsN] using hne)) with ⟨_, h⟩ | ⟨x, hx, h⟩
    · omega
    · obtain ⟨c, hc, rfl⟩ := List.mem_map.1 hx
      obtain ⟨q, a1, a2⟩ := ih c hc
      refine ⟨c :: q, ?_, ?_⟩
      · refine (a1.cons c).trans ?_
        refine (List.perm_ext_iff_of_nodup ?_ ((memsM_sorted m).imp fun h => Nat.ne_of_lt h)).2 fun x => ?_
        · refine List.nodup_cons.2 ⟨fun h => ((clr_mem W.sub.1).1 h).2 rfl, (memsM_sorted _).imp fun h => Nat.ne_of_lt h⟩
        · rw [List.mem_cons, clr_mem W.sub.1]
          constructor
          · rintro (rfl | ⟨h, _⟩)
            · exact hc
            · exact h
          · intro h
            by_cases e : x = c
            · exact .inl e
            · exact .inr ⟨h, e⟩
      · rw [e, h, a2]
        simp
/-- a bound is no number below nought, and none above the least cost -/
theorem boundT_below {rows : List (List Int)} {mirror : Bool} (h1 : 1 ≤ rows.length) (h24 : rows.length ≤ 24) (num : ∀ a b, a < rows.length → b < rows.length → 0 ≤ costAt rows a b ∧ costAt rows a b ≤ 2147483647) (sym : mirror = true → ∀ a b, a < rows.length → b < rows.length → costAt rows a b = costAt rows b a) {p : List Int} {m last : Nat} {cost : Int} (hp : walkP rows p = some (m, last, cost)) :
    0 ≤ (boundT rows mirror p).1 ∧ (boundT rows mirror p).1 ≤ bestT rows (rows.length - 1 - p.length) p ∧ (boundT rows mirror p).2 = 0 := by
  obtain ⟨l, W⟩ := walk_ok h1 h24 hp
  obtain ⟨q, a1, a2⟩ := bestT_some h1 h24 (fun a b x y => (num a b x y).1) _ p m last cost l hp W rfl
  have hll : last < rows.length := by
    rw [W.last]
    rcases lastT_mem l 0 with h | h
    · rw [h]; omega
    · exact (W.inn _ h).1
  have hus : ∀ x ∈ memsM m, x < rows.length := fun x hx => ((W.rest x).1 hx).1.1
  have h0 : 0 ∉ memsM m := fun h => ((W.rest 0).1 h).1.2 rfl
  have hnl : last ∉ memsM m := fun h => by
    have h2 := (W.rest last).1 h
    rcases lastT_mem l 0 with h3 | h3
    · exact h2.1.2 (by rw [W.last, h3])
    · exact h2.2 (by rw [W.last]; exact h3)
  have hnd : (memsM m).Nodup := (memsM_sorted m).imp fun h => Nat.ne_of_lt h
  have hA : ∀ a, (a = last ∨ a ∈ memsM m) → a < rows.length := fun a h => h.elim (fun e => by rw [e]; exact hll) (hus a)
  have num' : ∀ a b, (a = last ∨ a ∈ memsM m) → (b = 0 ∨ b ∈ memsM m) → 0 ≤ costAt rows a b ∧ costAt rows a b ≤ 2147483647 := fun a b ha hb => num a b (hA a ha) (hb.elim (fun e => by omega) (hus b))
  have hway : 0 ≤ cost := by
    rw [W.cost]
    have key : ∀ (l : List Nat) (s : Nat), s < rows.length → (∀ x ∈ l, x < rows.length) → 0 ≤ wayC rows s (intsN l) := by
      intro l
      induction l with
      | nil => intro s _ _; simp [wayC, intsN]
      | cons c l ih =>
        intro s hs h
        have h2 := (num s c hs (h c (by simp))).1
        have h3 := ih c (h c (by simp)) fun x hx => h x (by simp [hx])
        simp only [intsN, List.map_cons, wayC, Int.toNat_natCast] at h3 ⊢
        omega
    exact key l 0 (by omega) fun x hx => (W.inn x hx).1
  have hb : boundT rows mirror p = (cost + (if memsM m = [] then costAt rows last 0 else if mirror = true then max (reduceT rows (memsM m) last) ((endsT rows (memsM m) last + 1) / 2) else reduceT rows (memsM m) last), 0) := by unfold boundT; rw [hp]
  rw [hb, a2, pathT_app, ← W.last, ← W.cost]
  simp only
  by_cases he : memsM m = []
  · rw [if_pos he]
    have : q = [] := List.Perm.eq_nil (he ▸ a1)
    subst this
    have := (num' last 0 (.inl rfl) (.inl rfl)).1
    exact ⟨by omega, by simp only [pathT]; omega, trivial⟩
  · rw [if_neg he]
    have r1 := reduceT_le num' (List.nodup_cons.2 ⟨hnl, hnd⟩) he h0 a1
    have r0 : 0 ≤ reduceT rows (memsM m) last := by
      have k1 : 0 ≤ sumL ((last :: memsM m).map fun src => offT rows (memsM m) last src) := sumL_pos fun x hx => by
        obtain ⟨y, _, rfl⟩ := List.mem_map.1 hx
        unfold offT
        omega
      have k2 : 0 ≤ sumL ((0 :: memsM m).map fun dst => max (colT rows (memsM m) last dst) 0) := sumL_pos fun x hx => by
        obtain ⟨y, _, rfl⟩ := List.mem_map.1 hx
        omega
      unfold reduceT
      omega
    cases hm : mirror with
    | false => exact ⟨by simp only [if_neg (show ¬ (false = true) by simp)]; omega, by simp only [if_neg (show ¬ (false = true) by simp)]; omega, trivial⟩
    | true =>
      have r2 := endsT_le (fun a b x y => (num' a b x y).1) (fun a b ha hb => sym hm a b (hA a ha) (hA b hb)) hnd hnl h0 a1 he
      simp only [if_true]
      refine ⟨by omega, by omega, trivial⟩
end Go.Proofs.Ytpapkofildcdiaa
namespace Go.Proofs.Ytpapkofildcdiaa
open Go.RowKit Go.ChangeShapes Go.WideShapes Go.ChangeAt Go.Deep

/-- the least one of a row that isn't below nought -/
def leastG : Int → List Int → Int
  | b, [] => b
  | b, x :: l => leastG (if 0 ≤ x ∧ (b < 0 ∨ x < b) then x else b) l
theorem leastG_bd {B : Int} : ∀ {l : List Int} {b : Int}, (∀ x ∈ l, x ≤ B) → b ≤ B → leastG b l ≤ B
  | [], b, _, h => h
  | x :: l, b, h, hb => by
    unfold leastG
    refine leastG_bd (fun y hy => h y (by simp [hy])) ?_
    have := h x (by simp)
    split <;> omega
def colG (c : Nat) (b : Int) : List (List Int) → List Int → Int
  | row :: rows, o :: off => colG c (if 0 ≤ row.getD c 0 ∧ (b < 0 ∨ row.getD c 0 - o < b) then row.getD c 0 - o else b) rows off
  | _, _ => b
theorem colG_bd {c : Nat} {B : Int} : ∀ {rows : List (List Int)} {off : List Int} {b : Int}, (∀ row ∈ rows, row.getD c 0 ≤ B) → (∀ o ∈ off, 0 ≤ o) → b ≤ B → colG c b rows off ≤ B
  | [], off, b, _, _, h => by cases off <;> exact h
  | _ :: _, [], b, _, _, h => h
  | row :: rows, o :: off, b, hr, ho, hb => by
    have h1 := hr row (by simp)
    have h2 := ho o (by simp)
    unfold colG
    refine colG_bd (fun q hq => hr q (by simp [hq])) (fun q hq => ho q (by simp [hq])) ?_
    split <;> omega
def offG (ms : List (List Int)) : List Int := ms.map fun row => max (leastG (-1) row) 0
def rcolG (ms : List (List Int)) (L : Nat) : List Int := (List.range L).map fun c => max (colG c (-1) ms (offG ms)) 0
def rreduceG (ms : List (List Int)) (L : Nat) : Int := sumL (offG ms) + sumL (rcolG ms L)
set_option maxRecDepth 100000 in
set_option maxHeartbeats 8000000 in
theorem rreduceg_any (ms : List (List Int)) (L : Nat) (M : Option Addr) (mc : Nat) (w : World) (hM : RdE 1 RInts w M ms) (hl : ∀ row ∈ ms, row.length = L) (h0 : 0 < L) (hL : L ≤ 24) (hn0 : 0 < ms.length) (hn : ms.length ≤ 24) (num : ∀ row ∈ ms, ∀ x ∈ row, x ≤ 2147483647) :
    Calls Try.prog 51 #[.slice M ms.length mc] w fun e w' => e = .returned (.int .i64 (rreduceG ms L)) ∧ Ext w w' := by
  have LO : (offG ms).length = ms.length := by simp [offG]
  have OB : ∀ x ∈ offG ms, 0 ≤ x ∧ x ≤ 2147483647 := fun x hx => by
    obtain ⟨row, hr, rfl⟩ := List.mem_map.1 hx
    have := leastG_bd (b := -1) (num row hr) (by omega)
    omega
  have OG : ∀ k row, ms[k]? = some row → (offG ms)[k]? = some (max (leastG (-1) row) 0) := fun k row h => by unfold offG; rw [List.getElem?_map, h]; rfl
  have CB : ∀ x ∈ rcolG ms L, 0 ≤ x ∧ x ≤ 2147483647 := fun x hx => by
    obtain ⟨c, hc, rfl⟩ := List.mem_map.1 hx
    have := colG_bd (c := c) (b := -1) (B := 2147483647) (rows := ms) (off := offG ms) (fun row hr => by
      have hcl : c < row.length := by rw [hl row hr]; exact List.mem_range.1 hc
      have e : row.getD c 0 = row[c] := by simp [List.getD, hcl]
      rw [e]
      exact num row hr _ (List.getElem_mem hcl)) (fun o ho => (OB o ho).1) (by omega)
    omega
  have CG : ∀ c, c < L → (rcolG ms L)[c]? = some (max (colG c (-1) ms (offG ms)) 0) := fun c hc => by simp [rcolG, hc]
  have LC : (rcolG ms L).length = L := by simp [rcolG]
  have TOT : Hid (rreduceG ms L = sumL (offG ms) + sumL (rcolG ms L)) := rfl
  generalize rreduceG ms L = tot at *
  have SB := sum_take_bd OB (by omega)
  have SC := sum_take_bd CB (by omega)
  have LZ := lessC_zero (offG ms)
  generalize offG ms = off at *
  generalize rcolG ms L = cols at *
  have START : Hid (Ext w (w.alloc (.cells #[.int .i64 0, .int .i64 0, .int .i64 0, .int .i64 0, .int .i64 0, .int .i64 0, .int .i64 0, .int .i64 0, .int .i64 0, .int .i64 0, .int .i64 0, .int .i64 0, .int .i64 0, .int .i64 0, .int .i64 0, .int .i64 0, .int .i64 0, .int .i64 0, .int .i64 0, .int .i64 0, .int .i64 0, .int .i64 0, .int .i64 0, .int .i64 0, .int .i64 0, .int .i64 0, .int .i64 0, .int .i64 0, .int .i64 0, .int .i64 0] 90)) ∧ Blk (w.alloc (.cells #[.int .i64 0, .int .i64 0, .int .i64 0, .int .i64 0, .int .i64 0, .int .i64 0, .int .i64 0, .int .i64 0, .int .i64 0, .int .i64 0, .int .i64 0, .int .i64 0, .int .i64 0, .int .i64 0, .int .i64 0, .int .i64 0, .int .i64 0, .int .i64 0, .int .i64 0, .int .i64 0, .int .i64 0, .int .i64 0, .int .i64 0, .int .i64 0, .int .i64 0, .int .i64 0, .int .i64 0, .int .i64 0, .int .i64 0, .int .i64 0] 90)) w.heap.size 90 (lessC off 0)) :=
    ⟨(Ext.rf _).alloc _, by rw [LZ]; exact .new rfl⟩
  replace LO := Lib.hid LO
  replace OB := Lib.hid OB
  replace OG := Lib.hid OG
  replace CB := Lib.hid CB
  replace CG := Lib.hid CG
  replace LC := Lib.hid LC
  replace SB := Lib.hid SB
  replace SC := Lib.hid SC
  replace hl := Lib.hid hl
  replace num := Lib.hid num
  replace hM := Lib.hid hM
  clear LZ
  go_enter Try.func51, Try.ntmps51
  go_wp2_with (fail)
  go_loopw [5, 3] (fun v s wr => ∃ k : Nat, v = .int .i64 k ∧ s = .int .i64 (sumL (off.take k)) ∧ k ≤ ms.length ∧ Hid (Ext w wr ∧ Blk wr w.heap.size 90 (lessC off k))) (fun v _ _ => ms.length - (intOf v).toNat)
  case atStart => exact ⟨0, rfl, rfl, by omega, START⟩
  case round =>
    obtain ⟨wo, rfl⟩ : ∃ wo : World, wo = wr := ⟨_, rfl⟩
    obtain ⟨k, rfl, rfl, hk, HH⟩ := hrel
    clear START
    by_cases hlt : k < ms.length
    · obtain ⟨Y, bL⟩ := HH.out
      obtain ⟨mb, mo, D, row, d, rfl, _, cD, er, _, rD, iD, ld, md⟩ := (hM.out.ext Y fun _ _ h => h.ext Y).ints hlt
      have hr := List.mem_of_getElem? er.out
      have eo := OG.out k row er.out
      have ob := OB.out _ (List.mem_of_getElem? eo)
      have hrl : Hid (row.length = L) := hl.out row hr
      have q1 : (k : Int) < (ms.length : Int) := by omega
      obtain ⟨o0, ho⟩ : ∃ o0, Hid (leastG (-1) row = o0) := ⟨_, rfl⟩
      rw [ho.out] at eo ob
      obtain ⟨o, hoo⟩ : ∃ o, Hid (o = max o0 0) := ⟨_, rfl⟩
      rw [← hoo.out] at eo ob
      have SN := sum_take_snoc eo
      have sb1 := SB.out k
      obtain ⟨s, hs⟩ : ∃ s, Hid (s = sumL (off.take k)) := ⟨_, rfl⟩
      rw [← hs.out] at SN sb1 ⊢
      have hnum := Lib.hid (num.out row hr)
      have zD := World.block_lt_of_cell? _ _ cD
      replace SN := Lib.hid SN
      replace eo := Lib.hid eo
      replace Y := Lib.hid Y
      replace bL := Lib.hid bL
      replace rD := Lib.hid rD
      replace iD := Lib.hid iD
      clear er HH hr
      go_wp2_with (fail)
      go_loopw [7, 6] (fun v bv wr => ∃ (j : Nat) (bb : Int), v = .int .i64 j ∧ bv = .int .i64 bb ∧ j ≤ row.length ∧ Hid (leastG bb (row.drop j) = o0) ∧ Hid (Ext wo wr)) (fun v _ _ => row.length - (intOf v).toNat)
      case atStart => exact ⟨0, -1, rfl, rfl, by omega, ho, Ext.rf _⟩
      case round =>
        obtain ⟨wi, rfl⟩ : ∃ wi : World, wi = wr := ⟨_, rfl⟩
        obtain ⟨j, bb, rfl, rfl, hj, HB, YI⟩ := hrel
        have cD' : wi.cell? ⟨mb, mo + k, none⟩ = some (.slice D row.length d) := keepEL YI.out zD cD
        by_cases hjl : j < row.length
        · obtain ⟨rb, ro, x, rfl, _, cx, ex, dx⟩ := (rD.out.ext YI.out).at hjl
          have q2 : (j : Int) < (row.length : Int) := by omega
          have hx := hnum.out x (List.mem_of_getElem? ex.out)
          have HB2 : Hid (leastG (if 0 ≤ x ∧ (bb < 0 ∨ x < bb) then x else bb) (row.drop (j + 1)) = o0) := by
            have h := HB.out
            rw [dx.out] at h
            exact h
          clear HB ex dx hx
          by_cases hx0 : 0 ≤ x
          · by_cases hb0 : bb < 0
            · rw [if_pos ⟨hx0, .inl hb0⟩] at HB2
              go_wp2_with (fail)
              go_roundw
              case rel => exact ⟨j + 1, x, by go_num, rfl, by omega, HB2, YI⟩
              case measure => simp [intOf]; omega
            · by_cases hxb : x < bb
              · rw [if_pos ⟨hx0, .inr hxb⟩] at HB2
                go_wp2_with (fail)
                go_roundw
                case rel => exact ⟨j + 1, x, by go_num, rfl, by omega, HB2, YI⟩
                case measure => simp [intOf]; omega
              · rw [if_neg (by omega)] at HB2
                go_wp2_with (fail)
                go_roundw
                case rel => exact ⟨j + 1, bb, by go_num, rfl, by omega, HB2, YI⟩
                case measure => simp [intOf]; omega
          · rw [if_neg (by omega)] at HB2
            go_wp2_with (fail)
            go_roundw
            case rel => exact ⟨j + 1, bb, by go_num, rfl, by omega, HB2, YI⟩
            case measure => simp [intOf]; omega
        · have q2 : ¬ (j : Int) < (row.length : Int) := by omega
          have hbo : bb = o0 := by
            have h := HB.out
            rw [List.drop_of_length_le (by omega)] at h
            exact h
          obtain rfl := hbo
          have bI := bL.out.ext YI.out
          have fl := bI.free k
          have k30 : (k : Int) < 30 := by omega
          have hw1 : IntKind.i64.wrap (s + o) = s + o := IntWalk.i64_in _ (by omega)
          have NX : Hid (Ext w (wi.setCell ⟨w.heap.size, k, none⟩ (.int .i64 o)) ∧ Blk (wi.setCell ⟨w.heap.size, k, none⟩ (.int .i64 o)) w.heap.size 90 (lessC off (k + 1))) := by
            refine ⟨(Y.out.tr YI.out).setNew (p := ⟨w.heap.size, k, none⟩) (Nat.le_refl _) _, ?_⟩
            rw [← lessC_set (by omega) eo.out]
            exact bI.set k _
          have cl : wi.cell? ⟨w.heap.size, k, none⟩ = some (.int .i64 (if k < k then off.getD k 0 else 0)) := by rw [bI.cell, lessC_at (by omega)]
          clear HB bI ho
          by_cases nb : bb < 0
          · obtain rfl : o = 0 := by rw [hoo.out]; omega
            clear hoo
            go_wp2_with (first | go_quiet (fail) | go_region)
            go_roundw
            case rel => exact ⟨k + 1, by go_num, by rw [SN.out]; first | rfl | (congr 1; omega) | simp, by omega, NX.out⟩
            case measure => simp [intOf]; omega
          · obtain rfl : o = bb := by rw [hoo.out]; omega
            clear hoo
            go_wp2_with (first | go_quiet (fail) | go_region)
            go_roundw
            case rel => exact ⟨k + 1, by go_num, by rw [SN.out], by omega, NX.out⟩
            case measure => simp [intOf]; omega
    · obtain rfl : k = ms.length := by omega
      have q1 : ¬ (ms.length : Int) < (ms.length : Int) := by omega
      have SO : Hid (sumL (off.take ms.length) = sumL off) := by
        have h : sumL (off.take ms.length) = sumL off := by rw [← LO.out, List.take_length]
        exact h
      have so := SB.out ms.length
      rw [SO.out] at so ⊢
      obtain ⟨Y, bL⟩ := HH.out
      replace Y := Lib.hid Y
      replace bL := Lib.hid bL
      have TOT2 : Hid (tot = sumL off + sumL cols) := TOT.out
      obtain ⟨s0, hs0⟩ : ∃ s0, Hid (s0 = sumL off) := ⟨_, rfl⟩
      rw [← hs0.out] at so TOT2 ⊢
      clear HH SO TOT SB
      go_wp2_with (fail)
      go_loopw [8, 3] (fun v s wr => ∃ c : Nat, v = .int .i64 c ∧ s = .int .i64 (s0 + sumL (cols.take c)) ∧ c ≤ L ∧ Hid (Ext wo wr)) (fun v _ _ => L - (intOf v).toNat)
      case atStart => exact ⟨0, rfl, by rw [List.take_zero]; simp [sumL], by omega, Ext.rf _⟩
      case round =>
        obtain ⟨wp, rfl⟩ : ∃ wp : World, wp = wr := ⟨_, rfl⟩
        obtain ⟨c, rfl, rfl, hc, YP⟩ := hrel
        have sc1 := SC.out c
        obtain ⟨mb, mo, D0, row0, d0, rfl, zb, cD0, er0, _, _, _, _, _⟩ := (hM.out.ext (Y.out.tr YP.out) fun _ _ h => h.ext (Y.out.tr YP.out)).ints (r := 0) hn0
        have hl0 : row0.length = L := hl.out row0 (List.mem_of_getElem? er0.out)
        rw [hl0] at cD0
        rw [Nat.add_zero] at cD0
        clear er0 hl0
        by_cases hcl : c < L
        · have q2 : (c : Int) < (L : Int) := by omega
          have ec := CG.out c hcl
          obtain ⟨c0v, hcv⟩ : ∃ cv, Hid (colG c (-1) ms off = cv) := ⟨_, rfl⟩
          rw [hcv.out] at ec
          obtain ⟨cv, hcc⟩ : ∃ cv, Hid (cv = max c0v 0) := ⟨_, rfl⟩
          rw [← hcc.out] at ec
          have cb := CB.out _ (List.mem_of_getElem? ec)
          have SN := sum_take_snoc ec
          obtain ⟨s1, hs1⟩ : ∃ s1, Hid (s1 = sumL (cols.take c)) := ⟨_, rfl⟩
          rw [← hs1.out] at SN sc1 ⊢
          replace SN := Lib.hid SN
          clear ec
          go_wp2_with (fail)
          go_loopw [10, 9] (fun v bv wr => ∃ (k : Nat) (bb : Int), v = .int .i64 k ∧ bv = .int .i64 bb ∧ k ≤ ms.length ∧ Hid (colG c bb (ms.drop k) (off.drop k) = c0v) ∧ Hid (Ext wp wr)) (fun v _ _ => ms.length - (intOf v).toNat)
          case atStart => exact ⟨0, -1, rfl, rfl, by omega, hcv, Ext.rf _⟩
          case round =>
            obtain ⟨wi, rfl⟩ : ∃ wi : World, wi = wr := ⟨_, rfl⟩
            obtain ⟨k, bb, rfl, rfl, hk, HB, YI⟩ := hrel
            by_cases hkl : k < ms.length
            · have YA := (Y.out.tr YP.out).tr YI.out
              obtain ⟨mb', mo', D, row, d, hq, _, cD, er, dr, rD, iD, ld, md⟩ := (hM.out.ext YA fun _ _ h => h.ext YA).ints hkl
              obtain ⟨rfl, rfl⟩ : mb = mb' ∧ mo = mo' := by simpa using hq
              have hr := List.mem_of_getElem? er.out
              have eo := OG.out k row er.out
              have hrl := hl.out row hr
              obtain ⟨rb, ro, x, rfl, _, cx, ex, _⟩ := rD.at (k := c) (by omega)
              have hx := num.out row hr x (List.mem_of_getElem? ex.out)
              have ob := OB.out _ (List.mem_of_getElem? eo)
              obtain ⟨o, ho⟩ : ∃ o, Hid (max (leastG (-1) row) 0 = o) := ⟨_, rfl⟩
              rw [ho.out] at eo ob
              have dof : off.drop k = o :: off.drop (k + 1) := by
                have hkl2 : k < off.length := by rw [LO.out]; exact hkl
                rw [List.drop_eq_getElem_cons hkl2]
                rw [List.getElem?_eq_getElem hkl2] at eo
                rw [Option.some.inj eo]
              have HB2 : Hid (colG c (if 0 ≤ x ∧ (bb < 0 ∨ x - o < bb) then x - o else bb) (ms.drop (k + 1)) (off.drop (k + 1)) = c0v) := by
                have h := HB.out
                rw [dr.out, dof, colG, getD_some ex.out] at h
                exact h
              have cl : wi.cell? ⟨w.heap.size, k, none⟩ = some (.int .i64 o) := by
                rw [((bL.out.ext YP.out).ext YI.out).cell, lessC_at (by omega), if_pos hkl, getD_some eo]
              have q3 : (k : Int) < (ms.length : Int) := by omega
              have q4 : (c : Int) < (row.length : Int) := by omega
              have k30 : (k : Int) < 30 := by omega
              replace hrl := Lib.hid hrl
              clear HB ex er dr eo dof hr hq rD
              by_cases hx0 : 0 ≤ x
              · have t0 : decide (0 ≤ x) = true := decide_eq_true hx0
                have hw2 : IntKind.i64.wrap (x - o) = x - o := IntWalk.i64_in _ (by omega)
                by_cases hb0 : bb < 0
                · rw [if_pos ⟨hx0, .inl hb0⟩] at HB2
                  have t1 : decide (bb < 0) = true := decide_eq_true hb0
                  go_wp2_with (fail)
                  go_quiet (fail)
                  go_wp2_with (fail)
                  go_quiet (fail)
                  go_wp2_with (fail)
                  go_roundw
                  case rel => exact ⟨k + 1, x - o, by go_num, rfl, by omega, HB2, YI.out.drewN _⟩
                  case measure => simp [intOf]; omega
                · have t1 : decide (bb < 0) = false := decide_eq_false hb0
                  by_cases hxb : x - o < bb
                  · rw [if_pos ⟨hx0, .inr hxb⟩] at HB2
                    have t2 : decide (x - o < bb) = true := decide_eq_true hxb
                    go_wp2_with (fail)
                    go_quiet (fail)
                    go_wp2_with (fail)
                    go_quiet (fail)
                    go_wp2_with (fail)
                    go_roundw
                    case rel => exact ⟨k + 1, x - o, by go_num, rfl, by omega, HB2, YI.out.drewN _⟩
                    case measure => simp [intOf]; omega
                  · rw [if_neg (by omega)] at HB2
                    have t2 : decide (x - o < bb) = false := decide_eq_false hxb
                    go_wp2_with (fail)
                    go_quiet (fail)
                    go_wp2_with (fail)
                    go_roundw
                    case rel => exact ⟨k + 1, bb, by go_num, rfl, by omega, HB2, YI.out.drewN _⟩
                    case measure => simp [intOf]; omega
              · have t0 : decide (0 ≤ x) = false := decide_eq_false hx0
                rw [if_neg (by omega)] at HB2
                go_wp2_with (fail)
                go_quiet (fail)
                go_wp2_with (fail)
                go_roundw
                case rel => exact ⟨k + 1, bb, by go_num, rfl, by omega, HB2, YI.out.drewN _⟩
                case measure => simp [intOf]; omega
            · have q3 : ¬ (k : Int) < (ms.length : Int) := by omega
              have hbo : bb = c0v := by
                have h := HB.out
                rw [List.drop_of_length_le (by omega)] at h
                exact h
              obtain rfl := hbo
              have hw1 : IntKind.i64.wrap (s0 + s1 + cv) = s0 + s1 + cv := IntWalk.i64_in _ (by omega)
              clear HB hcv
              by_cases nb : bb < 0
              · obtain rfl : cv = 0 := by rw [hcc.out]; omega
                clear hcc
                go_wp2_with (fail)
                go_roundw
                case rel => exact ⟨c + 1, by go_num, by rw [SN.out]; first | (rw [Int.add_zero]) | rfl | simp, by omega, YP.out.tr YI.out⟩
                case measure => simp [intOf]; omega
              · obtain rfl : cv = bb := by rw [hcc.out]; omega
                clear hcc
                go_wp2_with (fail)
                go_roundw
                case rel => exact ⟨c + 1, by go_num, by rw [SN.out, Int.add_assoc], by omega, YP.out.tr YI.out⟩
                case measure => simp [intOf]; omega
        · obtain rfl : c = L := by omega
          have q2 : ¬ (c : Int) < (c : Int) := by omega
          have FIN : Hid (s0 + sumL (cols.take c) = tot) := by
            have h : s0 + sumL (cols.take c) = tot := by rw [TOT2.out, ← LC.out, List.take_length]
            exact h
          go_wp2_with (fail)
          go_ret
          exact ⟨ret_i FIN.out, Y.out.tr YP.out⟩
end Go.Proofs.Ytpapkofildcdiaa
namespace Go.Proofs.Ytpapkofildcdiaa

theorem leastN_mem {f : Nat → Int} : ∀ {l : List Nat} {b : Int}, (∀ x ∈ l, 0 ≤ f x) → (0 ≤ b ∨ l ≠ []) → (leastN f b l = b ∧ 0 ≤ b) ∨ ∃ x ∈ l, leastN f b l = f x
  | [], b, _, h => by
    rcases h with h | h
    · exact .inl ⟨rfl, h⟩
    · exact absurd rfl h
  | x :: l, b, h, _ => by
    have hx := h x (by simp)
    have ih := leastN_mem (f := f) (l := l) (b := if b < 0 then f x else if f x < b then f x else b) (fun y hy => h y (by simp [hy])) (.inl (by split <;> (try split) <;> omega))
    have e : leastN f b (x :: l) = leastN f (if b < 0 then f x else if f x < b then f x else b) l := rfl
    rw [e]
    rcases ih with ⟨e, _⟩ | ⟨y, hy, e⟩
    · rw [e]
      split
      · exact .inr ⟨x, by simp, rfl⟩
      · split
        · exact .inr ⟨x, by simp, rfl⟩
        · exact .inl ⟨rfl, by omega⟩
    · exact .inr ⟨y, by simp [hy], e⟩
theorem leastN_perm {f : Nat → Int} {l l' : List Nat} (hp : l.Perm l') (h : ∀ x ∈ l, 0 ≤ f x) : leastN f (-1) l = leastN f (-1) l' := by
  by_cases hl : l = []
  · subst hl
    rw [List.Perm.eq_nil hp.symm]
  · have h' : ∀ x ∈ l', 0 ≤ f x := fun x hx => h x (hp.mem_iff.2 hx)
    have hl' : l' ≠ [] := fun e => hl (List.Perm.eq_nil (e ▸ hp))
    rcases leastN_mem h (b := -1) (.inr hl) with ⟨_, h1⟩ | ⟨x, hx, h1⟩
    · omega
    · rcases leastN_mem h' (b := -1) (.inr hl') with ⟨_, h2⟩ | ⟨y, hy, h2⟩
      · omega
      · have a1 := (leastN_le (b := -1) h).1 y (hp.mem_iff.2 hy)
        have a2 := (leastN_le (b := -1) h').1 x (hp.mem_iff.1 hx)
        omega
theorem leastN_congr {f g : Nat → Int} : ∀ {l : List Nat} {b : Int}, (∀ x ∈ l, f x = g x) → leastN f b l = leastN g b l
  | [], _, _ => rfl
  | x :: l, b, h => by
    show leastN f (if b < 0 then f x else if f x < b then f x else b) l = leastN g (if b < 0 then g x else if g x < b then g x else b) l
    rw [h x (by simp)]
    exact leastN_congr fun y hy => h y (by simp [hy])
theorem leastG_map (f : Nat → Int) : ∀ (l : List Nat) (b : Int), leastG b (l.map f) = leastN f b (l.filter fun x => decide (0 ≤ f x))
  | [], b => rfl
  | x :: l, b => by
    show leastG (if 0 ≤ f x ∧ (b < 0 ∨ f x < b) then f x else b) (l.map f) = _
    rw [leastG_map f l]
    by_cases h : 0 ≤ f x
    · rw [List.filter_cons_of_pos (by simpa using h)]
      show _ = leastN f (if b < 0 then f x else if f x < b then f x else b) _
      congr 1
      split <;> split <;> (try split) <;> omega
    · rw [List.filter_cons_of_neg (by simpa using h), if_neg (fun h2 => h h2.1)]
theorem colG_map (r : Nat → List Int) (o : Nat → Int) (c : Nat) : ∀ (S : List Nat) (b : Int), colG c b (S.map r) (S.map o) = leastN (fun s => (r s).getD c 0 - o s) b (S.filter fun s => decide (0 ≤ (r s).getD c 0))
  | [], b => rfl
  | s :: S, b => by
    simp only [List.map_cons, colG]
    rw [colG_map r o c S]
    by_cases h : 0 ≤ (r s).getD c 0
    · rw [List.filter_cons_of_pos (by simpa using h)]
      show _ = leastN _ (if b < 0 then (r s).getD c 0 - o s else if (r s).getD c 0 - o s < b then (r s).getD c 0 - o s else b) _
      congr 1
      split <;> split <;> (try split) <;> omega
    · rw [List.filter_cons_of_neg (by simpa using h), if_neg (fun h2 => h h2.1)]
section
variable {rows : List (List Int)} {us : List Nat} {last : Nat}
/-- the document's square -/
def entT (rows : List (List Int)) (us : List Nat) (last src dst : Nat) : Int := if dst ∈ colsT us last src then costAt rows src dst else -1
def matT (rows : List (List Int)) (us : List Nat) (last : Nat) : List (List Int) := (last :: us).map fun src => (us ++ [0]).map fun dst => entT rows us last src dst
theorem entT_nonneg (num : ∀ a b, (a = last ∨ a ∈ us) → (b = 0 ∨ b ∈ us) → 0 ≤ costAt rows a b) {src dst : Nat} (hs : src ∈ last :: us) (hd : dst ∈ us ++ [0]) : decide (0 ≤ entT rows us last src dst) = decide (dst ∈ colsT us last src) := by
  have h := num src dst (List.mem_cons.1 hs) (by
    rcases List.mem_append.1 hd with h | h
    · exact .inr h
    · exact .inl (List.mem_singleton.1 h))
  unfold entT
  by_cases hc : dst ∈ colsT us last src
  · rw [if_pos hc, decide_eq_true hc, decide_eq_true h]
  · rw [if_neg hc, decide_eq_false hc]
    rfl
theorem offG_mat (num : ∀ a b, (a = last ∨ a ∈ us) → (b = 0 ∨ b ∈ us) → 0 ≤ costAt rows a b) (_ : last ∉ us) (h0 : 0 ∉ us) : offG (matT rows us last) = (last :: us).map fun src => offT rows us last src := by
  unfold offG matT
  rw [List.map_map]
  refine List.map_congr_left fun src hs => ?_
  show max (leastG (-1) ((us ++ [0]).map fun dst => entT rows us last src dst)) 0 = offT rows us last src
  have hf : (us ++ [0]).filter (fun x => decide (0 ≤ entT rows us last src x)) = (us ++ [0]).filter fun x => decide (x ∈ colsT us last src) := List.filter_congr fun x hx => entT_nonneg num hs hx
  rw [leastG_map, hf]
  have e1 : leastN (fun dst => entT rows us last src dst) (-1) ((us ++ [0]).filter fun x => decide (x ∈ colsT us last src)) = leastN (fun dst => costAt rows src dst) (-1) ((us ++ [0]).filter fun x => decide (x ∈ colsT us last src)) := leastN_congr fun x hx => by
    unfold entT
    rw [if_pos (of_decide_eq_true (List.mem_filter.1 hx).2)]
  have e2 : ((us ++ [0]).filter fun x => decide (x ∈ colsT us last src)).Perm (colsT us last src) := by
    unfold colsT
    by_cases e : src = last
    · rw [if_pos e, List.filter_append, List.filter_eq_self.2 (fun x hx => decide_eq_true hx), List.filter_cons_of_neg (by simpa using h0)]
      simp
    · rw [if_neg e, List.filter_append]
      have a1 : us.filter (fun x => decide (x ∈ 0 :: us.filter fun x => decide (src ≠ x))) = us.filter fun x => decide (src ≠ x) := List.filter_congr fun x hx => by
        rw [decide_eq_decide, List.mem_cons, List.mem_filter]
        constructor
        · rintro (h | h)
          · subst h; exact absurd hx h0
          · exact of_decide_eq_true h.2
        · exact fun h => .inr ⟨hx, decide_eq_true h⟩
      have a2 : [0].filter (fun x => decide (x ∈ 0 :: us.filter fun x => decide (src ≠ x))) = [0] := by simp
      rw [a1, a2]
      exact List.perm_append_comm (l₂ := [0])
  rw [e1, leastN_perm e2 fun x hx => num src x (List.mem_cons.1 hs) (by
    rcases List.mem_append.1 (List.mem_filter.1 hx).1 with h | h
    · exact .inr h
    · exact .inl (List.mem_singleton.1 h))]
  rfl
theorem getD_map_app {f : Nat → Int} {D : List Nat} {c d : Nat} (h : D[c]? = some d) : (D.map f).getD c 0 = f d := by
  simp [List.getD, h]
theorem reduceG_mat (num : ∀ a b, (a = last ∨ a ∈ us) → (b = 0 ∨ b ∈ us) → 0 ≤ costAt rows a b) (hl : last ∉ us) (h0 : 0 ∉ us) : rreduceG (matT rows us last) (us.length + 1) = reduceT rows us last := by
  have ho := offG_mat num hl h0
  have hc : ∀ (c d : Nat), (us ++ [0])[c]? = some d → colG c (-1) (matT rows us last) (offG (matT rows us last)) = colT rows us last d := fun c d hd => by
    rw [ho]
    unfold matT
    refine Eq.trans (colG_map (fun src => (us ++ [0]).map fun dst => entT rows us last src dst) (fun src => offT rows us last src) c (last :: us) (-1)) ?_
    have hdm := List.mem_of_getElem? hd
    have e1 : (last :: us).filter (fun s => decide (0 ≤ ((us ++ [0]).map fun dst => entT rows us last s dst).getD c 0)) = (last :: us).filter fun s => decide (d ∈ colsT us last s) := List.filter_congr fun s hs => by
      rw [getD_map_app hd]
      exact entT_nonneg num hs hdm
    rw [e1]
    unfold colT
    refine leastN_congr fun s hs => ?_
    rw [getD_map_app hd]
    unfold entT
    rw [if_pos (of_decide_eq_true (List.mem_filter.1 hs).2)]
  unfold rreduceG reduceT
  rw [ho]
  congr 1
  have e2 : rcolG (matT rows us last) (us.length + 1) = (us ++ [0]).map fun dst => max (colT rows us last dst) 0 := by
    have hr : (List.range (us.length + 1)).map (fun c => (us ++ [0]).getD c 0) = us ++ [0] := by
      apply List.ext_getElem
      · simp
      · intro k h1 h2
        rw [List.getElem_map, List.getElem_range]
        simp only [List.getD]
        rw [List.getElem?_eq_getElem h2]
        rfl
    refine Eq.trans ?_ (congrArg (List.map fun dst => max (colT rows us last dst) 0) hr)
    rw [List.map_map]
    unfold rcolG
    refine List.map_congr_left fun c hcr => ?_
    have hk : c < (us ++ [0]).length := by
      have := List.mem_range.1 hcr
      simp only [List.length_append, List.length_singleton]
      exact this
    obtain ⟨d, hd⟩ : ∃ d, (us ++ [0])[c]? = some d := ⟨_, List.getElem?_eq_getElem hk⟩
    have e3 : (us ++ [0]).getD c 0 = d := getD_some hd
    simp only [Function.comp_apply]
    rw [hc c d hd, e3]
  rw [e2]
  exact sumL_perm ((List.perm_append_comm (l₁ := us) (l₂ := [0])).map _)
theorem mat_len : (matT rows us last).length = us.length + 1 := by simp [matT]
theorem mat_row : ∀ row ∈ matT rows us last, row.length = us.length + 1 := fun row h => by
  obtain ⟨s, _, rfl⟩ := List.mem_map.1 h
  simp
theorem mat_num {B : Int} (hB : 0 ≤ B) (num : ∀ a b, (a = last ∨ a ∈ us) → (b = 0 ∨ b ∈ us) → 0 ≤ costAt rows a b ∧ costAt rows a b ≤ B) : ∀ row ∈ matT rows us last, ∀ x ∈ row, -1 ≤ x ∧ x ≤ B := fun row h x hx => by
  obtain ⟨s, hs, rfl⟩ := List.mem_map.1 h
  obtain ⟨d, hd, rfl⟩ := List.mem_map.1 hx
  have h2 := num s d (List.mem_cons.1 hs) (by
    rcases List.mem_append.1 hd with h | h
    · exact .inr h
    · exact .inl (List.mem_singleton.1 h))
  unfold entT
  split <;> omega
end
/-! the beginnings as a tree -/
section
variable {rows : List (List Int)}
theorem kidsT_of {p : List Int} {m last : Nat} {cost : Int} (hp : walkP rows p = some (m, last, cost)) : ∃ l : List Nat, (kidsT rows p).1 = intsN l ∧ l.Perm (memsM m) ∧ (kidsT rows p).2 = 0 := by
  refine ⟨sortP (ltC (cfR (rows.getD last []))) (memsM m), ?_, msortP_perm _ _ _, ?_⟩ <;> (unfold kidsT; rw [hp])
theorem walkP_len (h1 : 1 ≤ rows.length) (h24 : rows.length ≤ 24) {p : List Int} {m last : Nat} {cost : Int} (h : walkP rows p = some (m, last, cost)) : (memsM m).length + p.length = rows.length - 1 := by
  obtain ⟨l, W⟩ := walk_ok h1 h24 h
  have := W.len
  rw [W.eq, intsN_len]
  exact this
theorem walkP_root : walkP rows [] = some (restM rows.length, 0, 0) := by
  unfold walkP
  rw [if_neg (by simp)]
  rfl
end
end Go.Proofs.Ytpapkofildcdiaa
namespace Go.Proofs.Ytpapkofildcdiaa

theorem leastF_le {f : Int → Int} : ∀ {l : List Int} {b : Int}, (∀ x ∈ l, 0 ≤ f x) → (∀ x ∈ l, leastF f b l ≤ f x) ∧ (0 ≤ b → leastF f b l ≤ b)
  | [], b, _ => ⟨(fun x hx => by cases hx), fun _ => Int.le_refl _⟩
  | y :: l, b, h => by
    have hy := h y (by simp)
    have ih := leastF_le (l := l) (b := if b < 0 then f y else if f y < b then f y else b) fun x hx => h x (by simp [hx])
    have hb : 0 ≤ (if b < 0 then f y else if f y < b then f y else b) := by split <;> (try split) <;> omega
    have h2 := ih.2 hb
    refine ⟨fun x hx => ?_, fun h0 => ?_⟩
    · rcases List.mem_cons.1 hx with rfl | hx
      · refine Int.le_trans h2 ?_
        split <;> (try split) <;> omega
      · exact ih.1 x hx
    · refine Int.le_trans h2 ?_
      split <;> (try split) <;> omega
theorem node_of {f : Int → Int} {l : List Int} {v : Int} (h : ∀ x ∈ l, 0 ≤ f x) (hne : l ≠ []) (e : leastF f (-1) l = v) : (∃ n ∈ l, f n = v) ∧ ∀ n ∈ l, v ≤ f n := by
  subst e
  refine ⟨?_, (leastF_le h).1⟩
  rcases leastF_in (b := -1) h (.inr hne) with ⟨_, h0⟩ | ⟨x, hx, h0⟩
  · omega
  · exact ⟨x, hx, h0.symm⟩
theorem node_perm {f : Int → Int} {l l' : List Int} {v : Int} (hp : ∀ x, x ∈ l ↔ x ∈ l') (h : (∃ n ∈ l, f n = v) ∧ ∀ n ∈ l, v ≤ f n) : (∃ n ∈ l', f n = v) ∧ ∀ n ∈ l', v ≤ f n :=
  ⟨by obtain ⟨n, hn, e⟩ := h.1; exact ⟨n, (hp n).1 hn, e⟩, fun n hn => h.2 n ((hp n).2 hn)⟩
/-- a knapsack's -/
theorem krn_knap {cap : Int} {ws vs : List Int} (h0 : 0 ≤ cap) (hw : ∀ x ∈ ws, 0 ≤ x) (hv : ∀ x ∈ vs, 0 ≤ x ∧ x ≤ 2147483647) (hl : ws.length = vs.length) (hf : Falls ws vs) :
    KrnOk ws.length (fun p => (kidsP cap ws vs p).1) (fun p => (boundP cap ws vs p).1) (fun p => ∃ q, stP cap 0 ws vs p = some q) (bestAt cap ws vs) where
  len := fun p ⟨q, h⟩ => by
    rcases Nat.lt_or_ge ws.length p.length with h1 | h1
    · rw [stP_long h1] at h; cases h
    · exact h1
  kid := fun p ⟨⟨r, o⟩, h⟩ hlt n hn => by
    obtain ⟨w, ws', e1⟩ : ∃ w ws', ws.drop p.length = w :: ws' := ⟨_, _, List.drop_eq_getElem_cons hlt⟩
    obtain ⟨v, vs', e2⟩ : ∃ v vs', vs.drop p.length = v :: vs' := ⟨_, _, List.drop_eq_getElem_cons (by omega)⟩
    have hr := (stP_room hw h0 h).1
    unfold kidsP at hn
    rw [h] at hn
    simp only [e1] at hn
    split at hn
    · rename_i hle
      simp at hn
      rcases hn with rfl | rfl
      · exact ⟨_, stP_snoc1 h e1 e2 hle⟩
      · exact ⟨_, stP_snoc0 h e1 e2 hr⟩
    · simp at hn
      subst hn
      exact ⟨_, stP_snoc0 h e1 e2 hr⟩
  leaf := fun p ⟨⟨r, o⟩, h⟩ hpl => by
    have := whole_at h hpl hl
    simp only [this.1, this.2]
  low := fun p ⟨⟨r, o⟩, h⟩ => by
    rcases bound_err cap ws vs p with he | ⟨_, he⟩
    · exact (bound_below h0 hw hv hl hf he).2
    · rw [h] at he; cases he
  node := fun p ⟨⟨r, o⟩, h⟩ hlt => by
    have hr := (stP_room hw h0 h).1
    have ho := (stP_out hv h).1
    have hvn : ∀ x ∈ vs, 0 ≤ x := fun x hx => (hv x hx).1
    have e := leastF_kids h hr hlt hl hvn ho
    obtain ⟨w, ws', e1⟩ : ∃ w ws', ws.drop p.length = w :: ws' := ⟨_, _, List.drop_eq_getElem_cons hlt⟩
    obtain ⟨v, vs', e2⟩ : ∃ v vs', vs.drop p.length = v :: vs' := ⟨_, _, List.drop_eq_getElem_cons (by omega)⟩
    have hvs : ∀ x ∈ v :: vs', 0 ≤ x := fun x hx => hvn x (List.mem_of_mem_drop (e2 ▸ hx))
    refine node_of (fun x hx => ?_) ?_ e
    · unfold kidsP at hx
      rw [h] at hx
      simp only [e1] at hx
      split at hx
      · rename_i hle
        simp at hx
        rcases hx with rfl | rfl
        · rw [bestAt_1 h e1 e2 hle]; exact bestP_nonneg ho fun x hx => hvs x (by simp [hx])
        · rw [bestAt_0 h e1 e2 hr]; exact bestP_nonneg (by have := hvs v (by simp); omega) fun x hx => hvs x (by simp [hx])
      · simp at hx
        subst hx
        rw [bestAt_0 h e1 e2 hr]
        exact bestP_nonneg (by have := hvs v (by simp); omega) fun x hx => hvs x (by simp [hx])
    · unfold kidsP
      rw [h]
      simp only [e1]
      split <;> simp
theorem krn_assign {rows : List (List Int)} (ok : RowsOk rows) :
    KrnOk rows.length (fun p => (kidsA rows p).1) (fun p => (boundA rows p).1) (fun p => ∃ m, freeP rows.length p = some m) (fun p => bestA rows rows.length (rows.length - p.length) p) where
  len := fun p ⟨m, h⟩ => by have := freeP_len ok.n2 h; omega
  kid := fun p ⟨m, h⟩ hlt n hn => by
    obtain ⟨l, e1, e2, _⟩ := kidsA_of h
    rw [e1] at hn
    obtain ⟨c, hc, rfl⟩ := List.mem_map.1 hn
    exact ⟨_, freeP_snoc ok.n2 h (e2.mem_iff.1 hc)⟩
  leaf := fun p ⟨m, h⟩ hpl => by
    have h1 := (bounda_below ok h).2.1
    obtain ⟨l, rfl, hl⟩ := whole_cols ok.n2 h hpl
    show (boundA rows (intsN l)).1 = _
    rw [show rows.length - (intsN l).length = 0 by omega]
    unfold boundA
    rw [h]
    simp only
    rw [if_neg (by omega), Int.add_zero]
    rfl
  low := fun p ⟨m, h⟩ => (bounda_below ok h).2.1
  node := fun p ⟨m, h⟩ hlt => by
    have hlen := freeP_len ok.n2 h
    obtain ⟨l, e1, e2, _⟩ := kidsA_of h
    obtain ⟨f, hf⟩ : ∃ f, rows.length - p.length = f + 1 := ⟨rows.length - p.length - 1, by omega⟩
    have ef : ∀ c : Int, rows.length - (p ++ [c]).length = f := fun c => by simp; omega
    have e : leastF (fun x => bestA rows rows.length f (p ++ [x])) (-1) (intsN (memsM m)) = bestA rows rows.length (rows.length - p.length) p := by
      rw [hf]
      show _ = leastF _ (-1) (match freeP rows.length p with | none => [] | some m => intsN (memsM m))
      rw [h]
    have hpos : ∀ x ∈ intsN (memsM m), 0 ≤ bestA rows rows.length f (p ++ [x]) := fun x hx => by
      obtain ⟨c, hc, rfl⟩ := List.mem_map.1 hx
      have h4 := bounda_below ok (freeP_snoc ok.n2 h hc)
      rw [ef] at h4
      omega
    have hN := node_of hpos (by intro h0; have := congrArg List.length h0; rw [intsN_len] at this; simp at this; rw [this] at hlen; simp at hlen; omega) e
    have hN2 := node_perm (l' := (kidsA rows p).1) (fun x => by
      rw [e1]
      constructor
      · intro hx
        obtain ⟨c, hc, rfl⟩ := List.mem_map.1 hx
        exact List.mem_map.2 ⟨c, e2.mem_iff.2 hc, rfl⟩
      · intro hx
        obtain ⟨c, hc, rfl⟩ := List.mem_map.1 hx
        exact List.mem_map.2 ⟨c, e2.mem_iff.1 hc, rfl⟩) hN
    refine ⟨?_, fun n hn => ?_⟩
    · obtain ⟨n, hn, e⟩ := hN2.1
      exact ⟨n, hn, by rw [ef]; exact e⟩
    · rw [ef]; exact hN2.2 n hn
theorem krn_tour {rows : List (List Int)} {mi : Bool} (ok : RowsOk rows) (num : ∀ a b, a < rows.length → b < rows.length → 0 ≤ costAt rows a b ∧ costAt rows a b ≤ 2147483647) (sym : mi = true → ∀ a b, a < rows.length → b < rows.length → costAt rows a b = costAt rows b a) :
    KrnOk (rows.length - 1) (fun p => (kidsT rows p).1) (fun p => (boundT rows mi p).1) (fun p => ∃ s, walkP rows p = some s) (fun p => bestT rows (rows.length - 1 - p.length) p) where
  len := fun p ⟨s, h⟩ => by have := walkP_len ok.n1 ok.n2 (m := s.1) (last := s.2.1) (cost := s.2.2) h; omega
  kid := fun p ⟨s, h⟩ hlt n hn => by
    obtain ⟨l, e1, e2, _⟩ := kidsT_of (m := s.1) (last := s.2.1) (cost := s.2.2) h
    rw [e1] at hn
    obtain ⟨c, hc, rfl⟩ := List.mem_map.1 hn
    exact ⟨_, walkP_snoc ok.n1 ok.n2 (m := s.1) (last := s.2.1) (cost := s.2.2) h (e2.mem_iff.1 hc)⟩
  leaf := fun p ⟨s, h⟩ hpl => by
    obtain ⟨l, WO⟩ := walk_ok ok.n1 ok.n2 (m := s.1) (last := s.2.1) (cost := s.2.2) h
    have hwl := WO.len
    have hll : l.length = rows.length - 1 := by rw [← hpl, WO.eq, intsN_len]
    have hm0 : memsM s.1 = [] := List.eq_nil_of_length_eq_zero (by omega)
    show (boundT rows mi p).1 = _
    have e1 : bestT rows (rows.length - 1 - p.length) p = pathT rows 0 l := by
      rw [show rows.length - 1 - p.length = 0 by omega]
      show pathT rows 0 (p.map Int.toNat) = _
      rw [WO.eq, toNat_ints]
    rw [e1]
    have e2 := pathT_app rows l [] 0
    rw [List.append_nil] at e2
    unfold boundT
    rw [h, e2]
    obtain ⟨m, last, cost⟩ := s
    simp only at hm0 WO ⊢
    simp only [hm0, if_true]
    rw [WO.cost, WO.last]
    rfl
  low := fun p ⟨s, h⟩ => (boundT_below (mirror := mi) ok.n1 ok.n2 num sym (m := s.1) (last := s.2.1) (cost := s.2.2) h).2.1
  node := fun p ⟨s, h⟩ hlt => by
    have hlen := walkP_len ok.n1 ok.n2 (m := s.1) (last := s.2.1) (cost := s.2.2) h
    obtain ⟨l, e1, e2, _⟩ := kidsT_of (m := s.1) (last := s.2.1) (cost := s.2.2) h
    obtain ⟨f, hf⟩ : ∃ f, rows.length - 1 - p.length = f + 1 := ⟨rows.length - 1 - p.length - 1, by omega⟩
    have ef : ∀ c : Int, rows.length - 1 - (p ++ [c]).length = f := fun c => by simp; omega
    have e : leastF (fun x => bestT rows f (p ++ [x])) (-1) (intsN (memsM s.1)) = bestT rows (rows.length - 1 - p.length) p := by
      rw [hf]
      show _ = leastF _ (-1) (match walkP rows p with | none => [] | some (m, _, _) => intsN (memsM m))
      rw [h]
    have hpos : ∀ x ∈ intsN (memsM s.1), 0 ≤ bestT rows f (p ++ [x]) := fun x hx => by
      obtain ⟨c, hc, rfl⟩ := List.mem_map.1 hx
      have h4 := boundT_below (mirror := mi) ok.n1 ok.n2 num sym (walkP_snoc ok.n1 ok.n2 (m := s.1) (last := s.2.1) (cost := s.2.2) h hc)
      rw [ef] at h4
      omega
    have hN := node_of hpos (by intro h0; have := congrArg List.length h0; rw [intsN_len] at this; simp at this; rw [this] at hlen; simp at hlen; omega) e
    have hN2 := node_perm (l' := (kidsT rows p).1) (fun x => by
      rw [e1]
      constructor
      · intro hx
        obtain ⟨c, hc, rfl⟩ := List.mem_map.1 hx
        exact List.mem_map.2 ⟨c, e2.mem_iff.2 hc, rfl⟩
      · intro hx
        obtain ⟨c, hc, rfl⟩ := List.mem_map.1 hx
        exact List.mem_map.2 ⟨c, e2.mem_iff.1 hc, rfl⟩) hN
    refine ⟨?_, fun n hn => ?_⟩
    · obtain ⟨n, hn, e⟩ := hN2.1
      exact ⟨n, hn, by rw [ef]; exact e⟩
    · rw [ef]; exact hN2.2 n hn
end Go.Proofs.Ytpapkofildcdiaa
namespace Go.Proofs.Ytpapkofildcdiaa

/-! an item is put in behind all that stand ahead of it -/
def posC (lt : Nat → Nat → Bool) (n : Nat) (l : List Nat) : Nat → Nat
  | 0 => 0
  | k + 1 => if lt n (l.getD k 0) = true then posC lt n l k else k + 1
def putC (n : Nat) (l : List Nat) (k : Nat) : List Nat := l.take k ++ n :: l.drop k
def insC (lt : Nat → Nat → Bool) (n : Nat) (l : List Nat) : List Nat := putC n l (posC lt n l l.length)
def ordC (lt : Nat → Nat → Bool) : Nat → List Nat
  | 0 => []
  | n + 1 => insC lt n (ordC lt n)
theorem posC_le (lt : Nat → Nat → Bool) (n : Nat) (l : List Nat) : ∀ k, posC lt n l k ≤ k
  | 0 => Nat.le_refl _
  | k + 1 => by
    unfold posC
    split
    · have := posC_le lt n l k; omega
    · exact Nat.le_refl _
theorem posC_back {lt : Nat → Nat → Bool} {n : Nat} {l : List Nat} : ∀ k j, posC lt n l k ≤ j → j < k → lt n (l.getD j 0) = true
  | 0, j, _, h => by omega
  | k + 1, j, h1, h2 => by
    unfold posC at h1
    split at h1
    · rename_i h
      by_cases hj : j = k
      · subst hj; exact h
      · exact posC_back k j h1 (by omega)
    · omega
theorem posC_at {lt : Nat → Nat → Bool} {n : Nat} {l : List Nat} : ∀ k, 0 < posC lt n l k → lt n (l.getD (posC lt n l k - 1) 0) = false
  | 0, h => by simp [posC] at h
  | k + 1, h => by
    unfold posC at h ⊢
    split
    · rename_i h1
      rw [if_pos h1] at h
      exact posC_at k h
    · rename_i h1
      simpa using h1
theorem putC_perm (n : Nat) (l : List Nat) (k : Nat) : (putC n l k).Perm (n :: l) := by
  unfold putC
  refine List.perm_middle.trans ?_
  rw [List.take_append_drop]
theorem insC_perm (lt : Nat → Nat → Bool) (n : Nat) (l : List Nat) : (insC lt n l).Perm (n :: l) := putC_perm _ _ _
theorem ordC_perm (lt : Nat → Nat → Bool) : ∀ n, (ordC lt n).Perm (List.range n)
  | 0 => List.Perm.refl _
  | n + 1 => by
    refine (insC_perm lt n _).trans ?_
    rw [List.range_succ]
    exact ((ordC_perm lt n).cons n).trans (List.perm_append_comm (l₁ := [n]) (l₂ := List.range n))
theorem ordC_len (lt : Nat → Nat → Bool) (n : Nat) : (ordC lt n).length = n := by rw [(ordC_perm lt n).length_eq, List.length_range]
theorem insC_sorted {lt : Nat → Nat → Bool} (h : Weak lt) {n : Nat} {l : List Nat} (hs : l.Pairwise (strictly lt)) (hn : ∀ x ∈ l, x < n) : (insC lt n l).Pairwise (strictly lt) := by
  have hk := posC_le lt n l l.length
  unfold insC putC
  have front : ∀ x ∈ l.take (posC lt n l l.length), strictly lt x n := fun x hx => by
    obtain ⟨j, hj, rfl⟩ := List.getElem_of_mem hx
    rw [List.length_take] at hj
    rw [List.getElem_take]
    have hp : 0 < posC lt n l l.length := by omega
    have hat := posC_at l.length hp
    have hq : posC lt n l l.length - 1 < l.length := by omega
    rw [List.getD, List.getElem?_eq_getElem hq] at hat
    simp only [Option.getD_some] at hat
    refine .inr ⟨?_, hn _ (List.getElem_mem _)⟩
    by_cases hj2 : j = posC lt n l l.length - 1
    · subst hj2; exact hat
    · have hst := List.pairwise_iff_getElem.1 hs j (posC lt n l l.length - 1) (by omega) hq (by omega)
      cases hc : lt n l[j] with
      | false => rfl
      | true =>
        rcases h.neg n (l[posC lt n l l.length - 1]) _ hc with h3 | h3
        · rw [hat] at h3; cases h3
        · have := strictly.le h hst
          rw [this] at h3; cases h3
  have back : ∀ x ∈ l.drop (posC lt n l l.length), strictly lt n x := fun x hx => by
    obtain ⟨j, hj, rfl⟩ := List.getElem_of_mem hx
    rw [List.length_drop] at hj
    rw [List.getElem_drop]
    have hb := posC_back (lt := lt) (n := n) (l := l) l.length (posC lt n l l.length + j) (by omega) (by omega)
    rw [List.getD, List.getElem?_eq_getElem (show posC lt n l l.length + j < l.length by omega)] at hb
    exact .inl hb
  rw [List.pairwise_append]
  refine ⟨hs.sublist (List.take_sublist _ _), List.pairwise_cons.2 ⟨back, hs.sublist (List.drop_sublist _ _)⟩, fun x hx y hy => ?_⟩
  rcases List.mem_cons.1 hy with rfl | hy
  · exact front x hx
  · exact h.trans (front x hx) (back y hy)
theorem ordC_sorted {lt : Nat → Nat → Bool} (h : Weak lt) : ∀ n, (ordC lt n).Pairwise (strictly lt)
  | 0 => List.Pairwise.nil
  | n + 1 => insC_sorted h (ordC_sorted h n) fun _ hx => List.mem_range.1 ((ordC_perm lt n).mem_iff.1 hx)
/-- it is the order of the problem -/
theorem ordC_ratio {v w : List Int} (hw : ∀ x ∈ w, 0 ≤ x) : ordC (aheadB v w) v.length = ratioP v w :=
  List.Perm.eq_of_pairwise (le := strictly (aheadB v w)) (fun _ _ _ _ h3 h4 => absurd h4 ((aheadB_weak hw).asymm h3)) (ordC_sorted (aheadB_weak hw) _) (ratioP_sorted hw) ((ordC_perm _ _).trans (ratioP_perm v w).symm)
/-! what the rest of a knapsack leaves out, at least -/
def tailC (room : Int) : List Int → List Int → Int
  | w :: ws, v :: vs => if w ≤ room then tailC (room - w) ws vs else v + sumL vs - v * room / w
  | _, _ => 0
theorem tailC_eq : ∀ (ws vs : List Int) (room : Int), ws.length = vs.length → tailC room ws vs = sumL vs - bringsP room ws vs
  | [], [], _, _ => by simp [tailC, bringsP, sumL]
  | [], _ :: _, _, h => by simp at h
  | _ :: _, [], _, h => by simp at h
  | w :: ws, v :: vs, room, h => by
    have ih := tailC_eq ws vs (room - w) (by simpa using h)
    unfold tailC bringsP
    by_cases hw : w ≤ room
    · rw [if_pos hw, if_neg (by omega), ih]
      simp only [sumL]
      omega
    · rw [if_neg hw, if_pos (by omega)]
      rfl
/-- the room that a beginning leaves, and what it leaves out -/
def roomC (cap : Int) : List Int → List Int → Int
  | w :: ws, x :: p => roomC (cap - x * w) ws p
  | _, _ => cap
def outC (out : Int) : List Int → List Int → Int
  | v :: vs, x :: p => outC (out + (1 - x) * v) vs p
  | _, _ => out
theorem st_roomC : ∀ {p ws vs : List Int} {room out r o : Int}, stP room out ws vs p = some (r, o) → roomC room ws p = r ∧ outC out vs p = o
  | [], ws, vs, room, out, r, o, h => by
    have h' : some (room, out) = some (r, o) := by cases ws <;> cases vs <;> exact h
    injection h' with h'
    injection h' with h1 h2
    subst h1 h2
    exact ⟨by cases ws <;> rfl, by cases vs <;> rfl⟩
  | x :: p, [], vs, room, out, r, o, h => by cases vs <;> simp [stP] at h
  | x :: p, w :: ws, [], room, out, r, o, h => by simp [stP] at h
  | x :: p, w :: ws, v :: vs, room, out, r, o, h => by
    unfold stP at h
    unfold roomC outC
    by_cases h1 : x = 1
    · subst h1
      rw [if_pos rfl] at h
      split at h
      · cases h
      · have := st_roomC h
        simpa using this
    · rw [if_neg h1] at h
      by_cases h0 : x = 0
      · subst h0
        rw [if_pos rfl] at h
        split at h
        · cases h
        · have := st_roomC h
          simpa using this
      · rw [if_neg h0] at h; cases h
theorem bound_knapC {cap : Int} {ws vs p : List Int} {r o : Int} (hl : ws.length = vs.length) (h : stP cap 0 ws vs p = some (r, o)) : (boundP cap ws vs p).1 = outC 0 vs p + tailC (roomC cap ws p) (ws.drop p.length) (vs.drop p.length) := by
  obtain ⟨h1, h2⟩ := st_roomC h
  unfold boundP
  rw [h, h1, h2, tailC_eq _ _ _ (by simp [hl])]
  simp only
  omega
/-! rows and columns -/
theorem leastG_L : ∀ (l : List Int) (b : Int), (∀ x ∈ l, 0 ≤ x) → leastG b l = leastL b l
  | [], b, _ => rfl
  | x :: l, b, h => by
    have hx := h x (by simp)
    unfold leastG leastL
    rw [leastG_L l _ fun y hy => h y (by simp [hy])]
    congr 1
    by_cases h1 : b < 0
    · simp [h1, hx]
    · by_cases h2 : x < b
      · simp [h1, h2, hx]
      · simp [h1, h2, hx]
theorem colG_F : ∀ (rows : List (List Int)) (off : List Int) (c : Nat) (b : Int), (∀ row ∈ rows, 0 ≤ row.getD c 0) → colG c b rows off = colF c b rows off
  | [], off, c, b, _ => by cases off <;> rfl
  | _ :: _, [], c, b, _ => rfl
  | row :: rows, o :: off, c, b, h => by
    have hx := h row (by simp)
    unfold colG colF
    rw [colG_F rows off c _ fun y hy => h y (by simp [hy])]
    congr 1
    by_cases h1 : b < 0
    · rw [if_pos ⟨hx, .inl h1⟩, if_pos h1]
    · by_cases h2 : row.getD c 0 - o < b
      · rw [if_pos ⟨hx, .inr h2⟩, if_neg h1, if_pos h2]
      · rw [if_neg (by omega), if_neg h1, if_neg h2]
theorem getD_mem {row : List Int} {c : Nat} (h : c < row.length) : row.getD c 0 ∈ row := by
  rw [List.getD, List.getElem?_eq_getElem h]
  exact List.getElem_mem h
theorem reduceG_P {ms : List (List Int)} {L : Nat} {B : Int} (h0 : 0 < L) (hm : ms ≠ []) (hl : ∀ row ∈ ms, row.length = L) (num : ∀ row ∈ ms, ∀ x ∈ row, 0 ≤ x ∧ x ≤ B) : rreduceG ms L = rreduceP ms L := by
  have hne : ∀ row ∈ ms, row ≠ [] := fun row hr e => by have := hl row hr; rw [e] at this; simp at this; omega
  have hB : 0 ≤ B := by
    obtain ⟨row, hr⟩ := List.exists_mem_of_ne_nil ms hm
    obtain ⟨x, hx⟩ := List.exists_mem_of_ne_nil row (hne row hr)
    have := num row hr x hx
    omega
  have e1 : offG ms = offs ms := by
    unfold offG offs
    refine List.map_congr_left fun row hr => ?_
    rw [leastG_L row (-1) fun x hx => (num row hr x hx).1]
    have := (leastL_bd (b := -1) (num row hr) (by omega) (.inr (hne row hr))).1
    omega
  have e2 : rcolG ms L = rcols ms L := by
    unfold rcolG rcols
    refine List.map_congr_left fun c hc => ?_
    have hcL := List.mem_range.1 hc
    rw [e1, colG_F ms _ c (-1) fun row hr => (num row hr _ (getD_mem (by rw [hl row hr]; exact hcL))).1]
    have := (colF_pos (c := c) (B := B) (rows := ms) (off := offs ms) (b := -1) (fun k x o hx ho => by
      unfold offs at ho
      rw [List.getElem?_map, hx] at ho
      have ho := Option.some.inj ho
      have hr := List.mem_of_getElem? hx
      have g1 := (leastL_le (b := -1) fun y hy => (num x hr y hy).1).1 _ (getD_mem (c := c) (by rw [hl x hr]; exact hcL))
      have g2 := leastL_bd (b := -1) (num x hr) (by omega) (.inr (hne x hr))
      have g3 := num x hr _ (getD_mem (c := c) (by rw [hl x hr]; exact hcL))
      rw [← ho]
      omega) (by simp [offs]) (by omega) (.inr hm)).1
    omega
  unfold rreduceG rreduceP
  rw [e1, e2]
theorem reduceG_sub {rows : List (List Int)} {l : List Nat} {B : Int} (hm : rows ≠ []) (hl : l ≠ []) (num : ∀ row ∈ rows, ∀ c ∈ l, 0 ≤ row.getD c 0 ∧ row.getD c 0 ≤ B) : rreduceG (rows.map fun row => l.map fun c => row.getD c 0) l.length = reduceP rows l := by
  rw [reduceG_P (B := B) (by cases l with
    | nil => exact absurd rfl hl
    | cons a l => simp) (by simpa using hm) (fun row hr => by
      obtain ⟨r, _, rfl⟩ := List.mem_map.1 hr
      simp) (fun row hr x hx => by
      obtain ⟨r, h1, rfl⟩ := List.mem_map.1 hr
      obtain ⟨c, h2, rfl⟩ := List.mem_map.1 hx
      exact num r h1 c h2), rreduce_eq]
/-! what meets at each city -/
def meetC (rows : List (List Int)) (us : List Nat) (last : Nat) (q : List Nat) (st : Int × Int × Int) : Int × Int × Int :=
  q.foldl (fun st u => (st.1 + ((pairT rows us last u).1 + (pairT rows us last u).2), min st.2.1 (costAt rows last u), min st.2.2 (costAt rows u 0))) st
theorem meet_sum (rows : List (List Int)) (us : List Nat) (last : Nat) : ∀ (q : List Nat) (a b c : Int), 0 ≤ b → 0 ≤ c → (∀ u ∈ q, 0 ≤ costAt rows last u ∧ 0 ≤ costAt rows u 0) →
    meetC rows us last q (a, b, c) = (a + sumL (q.map fun u => (pairT rows us last u).1 + (pairT rows us last u).2), leastN (fun u => costAt rows last u) b q, leastN (fun u => costAt rows u 0) c q)
  | [], a, b, c, _, _, _ => by simp [meetC, sumL, leastN]
  | u :: q, a, b, c, hb, hc, h => by
    have hu := h u (by simp)
    have ih := meet_sum rows us last q (a + ((pairT rows us last u).1 + (pairT rows us last u).2)) (min b (costAt rows last u)) (min c (costAt rows u 0)) (by omega) (by omega) fun v hv => h v (by simp [hv])
    have e : meetC rows us last (u :: q) (a, b, c) = meetC rows us last q (a + ((pairT rows us last u).1 + (pairT rows us last u).2), min b (costAt rows last u), min c (costAt rows u 0)) := rfl
    have s1 : ∀ (f : Nat → Int) (d : Int), 0 ≤ d → leastN f d (u :: q) = leastN f (min d (f u)) q := fun f d hd => by
      have e : leastN f d (u :: q) = leastN f (if d < 0 then f u else if f u < d then f u else d) q := rfl
      rw [e]
      congr 1
      rw [if_neg (by omega)]
      split <;> omega
    rw [e, ih, s1 _ _ hb, s1 _ _ hc, List.map_cons, sumL]
    congr 1
    omega
end Go.Proofs.Ytpapkofildcdiaa
namespace Go.Proofs.Ytpapkofildcdiaa
open Go.RowKit Go.ChangeShapes Go.WideShapes Go.ChangeAt Go.Deep

/-- a problem's numbers, each by itself in form -/
def Small31 (xs : List Int) : Prop := ∀ x ∈ xs, 0 ≤ x ∧ x ≤ 2147483647
theorem Small31.get {xs : List Int} (h : Small31 xs) {k : Nat} {x : Int} (hk : xs[k]? = some x) : 0 ≤ x ∧ x ≤ 2147483647 := h x (List.mem_of_getElem? hk)
theorem numP_zero {n : Int} (h : numP n = 0) : 0 ≤ n ∧ n ≤ 2147483647 := by
  unfold numP at h
  split at h
  · cases h
  · split at h
    · cases h
    · omega
theorem firstBad_zero : ∀ {l : List Int}, firstBad l = 0 → ∀ x ∈ l, 0 ≤ x ∧ x ≤ 2147483647
  | [], _, x, hx => by cases hx
  | y :: l, h, x, hx => by
    unfold firstBad at h
    split at h
    · rename_i h0
      rcases List.mem_cons.1 hx with rfl | hx
      · exact numP_zero h0
      · exact firstBad_zero h x hx
    · exact absurd h ‹_›
theorem inter_mem : ∀ {xs ys : List Int}, xs.length = ys.length → (∀ x ∈ xs, x ∈ inter xs ys) ∧ (∀ y ∈ ys, y ∈ inter xs ys)
  | [], [], _ => by simp
  | x :: xs, y :: ys, h => by
    obtain ⟨h1, h2⟩ := inter_mem (xs := xs) (ys := ys) (by simpa using h)
    simp only [inter]
    refine ⟨fun z hz => ?_, fun z hz => ?_⟩
    · rcases List.mem_cons.1 hz with rfl | hz
      · simp
      · simp [h1 z hz]
    · rcases List.mem_cons.1 hz with rfl | hz
      · simp
      · simp [h2 z hz]
  | [], _ :: _, h => by simp at h
  | _ :: _, [], h => by simp at h
structure KnapOk (i : InstP) : Prop where
  n1 : 1 ≤ i.n
  n2 : i.n ≤ 64
  w : (i.weight.length : Int) = i.n
  v : (i.value.length : Int) = i.n
  cap : 0 ≤ i.cap ∧ i.cap ≤ 2147483647
  sw : Small31 i.weight
  sv : Small31 i.value
  cost : i.cost = []
theorem knap_ok {i : InstP} (h : checkP i = 0) (hk : i.kind = 1) : KnapOk i := by
  unfold checkP at h
  by_cases hs : sizeP i.kind i.n = 0
  · rw [if_pos hs] at h
    by_cases hsh : shapeP i = true
    · rw [if_pos hsh, if_pos hk] at h
      unfold shapeP at hsh
      rw [if_pos hk] at hsh
      simp only [Bool.and_eq_true, beq_iff_eq] at hsh
      obtain ⟨⟨h1, h2⟩, h3⟩ := hsh
      unfold sizeP at hs
      rw [if_pos hk] at hs
      have hn : 1 ≤ i.n ∧ i.n ≤ 64 := by
        split at hs
        · cases hs
        · split at hs
          · cases hs
          · omega
      have hl : i.weight.length = i.value.length := by omega
      unfold itemsP at h
      rw [List.take_length, hl, List.take_length] at h
      have hb := firstBad_zero h
      obtain ⟨m1, m2⟩ := inter_mem hl
      exact ⟨hn.1, hn.2, h1, h2, hb _ (by simp), fun x hx => hb x (by simp [m1 x hx]), fun x hx => hb x (by simp [m2 x hx]), List.eq_nil_of_length_eq_zero (by omega)⟩
    · rw [if_neg hsh] at h
      cases h
  · rw [if_neg hs] at h
    exact absurd h hs
end Go.Proofs.Ytpapkofildcdiaa
namespace Go.Proofs.Ytpapkofildcdiaa
open Go.RowKit Go.ChangeShapes Go.WideShapes Go.ChangeAt Go.Deep

theorem u64_and32 (x : Int) (h₀ : 0 ≤ x) (h₁ : x < 18446744073709551616) : bits .and .u64 x 4294967295 = x % 4294967296 := bits_mask .u64 64 (by decide) wraps_u64 32 (by decide) x h₀ h₁
theorem mul_bd {a b : Int} (ha : 0 ≤ a) (ha' : a ≤ 2147483647) (hb : 0 ≤ b) (hb' : b ≤ 2147483647) : 0 ≤ a * b ∧ a * b ≤ 4611686014132420609 := by
  refine ⟨Int.mul_nonneg ha hb, ?_⟩
  have h1 : a * b ≤ 2147483647 * b := Int.mul_le_mul_of_nonneg_right ha' hb
  omega
set_option maxRecDepth 100000 in
theorem mul64_any (a b : Int) (w : World) (ha : 0 ≤ a) (ha' : a ≤ 2147483647) (hb : 0 ≤ b) (hb' : b ≤ 2147483647) :
    Calls Try.prog 64 #[.int .u64 a, .int .u64 b] w fun e w' => e = .returned (.tuple #[.int .u64 0, .int .u64 (a * b)]) ∧ Ext w w' := by
  have ea : Hid (bits BinOp.and IntKind.u64 a 4294967295 = a) := by
    have h := u64_and32 a ha (by omega)
    rw [Int.emod_eq_of_lt ha (by omega)] at h
    exact h
  have eb : Hid (bits BinOp.and IntKind.u64 b 4294967295 = b) := by
    have h := u64_and32 b hb (by omega)
    rw [Int.emod_eq_of_lt hb (by omega)] at h
    exact h
  have da : Hid (a / 4294967296 = 0) := by
    have h : a / 4294967296 = 0 := by omega
    exact h
  have db : Hid (b / 4294967296 = 0) := by
    have h : b / 4294967296 = 0 := by omega
    exact h
  have hm := mul_bd ha ha' hb hb'
  have wm : Hid (IntKind.u64.wrap (a * b) = a * b) := wraps_u64 _ hm.1 (by omega)
  have dm : Hid (∃ q : Int, 0 ≤ q ∧ q < 4294967296 ∧ a * b / 4294967296 = q) := by
    have h : ∃ q : Int, 0 ≤ q ∧ q < 4294967296 ∧ a * b / 4294967296 = q := ⟨_, by omega, by omega, rfl⟩
    exact h
  have w0 : Hid (IntKind.u64.wrap 0 = 0) := by
    have h : IntKind.u64.wrap 0 = 0 := by decide
    exact h
  clear hm
  go_enter Try.func64, Try.ntmps64
  go_wp2
  refine bodyPost_ret (v := .tuple #[.int .u64 0, .int .u64 (a * b)]) ?_ rfl ⟨rfl, Ext.rf _⟩
  obtain ⟨q, hq0, hq1, hq⟩ := dm.out
  have w1 := ea.out
  have w2 := eb.out
  have w3 := da.out
  have w4 := db.out
  have w5 := wm.out
  have w6 := w0.out
  have wq := wraps_u64 q hq0 (by omega)
  have dq : q / 4294967296 = 0 := by omega
  have aq : bits BinOp.and IntKind.u64 q 4294967295 = q := by
    have h := u64_and32 q hq0 (by omega)
    rw [Int.emod_eq_of_lt hq0 hq1] at h
    exact h
  simp only [w1, w2, w3, w4, w5, w6, hq, Int.zero_mul, Int.mul_zero, Int.add_zero, Int.zero_add, wq, dq, aq]
  simp [results, Try.results64, go_sem]
end Go.Proofs.Ytpapkofildcdiaa
namespace Go.Proofs.Ytpapkofildcdiaa
open Go.RowKit Go.ChangeShapes Go.WideShapes Go.ChangeAt Go.Deep

theorem size64_any (a : Int) (w : World) (ha : 0 ≤ a) (ha' : a ≤ 2147483647) :
    Calls Try.prog 65 #[.int .i64 a] w fun e w' => e = .returned (.int .u64 a) ∧ Ext w w' := by
  have wm : IntKind.u64.wrap a = a := wraps_u64 _ ha (by omega)
  go_enter Try.func65, Try.ntmps65
  go_wp2
  go_ret
  exact ⟨rfl, Ext.rf _⟩
/-- a sum of which one part is nought -/
def sgnP (a b : Int) : Int := if a = 0 ∨ b = 0 then 0 else 1
set_option maxRecDepth 100000 in
set_option maxHeartbeats 1000000 in
theorem product_any (a b : Int) (w : World) (ha : 0 ≤ a) (ha' : a ≤ 2147483647) (hb : 0 ≤ b) (hb' : b ≤ 2147483647) :
    Calls Try.prog 61 #[.int .i64 a, .int .i64 b] w fun e w' => e = .returned (.tuple #[.int .i64 (sgnP a b), .agg #[.int .u64 0, .int .u64 (a * b)]]) ∧ Ext w w' := by
  have na : decide (a < 0) = false := by simpa using ha
  have nb : decide (b < 0) = false := by simpa using hb
  have B0 : Hid (Blk (w.alloc (.cells #[.int .u64 0, .int .u64 0] 93)) w.heap.size 93 #[.int .u64 0, .int .u64 0]) := .new rfl
  go_enter Try.func61, Try.ntmps61
  go_wp2_with (fail)
  refine (size64_any a _ ha ha').mono ?_
  rintro e w1 ⟨rfl, x1⟩
  go_wp2_with (fail)
  refine (size64_any b _ hb hb').mono ?_
  rintro e w2 ⟨rfl, x2⟩
  go_wp2_with (fail)
  refine (mul64_any a b _ ha ha' hb hb').mono ?_
  rintro e w3 ⟨rfl, x3⟩
  have X3 : Ext w w3 := Ext.tr (Ext.tr (Ext.tr ((Ext.rf w).alloc _) x1) x2) x3
  have B3 := Lib.hid (((B0.out.ext x1).ext x2).ext x3)
  have X4 := Lib.hid ((X3.setNew (p := ⟨w.heap.size, 0, none⟩) (Nat.le_refl _) (.int .u64 0)).setNew (p := ⟨w.heap.size, 1, none⟩) (Nat.le_refl _) (.int .u64 (a * b)))
  have c0 : w3.cell? ⟨w.heap.size, 0, none⟩ = some (.int .u64 0) := B3.out.cell 0
  have c1 : w3.cell? ⟨w.heap.size, 1, none⟩ = some (.int .u64 0) := B3.out.cell 1
  have f0 := B3.out.free 0
  have f1 := B3.out.free 1
  clear X3
  by_cases a0 : a = 0
  · subst a0
    have e1 : Hid (sgnP 0 b = 0) := rfl
    have e2 : Hid ((0 : Int) * b = 0) := Int.zero_mul b
    have X5 : Hid (Ext w ((w3.setCell ⟨w.heap.size, 0, none⟩ (.int .u64 0)).setCell ⟨w.heap.size, 1, none⟩ (.int .u64 0))) := by
      have h := X4.out
      rw [e2.out] at h
      exact h
    clear X4
    go_wp2
    exact bodyPost_ret (v := .tuple #[.int .i64 0, .agg #[.int .u64 0, .int .u64 0]]) (by simp [results, Try.results61, go_sem, *]) rfl ⟨by rw [e1.out, e2.out], X5.out⟩
  · have a0' : (a == 0) = false := by simpa using a0
    by_cases b0 : b = 0
    · subst b0
      have e1 : Hid (sgnP a 0 = 0) := by
        have h : sgnP a 0 = 0 := by simp [sgnP]
        exact h
      have e2 : Hid (a * (0 : Int) = 0) := Int.mul_zero a
      have X5 : Hid (Ext w ((w3.setCell ⟨w.heap.size, 0, none⟩ (.int .u64 0)).setCell ⟨w.heap.size, 1, none⟩ (.int .u64 0))) := by
        have h := X4.out
        rw [e2.out] at h
        exact h
      clear X4 a0
      go_wp2
      exact bodyPost_ret (v := .tuple #[.int .i64 0, .agg #[.int .u64 0, .int .u64 0]]) (by simp [results, Try.results61, go_sem, *]) rfl ⟨by rw [e1.out, e2.out], X5.out⟩
    · have b0' : (b == 0) = false := by simpa using b0
      have e1 : Hid (sgnP a b = 1) := by
        have h : sgnP a b = 1 := by simp [sgnP, a0, b0]
        exact h
      clear a0 b0
      go_wp2
      exact bodyPost_ret (v := .tuple #[.int .i64 1, .agg #[.int .u64 0, .int .u64 (a * b)]]) (by simp [results, Try.results61, go_sem, *]) rfl ⟨by rw [e1.out], X4.out⟩
/-- which of two sizes is less -/
def ordP (x y : Int) : Int := if x = y then 0 else if x < y then -1 else 1
theorem order_any (x y : Int) (w : World) : Calls Try.prog 62 #[.agg #[.int .u64 0, .int .u64 x], .agg #[.int .u64 0, .int .u64 y]] w fun e w' => e = .returned (.int .i64 (ordP x y)) ∧ Ext w w' := by
  unfold ordP
  by_cases h : x = y
  · subst h
    rw [if_pos rfl]
    go_enter Try.func62, Try.ntmps62
    go_wp2
    go_ret
    exact ⟨rfl, by (repeat (first | assumption | exact Ext.rf _ | apply Ext.drew | apply Ext.drewN | apply Ext.alloc))⟩
  · rw [if_neg h]
    by_cases h1 : x < y
    · rw [if_pos h1]
      have h' : (x == y) = false := by simpa using h
      clear h
      go_enter Try.func62, Try.ntmps62
      go_wp2
      go_ret
      exact ⟨rfl, by (repeat (first | assumption | exact Ext.rf _ | apply Ext.drew | apply Ext.drewN | apply Ext.alloc))⟩
    · rw [if_neg h1]
      have h' : (x == y) = false := by simpa using h
      clear h
      go_enter Try.func62, Try.ntmps62
      go_wp2
      go_ret
      exact ⟨rfl, by (repeat (first | assumption | exact Ext.rf _ | apply Ext.drew | apply Ext.drewN | apply Ext.alloc))⟩
end Go.Proofs.Ytpapkofildcdiaa
namespace Go.Proofs.Ytpapkofildcdiaa
open Go.RowKit Go.ChangeShapes Go.WideShapes Go.ChangeAt Go.Deep

theorem sgnP_cases (a b : Int) : sgnP a b = 0 ∨ sgnP a b = 1 := by unfold sgnP; split <;> simp
def crossP (a b c d : Int) : Int := if sgnP a b < sgnP c d then -1 else if sgnP c d < sgnP a b then 1 else sgnP a b * ordP (a * b) (c * d)
set_option maxRecDepth 100000 in
set_option maxHeartbeats 1000000 in
theorem cross_any (a b c d : Int) (w : World) (ha : 0 ≤ a ∧ a ≤ 2147483647) (hb : 0 ≤ b ∧ b ≤ 2147483647) (hc : 0 ≤ c ∧ c ≤ 2147483647) (hd : 0 ≤ d ∧ d ≤ 2147483647) :
    Calls Try.prog 59 #[.int .i64 a, .int .i64 b, .int .i64 c, .int .i64 d] w fun e w' => e = .returned (.int .i64 (crossP a b c d)) ∧ Ext w w' := by
  have s1 := sgnP_cases a b
  have s2 := sgnP_cases c d
  have HC : Hid (crossP a b c d = if sgnP a b < sgnP c d then -1 else if sgnP c d < sgnP a b then 1 else sgnP a b * ordP (a * b) (c * d)) := rfl
  have HO : -1 ≤ ordP (a * b) (c * d) ∧ ordP (a * b) (c * d) ≤ 1 := by unfold ordP; split <;> (try split) <;> omega
  have P1 := product_any a b
  have P2 := product_any c d
  have M1 := mul_bd ha.1 ha.2 hb.1 hb.2
  have M2 := mul_bd hc.1 hc.2 hd.1 hd.2
  generalize crossP a b c d = res at *
  generalize sgnP a b = s at *
  generalize sgnP c d = t at *
  generalize a * b = p at *
  generalize c * d = q at *
  replace P1 := Lib.hid P1
  replace P2 := Lib.hid P2
  have O1 := Lib.hid (order_any p q)
  generalize ordP p q = r at *
  go_enter Try.func59, Try.ntmps59
  go_wp2_with (fail)
  refine (P1.out _ ha.1 ha.2 hb.1 hb.2).mono ?_
  rintro e w1 ⟨rfl, x1⟩
  go_wp2_with (fail)
  refine (P2.out _ hc.1 hc.2 hd.1 hd.2).mono ?_
  rintro e w2 ⟨rfl, x2⟩
  have B1 : Blk (w1.alloc (.cells #[.int .u64 0, .int .u64 p] 93)) w1.heap.size 93 #[.int .u64 0, .int .u64 p] := .new rfl
  have B2 := Lib.hid (B1.ext x2)
  have c0 : w2.cell? ⟨w1.heap.size, 0, none⟩ = some (.int .u64 0) := B2.out.cell 0
  have c1 : w2.cell? ⟨w1.heap.size, 1, none⟩ = some (.int .u64 p) := B2.out.cell 1
  have lt1 : w1.heap.size < w2.heap.size := B2.out.lt
  have X2 : Ext w w2 := Ext.tr (Ext.tr x1 ((Ext.rf _).alloc _)) x2
  clear B1
  rcases s1 with rfl | rfl
  · rcases s2 with rfl | rfl
    · go_wp2_with (fail)
      refine (O1.out _).mono ?_
      rintro e w3 ⟨rfl, x3⟩
      go_wp2
      go_ret
      exact ⟨ret_i (by rw [HC.out]; simp), Ext.tr (a := w) (by (repeat (first | assumption | exact Ext.rf _ | apply Ext.drew | apply Ext.drewN | apply Ext.alloc))) x3⟩
    · go_wp2_with (fail)
      go_ret
      exact ⟨ret_i (by rw [HC.out]; simp), by (repeat (first | assumption | exact Ext.rf _ | apply Ext.drew | apply Ext.drewN | apply Ext.alloc))⟩
  · rcases s2 with rfl | rfl
    · go_wp2_with (fail)
      go_ret
      exact ⟨ret_i (by rw [HC.out]; simp), by (repeat (first | assumption | exact Ext.rf _ | apply Ext.drew | apply Ext.drewN | apply Ext.alloc))⟩
    · go_wp2_with (fail)
      refine (O1.out _).mono ?_
      rintro e w3 ⟨rfl, x3⟩
      go_wp2
      go_ret
      exact ⟨ret_i (by rw [HC.out]; simp), Ext.tr (a := w) (by (repeat (first | assumption | exact Ext.rf _ | apply Ext.drew | apply Ext.drewN | apply Ext.alloc))) x3⟩
end Go.Proofs.Ytpapkofildcdiaa
namespace Go.Proofs.Ytpapkofildcdiaa
open Go.RowKit Go.ChangeShapes Go.WideShapes Go.ChangeAt Go.Deep

end Go.Proofs.Ytpapkofildcdiaa
namespace Go.Proofs.Ytpapkofildcdiaa
open Go.RowKit Go.ChangeShapes Go.WideShapes Go.ChangeAt Go.Deep

def nl (l : List Nat) : List Int := l.map fun n : Nat => (n : Int)
theorem nl_len (l : List Nat) : (nl l).length = l.length := by simp [nl]
theorem nl_get {l : List Nat} {k n : Nat} (h : l[k]? = some n) : (nl l)[k]? = some (n : Int) := by simp [nl, h]
end Go.Proofs.Ytpapkofildcdiaa
namespace Go.Proofs.Ytpapkofildcdiaa
open Go.RowKit Go.ChangeShapes Go.WideShapes Go.ChangeAt Go.Deep

end Go.Proofs.Ytpapkofildcdiaa
namespace Go.Proofs.Ytpapkofildcdiaa
open Go.RowKit Go.ChangeShapes Go.WideShapes Go.ChangeAt Go.Deep

section
variable {ops : Array Oper} {i : Nat} {t : TypeId} {d : Option Tmp} {a : Act} {w : World} {K : Act → World → Prop} {Q : Exit → Act → World → Prop}
end
theorem RdI.mod {S : Nat → Prop} {w w' : World} {A : Option Addr} {xs : List Int} (h : RdI w A xs) (k : Mod S w w') (hb : ∀ b, bl A = some b → ¬ S b) : RdI w' A xs := by
  rcases h with rfl | ⟨b, off, rfl, hlt, hc⟩
  · exact .inl rfl
  · refine .inr ⟨b, off, rfl, Nat.lt_of_lt_of_le hlt k.size, fun j x hj => ?_⟩
    rw [← hc j x hj]
    exact World.cell?_of_block (k.block b hlt (hb b rfl))
end Go.Proofs.Ytpapkofildcdiaa
namespace Go.Proofs.Ytpapkofildcdiaa
open Go.RowKit Go.ChangeShapes Go.WideShapes Go.ChangeAt Go.Deep

section
variable {w w2 : World} {base g pn pc wc vc hc c' : Nat} {cap x : Int} {PA WA VA HA A' : Option Addr} {ws vs bs : List Int}
end
/-- the sums from behind: nought before place k, and from there on -/
def sumsL (vs : List Int) (k : Nat) : List Int := (List.range (vs.length + 1)).map fun i => if i < k then 0 else sumL (vs.drop i)
theorem sumsL_len (vs : List Int) (k : Nat) : (sumsL vs k).length = vs.length + 1 := by simp [sumsL]
theorem sumL_bd {vs : List Int} (h : Small31 vs) (k : Nat) : 0 ≤ sumL (vs.drop k) ∧ sumL (vs.drop k) ≤ 2147483647 * vs.length := by
  have key : ∀ l : List Int, (∀ x ∈ l, 0 ≤ x ∧ x ≤ 2147483647) → 0 ≤ sumL l ∧ sumL l ≤ 2147483647 * l.length := by
    intro l
    induction l with
    | nil => intro _; simp [sumL]
    | cons x l ih =>
      intro hl
      have h1 := hl x (by simp)
      have h2 := ih fun y hy => hl y (by simp [hy])
      simp only [sumL, List.length_cons, Int.natCast_add, Int.natCast_one]
      omega
  have h1 := key (vs.drop k) fun x hx => h x (List.mem_of_mem_drop hx)
  have h2 : (vs.drop k).length ≤ vs.length := by simp
  omega
theorem inOrder_len (l : List Nat) (v : List Int) : (inOrder l v).length = l.length := by simp [inOrder]
theorem inOrder_succ {l : List Nat} {k n : Nat} {v : List Int} {x : Int} (h : l[k]? = some n) (hx : v[n]? = some x) : inOrder (l.take (k + 1)) v = inOrder (l.take k) v ++ [x] := by
  obtain ⟨hk, h⟩ := List.getElem?_eq_some_iff.1 h
  unfold inOrder
  rw [List.take_succ_eq_append_getElem hk, List.map_append, h]
  simp [List.getD, hx]
theorem inOrder_get {l : List Nat} {k n : Nat} {v : List Int} {x : Int} (h : l[k]? = some n) (hx : v[n]? = some x) : (inOrder l v)[k]? = some x := by
  unfold inOrder
  rw [List.getElem?_map, h]
  simp [List.getD, hx]
end Go.Proofs.Ytpapkofildcdiaa
namespace Go.Proofs.Ytpapkofildcdiaa
open Go.RowKit Go.ChangeShapes Go.WideShapes Go.ChangeAt Go.Deep

structure KOk (cap : Int) (l : List Nat) (ws vs bs : List Int) : Prop where
  cap : 0 ≤ cap ∧ cap ≤ 2147483647
  l64 : l.length ≤ 64
  lw : ws.length = l.length
  lv : vs.length = l.length
  lb : bs.length = l.length + 1
  sw : Small31 ws
  sv : Small31 vs
end Go.Proofs.Ytpapkofildcdiaa
namespace Go.Proofs.Ytpapkofildcdiaa
open Go.RowKit Go.ChangeShapes Go.WideShapes Go.ChangeAt Go.Deep

set_option maxRecDepth 100000 in
theorem div64_any (x y : Int) (w : World) (hx : 0 ≤ x) (hx' : x ≤ 4611686014132420609) (hy : 1 ≤ y) (hy' : y ≤ 2147483647) :
    Calls Try.prog 97 #[.int .u64 0, .int .u64 x, .int .u64 y] w fun e w' => e = .returned (.tuple #[.int .u64 (x / y), .int .u64 (x % y)]) ∧ Ext w w' := by
  have y0 : (y == 0) = false := by rw [beq_eq_false_iff_ne]; omega
  have y1 : decide (y ≤ 0) = false := by simp; omega
  go_enter Try.func97, Try.ntmps97
  go_wp2_with (go_quiet (fail))
  go_ret2
  exact ⟨rfl, by (repeat (first | assumption | exact Ext.rf _ | apply Ext.drew | apply Ext.drewN | apply Ext.alloc))⟩
set_option maxRecDepth 100000 in
set_option maxHeartbeats 1000000 in
theorem part_any (a b c : Int) (w : World) (ha : 0 ≤ a ∧ a ≤ 2147483647) (hb : 0 ≤ b ∧ b ≤ 2147483647) (hc : 1 ≤ c ∧ c ≤ 2147483647) :
    Calls Try.prog 96 #[.int .i64 a, .int .i64 b, .int .i64 c] w fun e w' => e = .returned (.tuple #[.int .i64 (a * b / c), .bool true]) ∧ Ext w w' := by
  obtain ⟨ha, ha'⟩ := ha
  obtain ⟨hb, hb'⟩ := hb
  obtain ⟨hc, hc'⟩ := hc
  have hm := mul_bd ha ha' hb hb'
  have wa : IntKind.u64.wrap a = a := wraps_u64 _ ha (by omega)
  have wb : IntKind.u64.wrap b = b := wraps_u64 _ hb (by omega)
  have wc : IntKind.u64.wrap c = c := wraps_u64 _ (by omega) (by omega)
  have M := mul64_any a b
  have D := div64_any (a * b) c
  have hq : 0 ≤ a * b / c ∧ a * b / c ≤ 4611686014132420609 := by
    refine ⟨Int.ediv_nonneg hm.1 (by omega), ?_⟩
    have := Int.ediv_le_self c hm.1
    omega
  have na : decide (a < 0) = false := by simpa using ha
  have nb : decide (b < 0) = false := by simpa using hb
  have nc : decide (c ≤ 0) = false := by simp; omega
  generalize a * b = p at *
  generalize p / c = q at *
  generalize p % c = r at *
  obtain ⟨hm1, hm2⟩ := hm
  obtain ⟨hq1, hq2⟩ := hq
  have wq : IntKind.i64.wrap q = q := IntWalk.i64_in _ (by omega)
  have hcc : decide (c ≤ 0) = false := nc
  have ng : ¬ (9223372036854775807 < q) := by omega
  replace M := Lib.hid M
  replace D := Lib.hid D
  go_enter Try.func96, Try.ntmps96
  go_wp2_with (fail)
  refine (M.out _ ha ha' hb hb').mono ?_
  rintro e w1 ⟨rfl, x1⟩
  go_wp2_with (fail)
  refine (D.out _ hm1 hm2 hc hc').mono ?_
  rintro e w2 ⟨rfl, x2⟩
  go_wp2
  go_ret2
  exact ⟨rfl, Ext.tr x1 x2⟩
def KidsPost (ks : List Int) (err : Int) (w : World) (e : Ending) (w' : World) : Prop := ∃ A c, e = .returned (.tuple #[.slice A ks.length c, .int .i64 err]) ∧ RdI w' A ks ∧ ks.length ≤ c ∧ c ≤ 9223372036854775807 ∧ Ext w w'
end Go.Proofs.Ytpapkofildcdiaa
namespace Go.Proofs.Ytpapkofildcdiaa
open Go.RowKit Go.ChangeShapes Go.WideShapes Go.ChangeAt Go.Deep

def BoundVal (b : Int × Int) : Value := .tuple #[.int .i64 b.1, .int .i64 b.2]
end Go.Proofs.Ytpapkofildcdiaa
namespace Go.Proofs.Ytpapkofildcdiaa
open Go.RowKit Go.ChangeShapes Go.WideShapes Go.ChangeAt Go.Deep

/-- nine parts, of which but the two lowest are nought -/
def bigC (lo hi : Int) : Array Value := #[.int .i64 lo, .int .i64 hi, .int .i64 0, .int .i64 0, .int .i64 0, .int .i64 0, .int .i64 0, .int .i64 0, .int .i64 0]
def bigV (lo hi : Int) : Value := .agg #[.int .i64 lo, .int .i64 hi, .int .i64 0, .int .i64 0, .int .i64 0, .int .i64 0, .int .i64 0, .int .i64 0, .int .i64 0]
theorem bigC_get (lo hi : Int) (i : Nat) (hi9 : i < 9) : (bigC lo hi)[i]? = some (.int .i64 (if i = 0 then lo else if i = 1 then hi else 0)) := by
  unfold bigC
  match i, hi9 with
  | 0, _ => rfl
  | 1, _ => rfl
  | 2, _ => rfl
  | 3, _ => rfl
  | 4, _ => rfl
  | 5, _ => rfl
  | 6, _ => rfl
  | 7, _ => rfl
  | 8, _ => rfl
theorem setNine {w0 w : World} (x : Ext w0 w) {g : Nat} (hg : w0.heap.size ≤ g) (u0 u1 u2 u3 u4 u5 u6 u7 u8 : Value) :
    Ext w0 (((((((((w.setCell ⟨g, 0, none⟩ u0).setCell ⟨g, 1, none⟩ u1).setCell ⟨g, 2, none⟩ u2).setCell ⟨g, 3, none⟩ u3).setCell ⟨g, 4, none⟩ u4).setCell ⟨g, 5, none⟩ u5).setCell ⟨g, 6, none⟩ u6).setCell ⟨g, 7, none⟩ u7).setCell ⟨g, 8, none⟩ u8) :=
  ((((((((x.setNew (p := ⟨g, 0, none⟩) hg u0).setNew (p := ⟨g, 1, none⟩) hg u1).setNew (p := ⟨g, 2, none⟩) hg u2).setNew (p := ⟨g, 3, none⟩) hg u3).setNew (p := ⟨g, 4, none⟩) hg u4).setNew (p := ⟨g, 5, none⟩) hg u5).setNew (p := ⟨g, 6, none⟩) hg u6).setNew (p := ⟨g, 7, none⟩) hg u7).setNew (p := ⟨g, 8, none⟩) hg u8
theorem u64_and31 (x : Int) (h₀ : 0 ≤ x) (h₁ : x ≤ 2147483647) : bits .and .u64 x 2147483647 = x := by
  have h := bits_mask .u64 64 (by decide) wraps_u64 31 (by decide) x h₀ (by omega)
  have h' : bits .and .u64 x 2147483647 = x % 2147483648 := h
  rw [h']
  omega
set_option maxRecDepth 100000 in
set_option maxHeartbeats 2000000 in
theorem of_any (a : Int) (w : World) (h0 : 0 ≤ a) (h1 : a ≤ 2147483647) : Calls Try.prog 72 #[.int .i64 a] w fun e w' => e = .returned (bigV a 0) ∧ Ext w w' := by
  have na : decide (a < 0) = false := by simpa using h0
  have wa : IntKind.u64.wrap a = a := wraps_u64 _ h0 (by omega)
  have wi : IntKind.i64.wrap a = a := IntWalk.i64_in _ (by omega)
  have ba : bits .and .u64 a 2147483647 = a := u64_and31 a h0 h1
  have b0 : bits .and .u64 0 2147483647 = 0 := u64_and31 0 (by omega) (by omega)
  have da : a / 2147483648 = 0 := by omega
  replace wa := Lib.hid wa
  replace wi := Lib.hid wi
  replace ba := Lib.hid ba
  replace b0 := Lib.hid b0
  replace da := Lib.hid da
  have B1 : Hid (Blk ((w.alloc (.cells (bigC 0 0) 103)).alloc (.cells (bigC 0 0) 103)) (w.heap.size + 1) 103 (bigC 0 0)) := .new (by simp)
  have B0 : Hid (Blk ((w.alloc (.cells (bigC 0 0) 103)).alloc (.cells (bigC 0 0) 103)) w.heap.size 103 (bigC 0 0)) := .alloc (.new rfl) _
  have wa' := wa.out
  go_enter Try.func72, Try.ntmps72
  go_wp2_with (fail)
  have Y0 : Ext w ((w.alloc (.cells (bigC 0 0) 103)).alloc (.cells (bigC 0 0) 103)) := ((Ext.rf _).alloc _).alloc _
  go_loopw [4, 5] (fun u i wr => ∃ (k : Nat), i = .int .i64 k ∧ k ≤ 3 ∧ (k = 0 ∧ u = .int .u64 a ∧ Hid (Blk wr (w.heap.size + 1) 103 (bigC 0 0)) ∨ 1 ≤ k ∧ u = .int .u64 0 ∧ Hid (Blk wr (w.heap.size + 1) 103 (bigC a 0))) ∧ Hid (Blk wr w.heap.size 103 (bigC 0 0)) ∧ Ext w wr) (fun _ i _ => 3 - (intOf i).toNat)
  case atStart => exact ⟨0, rfl, by omega, .inl ⟨rfl, rfl, B1⟩, B0, Y0⟩
  case round =>
    obtain ⟨k, rfl, hk, hu, hZ, Y⟩ := hrel
    obtain ⟨rfl, rfl, hB⟩ | ⟨rfl, rfl, hB⟩ | ⟨rfl, rfl, hB⟩ | ⟨rfl, rfl, hB⟩ : (k = 0 ∧ _ = Value.int .u64 a ∧ Hid (Blk wr (w.heap.size + 1) 103 (bigC 0 0))) ∨ (k = 1 ∧ _ = Value.int .u64 0 ∧ Hid (Blk wr (w.heap.size + 1) 103 (bigC a 0))) ∨ (k = 2 ∧ _ = Value.int .u64 0 ∧ Hid (Blk wr (w.heap.size + 1) 103 (bigC a 0))) ∨ (k = 3 ∧ _ = Value.int .u64 0 ∧ Hid (Blk wr (w.heap.size + 1) 103 (bigC a 0))) := by
      rcases hu with h | ⟨h1, h2, h3⟩
      · exact .inl h
      · obtain rfl | rfl | rfl : k = 1 ∨ k = 2 ∨ k = 3 := by omega
        · exact .inr (.inl ⟨rfl, h2, h3⟩)
        · exact .inr (.inr (.inl ⟨rfl, h2, h3⟩))
        · exact .inr (.inr (.inr ⟨rfl, h2, h3⟩))
    · -- round 0
      have c := hB.out.cell 0
      have f := hB.out.free 0
      have zg := hB.out.lt
      have c' : wr.cell? ⟨w.heap.size + 1, 0, none⟩ = some (.int .i64 0) := c
      have hN : Hid (Blk (wr.setCell ⟨w.heap.size + 1, 0, none⟩ (.int .i64 a)) (w.heap.size + 1) 103 (bigC a 0)) := hB.out.set 0 _
      have hN0 : Hid (Blk (wr.setCell ⟨w.heap.size + 1, 0, none⟩ (.int .i64 a)) w.heap.size 103 (bigC 0 0)) := hZ.out.far (by simp) _
      have yN := Lib.hid (Y.setNew (p := ⟨w.heap.size + 1, 0, none⟩) (by simp) (.int .i64 a))
      clear c
      have wi' := wi.out
      have ba' := ba.out
      have da' := da.out
      go_wp2
      go_roundw
      case rel => exact ⟨1, by go_num, by omega, .inr ⟨by omega, rfl, hN⟩, hN0, yN.out⟩
      case measure => simp [intOf]
    · -- round 1
      have c := hB.out.cell 1
      have f := hB.out.free 1
      have zg := hB.out.lt
      have c' : wr.cell? ⟨w.heap.size + 1, 1, none⟩ = some (.int .i64 0) := c
      have hN : Hid (Blk (wr.setCell ⟨w.heap.size + 1, 1, none⟩ (.int .i64 0)) (w.heap.size + 1) 103 (bigC a 0)) := hB.out.set 1 _
      have hN0 : Hid (Blk (wr.setCell ⟨w.heap.size + 1, 1, none⟩ (.int .i64 0)) w.heap.size 103 (bigC 0 0)) := hZ.out.far (by simp) _
      have yN := Lib.hid (Y.setNew (p := ⟨w.heap.size + 1, 1, none⟩) (by simp) (.int .i64 0))
      clear c
      have b0' := b0.out
      have w0' : IntKind.i64.wrap 0 = 0 := IntWalk.i64_in _ (by omega)
      go_wp2
      go_roundw
      case rel => exact ⟨2, by go_num, by omega, .inr ⟨by omega, rfl, hN⟩, hN0, yN.out⟩
      case measure => simp [intOf]
    · -- round 2
      have c := hB.out.cell 2
      have f := hB.out.free 2
      have zg := hB.out.lt
      have c' : wr.cell? ⟨w.heap.size + 1, 2, none⟩ = some (.int .i64 0) := c
      have hN : Hid (Blk (wr.setCell ⟨w.heap.size + 1, 2, none⟩ (.int .i64 0)) (w.heap.size + 1) 103 (bigC a 0)) := hB.out.set 2 _
      have hN0 : Hid (Blk (wr.setCell ⟨w.heap.size + 1, 2, none⟩ (.int .i64 0)) w.heap.size 103 (bigC 0 0)) := hZ.out.far (by simp) _
      have yN := Lib.hid (Y.setNew (p := ⟨w.heap.size + 1, 2, none⟩) (by simp) (.int .i64 0))
      clear c
      have b0' := b0.out
      have w0' : IntKind.i64.wrap 0 = 0 := IntWalk.i64_in _ (by omega)
      go_wp2
      go_roundw
      case rel => exact ⟨3, by go_num, by omega, .inr ⟨by omega, rfl, hN⟩, hN0, yN.out⟩
      case measure => simp [intOf]
    · have c0 : wr.cell? ⟨w.heap.size + 1, 0, none⟩ = some (.int .i64 a) := hB.out.cell 0
      have c1 : wr.cell? ⟨w.heap.size + 1, 1, none⟩ = some (.int .i64 0) := hB.out.cell 1
      have c2 : wr.cell? ⟨w.heap.size + 1, 2, none⟩ = some (.int .i64 0) := hB.out.cell 2
      have c3 : wr.cell? ⟨w.heap.size + 1, 3, none⟩ = some (.int .i64 0) := hB.out.cell 3
      have c4 : wr.cell? ⟨w.heap.size + 1, 4, none⟩ = some (.int .i64 0) := hB.out.cell 4
      have c5 : wr.cell? ⟨w.heap.size + 1, 5, none⟩ = some (.int .i64 0) := hB.out.cell 5
      have c6 : wr.cell? ⟨w.heap.size + 1, 6, none⟩ = some (.int .i64 0) := hB.out.cell 6
      have c7 : wr.cell? ⟨w.heap.size + 1, 7, none⟩ = some (.int .i64 0) := hB.out.cell 7
      have c8 : wr.cell? ⟨w.heap.size + 1, 8, none⟩ = some (.int .i64 0) := hB.out.cell 8
      have z0 : wr.cell? ⟨w.heap.size, 0, none⟩ = some (.int .i64 0) := hZ.out.cell 0
      have z1 : wr.cell? ⟨w.heap.size, 1, none⟩ = some (.int .i64 0) := hZ.out.cell 1
      have z2 : wr.cell? ⟨w.heap.size, 2, none⟩ = some (.int .i64 0) := hZ.out.cell 2
      have z3 : wr.cell? ⟨w.heap.size, 3, none⟩ = some (.int .i64 0) := hZ.out.cell 3
      have z4 : wr.cell? ⟨w.heap.size, 4, none⟩ = some (.int .i64 0) := hZ.out.cell 4
      have z5 : wr.cell? ⟨w.heap.size, 5, none⟩ = some (.int .i64 0) := hZ.out.cell 5
      have z6 : wr.cell? ⟨w.heap.size, 6, none⟩ = some (.int .i64 0) := hZ.out.cell 6
      have z7 : wr.cell? ⟨w.heap.size, 7, none⟩ = some (.int .i64 0) := hZ.out.cell 7
      have z8 : wr.cell? ⟨w.heap.size, 8, none⟩ = some (.int .i64 0) := hZ.out.cell 8
      have f0 : wr.frozen? ⟨w.heap.size, 0, none⟩ = false := hZ.out.free 0
      have f1 : wr.frozen? ⟨w.heap.size, 1, none⟩ = false := hZ.out.free 1
      have f2 : wr.frozen? ⟨w.heap.size, 2, none⟩ = false := hZ.out.free 2
      have f3 : wr.frozen? ⟨w.heap.size, 3, none⟩ = false := hZ.out.free 3
      have f4 : wr.frozen? ⟨w.heap.size, 4, none⟩ = false := hZ.out.free 4
      have f5 : wr.frozen? ⟨w.heap.size, 5, none⟩ = false := hZ.out.free 5
      have f6 : wr.frozen? ⟨w.heap.size, 6, none⟩ = false := hZ.out.free 6
      have f7 : wr.frozen? ⟨w.heap.size, 7, none⟩ = false := hZ.out.free 7
      have f8 : wr.frozen? ⟨w.heap.size, 8, none⟩ = false := hZ.out.free 8
      have Y9 := Lib.hid (setNine Y (g := w.heap.size) (Nat.le_refl _) (.int .i64 a) (.int .i64 0) (.int .i64 0) (.int .i64 0) (.int .i64 0) (.int .i64 0) (.int .i64 0) (.int .i64 0) (.int .i64 0))
      go_wp2
      exact bodyPost_ret (v := bigV a 0) (by simp [results, Try.results72, go_sem, bigV, *]) rfl ⟨rfl, Y9.out⟩
end Go.Proofs.Ytpapkofildcdiaa
namespace Go.Proofs.Ytpapkofildcdiaa
open Go.RowKit Go.ChangeShapes Go.WideShapes Go.ChangeAt Go.Deep

theorem i64_and31 (x : Int) (h₀ : 0 ≤ x) (h₁ : x ≤ 9223372036854775807) : bits .and .i64 x 2147483647 = x % 2147483648 :=
  bits_mask .i64 63 (by decide) (fun n h0 h1 => IntWalk.i64_in n (by omega)) 31 (by decide) x h₀ (by omega)
/-- what a product's parts are -/
def lowP (p : Int) : Int := p % 2147483648
def highP (p : Int) : Int := p / 2147483648
theorem parts_bd {p : Int} (h : 0 ≤ p ∧ p ≤ 4611686014132420609) : 0 ≤ lowP p ∧ lowP p ≤ 2147483647 ∧ 0 ≤ highP p ∧ highP p ≤ 2147483647 := by
  unfold lowP highP; omega
theorem bigC_same (x y : Int) (i : Nat) (h : i < 9) : (bigC x y).setIfInBounds i (.int .i64 (if i = 0 then x else if i = 1 then y else 0)) = bigC x y := by
  match i, h with
  | 0, _ => rfl
  | 1, _ => rfl
  | 2, _ => rfl
  | 3, _ => rfl
  | 4, _ => rfl
  | 5, _ => rfl
  | 6, _ => rfl
  | 7, _ => rfl
  | 8, _ => rfl
/-- where the multiplying stands -/
def MulAt (p : Int) (i k : Nat) (x y ov : Int) : Prop := (i = 0 ∧ k = 0 ∧ x = 0 ∧ y = 0 ∧ ov = 0) ∨ (i = 0 ∧ k = 1 ∧ x = lowP p ∧ y = 0 ∧ ov = highP p) ∨ ((1 ≤ i ∨ 2 ≤ k) ∧ x = lowP p ∧ y = highP p ∧ ov = 0)
/-- one step of it -/
theorem mul_step {a b p : Int} (hp : p = a * b) (bp : 0 ≤ p ∧ p ≤ 4611686014132420609) {i k : Nat} {x y ov : Int} (hi : i < 4) (hk : k < 4) (h : MulAt p i k x y ov) :
    ∃ c m s sl sh x' y' : Int, c = (if i + k = 0 then x else if i + k = 1 then y else 0) ∧ m = (if i = 0 then a else if i = 1 then 0 else 0) * (if k = 0 then b else if k = 1 then 0 else 0) ∧ s = c + m + ov ∧ sl = s % 2147483648 ∧ sh = s / 2147483648 ∧
      (0 ≤ c ∧ c ≤ 2147483647) ∧ (0 ≤ m ∧ m ≤ 4611686014132420609) ∧ (0 ≤ ov ∧ ov ≤ 2147483647) ∧ (bigC x y).setIfInBounds (i + k) (.int .i64 sl) = bigC x' y' ∧ MulAt p i (k + 1) x' y' sh := by
  have hb := parts_bd bp
  rcases h with ⟨rfl, rfl, rfl, rfl, rfl⟩ | ⟨rfl, rfl, rfl, rfl, rfl⟩ | ⟨h, rfl, rfl, rfl⟩
  · refine ⟨0, p, p, lowP p, highP p, lowP p, 0, rfl, by simpa using hp, by omega, rfl, rfl, by omega, bp, by omega, rfl, .inr (.inl ⟨rfl, rfl, rfl, rfl, rfl⟩)⟩
  · refine ⟨0, 0, highP p, highP p, 0, lowP p, highP p, rfl, by simp, by omega, by omega, by omega, by omega, by omega, by omega, rfl, .inr (.inr ⟨by omega, rfl, rfl, rfl⟩)⟩
  · refine ⟨(if i + k = 0 then lowP p else if i + k = 1 then highP p else 0), 0, _, (if i + k = 0 then lowP p else if i + k = 1 then highP p else 0), 0, lowP p, highP p, rfl, ?_, rfl, ?_, ?_, ?_, by omega, by omega, bigC_same _ _ _ (by omega), .inr (.inr ⟨by omega, rfl, rfl, rfl⟩)⟩
    · rcases h with h | h
      · rw [if_neg (show ¬ i = 0 by omega)]
        split <;> simp
      · rw [if_neg (show ¬ k = 0 by omega)]
        split <;> (split <;> simp)
    · split
      · omega
      · split <;> omega
    · split
      · omega
      · split <;> omega
    · split
      · omega
      · split <;> omega
end Go.Proofs.Ytpapkofildcdiaa
namespace Go.Proofs.Ytpapkofildcdiaa
open Go.RowKit Go.ChangeShapes Go.WideShapes Go.ChangeAt Go.Deep

set_option maxRecDepth 100000 in
set_option maxHeartbeats 4000000 in
theorem times_any (a b p : Int) (w : World) (ha : 0 ≤ a ∧ a ≤ 2147483647) (hb : 0 ≤ b ∧ b ≤ 2147483647) (hp : p = a * b) :
    Calls Try.prog 71 #[bigV a 0, bigV b 0] w fun e w' => e = .returned (bigV (lowP p) (highP p)) ∧ Ext w w' := by
  have bp : 0 ≤ p ∧ p ≤ 4611686014132420609 := by rw [hp]; exact mul_bd ha.1 ha.2 hb.1 hb.2
  have hpb := parts_bd bp
  replace hp := Lib.hid hp
  have Y0 : Ext w ((((w.alloc (.cells (bigC a 0) 103)).alloc (.cells (bigC b 0) 103)).alloc (.cells (bigC 0 0) 103)).alloc (.cells (bigC 0 0) 103)) := ((((Ext.rf _).alloc _).alloc _).alloc _).alloc _
  have BA : Blk ((((w.alloc (.cells (bigC a 0) 103)).alloc (.cells (bigC b 0) 103)).alloc (.cells (bigC 0 0) 103)).alloc (.cells (bigC 0 0) 103)) w.heap.size 103 (bigC a 0) := .alloc (.alloc (.alloc (.new rfl) _) _) _
  have BB : Blk ((((w.alloc (.cells (bigC a 0) 103)).alloc (.cells (bigC b 0) 103)).alloc (.cells (bigC 0 0) 103)).alloc (.cells (bigC 0 0) 103)) (w.heap.size + 1) 103 (bigC b 0) := .alloc (.alloc (.new (by simp)) _) _
  have BR : Blk ((((w.alloc (.cells (bigC a 0) 103)).alloc (.cells (bigC b 0) 103)).alloc (.cells (bigC 0 0) 103)).alloc (.cells (bigC 0 0) 103)) (w.heap.size + 1 + 1) 103 (bigC 0 0) := .alloc (.new (by simp)) _
  have BC : Blk ((((w.alloc (.cells (bigC a 0) 103)).alloc (.cells (bigC b 0) 103)).alloc (.cells (bigC 0 0) 103)).alloc (.cells (bigC 0 0) 103)) (w.heap.size + 1 + 1 + 1) 103 (bigC 0 0) := .new (by simp)
  replace Y0 := Lib.hid Y0
  replace BA := Lib.hid BA
  replace BB := Lib.hid BB
  replace BR := Lib.hid BR
  replace BC := Lib.hid BC
  unfold bigV
  go_enter Try.func71, Try.ntmps71
  go_wp2_with (fail)
  go_loopw [6] (fun i wr => ∃ (n : Nat) (x y : Int), i = .int .i64 n ∧ n ≤ 4 ∧ Hid ((n = 0 ∧ x = 0 ∧ y = 0) ∨ (1 ≤ n ∧ x = lowP p ∧ y = highP p)) ∧ Ext w wr ∧ Hid (Blk wr w.heap.size 103 (bigC a 0)) ∧ Hid (Blk wr (w.heap.size + 1) 103 (bigC b 0)) ∧ Hid (Blk wr (w.heap.size + 1 + 1) 103 (bigC 0 0)) ∧ Hid (Blk wr (w.heap.size + 1 + 1 + 1) 103 (bigC x y))) (fun i _ => 4 - (intOf i).toNat)
  case atStart => exact ⟨0, 0, 0, rfl, by omega, .inl ⟨rfl, rfl, rfl⟩, Y0.out, BA, BB, BR, BC⟩
  case round =>
    obtain ⟨wo, rfl⟩ : ∃ wo : World, wo = wr := ⟨_, rfl⟩
    obtain ⟨n, x, y, rfl, hn, HS, Y, A1, B1, R1, C1⟩ := hrel
    by_cases hlt : n < 4
    · go_wp2_with (fail)
      go_loopw [7, 8] (fun o i wr => ∃ (k : Nat) (x y ov : Int), i = .int .i64 k ∧ o = .int .i64 ov ∧ k ≤ 4 ∧ Hid (MulAt p n k x y ov) ∧ Ext w wr ∧ Hid (Blk wr w.heap.size 103 (bigC a 0)) ∧ Hid (Blk wr (w.heap.size + 1) 103 (bigC b 0)) ∧ Hid (Blk wr (w.heap.size + 1 + 1) 103 (bigC 0 0)) ∧ Hid (Blk wr (w.heap.size + 1 + 1 + 1) 103 (bigC x y))) (fun _ i _ => 4 - (intOf i).toNat)
      case atStart =>
        refine ⟨0, x, y, 0, rfl, rfl, by omega, ?_, Y, A1, B1, R1, C1⟩
        rcases HS.out with ⟨h1, h2, h3⟩ | ⟨h1, h2, h3⟩
        · exact .inl ⟨h1, rfl, h2, h3, rfl⟩
        · exact .inr (.inr ⟨.inl h1, h2, h3, rfl⟩)
      case round =>
        obtain ⟨wq, rfl⟩ : ∃ wq : World, wq = wr := ⟨_, rfl⟩
        obtain ⟨k, x, y, ov, rfl, rfl, hk, HM, Y2, A2, B2, R2, C2⟩ := hrel
        by_cases hlk : k < 4
        · obtain ⟨c, m, s, sl, sh, x', y', hc, hm, hs, hsl, hsh, bc, bm, bo, hset, HM2⟩ := mul_step hp.out bp hlt hlk HM.out
          have gC := C2.out.cell (n + k)
          have gA := A2.out.cell n
          have gB := B2.out.cell k
          rw [bigC_get _ _ _ (by omega)] at gC gA gB
          rw [← hc] at gC
          have fC := C2.out.free (n + k)
          obtain ⟨av, hav⟩ : ∃ av, Hid (av = (if n = 0 then a else if n = 1 then 0 else 0)) := ⟨_, rfl⟩
          obtain ⟨bv, hbv⟩ : ∃ bv, Hid (bv = (if k = 0 then b else if k = 1 then 0 else 0)) := ⟨_, rfl⟩
          rw [← hav.out] at gA hm
          rw [← hbv.out] at gB hm
          have wm : Hid (IntKind.i64.wrap (av * bv) = m) := by
            have h : IntKind.i64.wrap (av * bv) = m := by rw [← hm]; exact IntWalk.i64_in _ (by omega)
            exact h
          have w1 : Hid (IntKind.i64.wrap (c + m) = c + m) := IntWalk.i64_in _ (by omega)
          have w2 : Hid (IntKind.i64.wrap (c + m + ov) = s) := by
            have h : IntKind.i64.wrap (c + m + ov) = s := by rw [hs]; exact IntWalk.i64_in _ (by omega)
            exact h
          have wn : Hid (IntKind.i64.wrap ((n : Int) + (k : Int)) = (n : Int) + (k : Int)) := IntWalk.i64_in _ (by omega)
          have ea : Hid (bits .and .i64 s 2147483647 = sl) := by
            have h : bits .and .i64 s 2147483647 = sl := by rw [i64_and31 s (by omega) (by omega), hsl]
            exact h
          have es : Hid (s / 2147483648 = sh) := hsh.symm
          have bs : 0 ≤ s ∧ s ≤ 9223372036854775807 := by omega
          have bsh : 0 ≤ sh ∧ sh ≤ 9223372036854775807 := by omega
          have q1 : (0 : Int) ≤ (n : Int) + (k : Int) := by omega
          have q2 : (n : Int) + (k : Int) < 9 := by omega
          have q3 : (n : Int) < 9 := by omega
          have q4 : (k : Int) < 9 := by omega
          replace hset := Lib.hid hset
          replace HM2 := Lib.hid HM2
          have zA := A2.out.lt
          have zB := B2.out.lt
          have zC := C2.out.lt
          clear hc hm hs hsl hsh bm bo
          have wn' := wn.out
          have wm' := wm.out
          have w1' := w1.out
          have w2' := w2.out
          have ea' := ea.out
          have es' := es.out
          go_wp2_with (go_quiet (fail))
          go_roundw
          case rel => exact ⟨k + 1, x', y', sh, by go_num, rfl, by omega, HM2, (Y2.drewN _).setNew (by simp <;> omega) _, (A2.out.drewN _).far (by simp <;> omega) _, (B2.out.drewN _).far (by simp <;> omega) _, (R2.out.drewN _).far (by simp <;> omega) _, by rw [← hset.out]; exact (C2.out.drewN _).set (n + k) _⟩
          case measure => simp [intOf]; omega
        · obtain rfl : k = 4 := by omega
          have HM4 : Hid (x = lowP p ∧ y = highP p ∧ ov = 0) := by
            rcases HM.out with ⟨_, h, _⟩ | ⟨_, h, _⟩ | ⟨_, h1, h2, h3⟩
            · omega
            · omega
            · exact ⟨h1, h2, h3⟩
          obtain ⟨rfl, rfl, rfl⟩ := HM4.out
          have gC := C2.out.cell (n + 4)
          rw [bigC_get _ _ _ (by omega), if_neg (by omega), if_neg (by omega)] at gC
          have fC := C2.out.free (n + 4)
          have q1 : (0 : Int) ≤ (n : Int) + 4 := by omega
          have q2 : (n : Int) + 4 < 9 := by omega
          have wn' : IntKind.i64.wrap ((n : Int) + 4) = (n : Int) + 4 := IntWalk.i64_in _ (by omega)
          have hset : Hid ((bigC (lowP p) (highP p)).setIfInBounds (n + 4) (.int .i64 0) = bigC (lowP p) (highP p)) := by
            have h := bigC_same (lowP p) (highP p) (n + 4) (by omega)
            rw [if_neg (by omega), if_neg (by omega)] at h
            exact h
          clear HM HM4
          go_wp2_with (fail)
          go_roundw
          case rel => exact ⟨n + 1, lowP p, highP p, by go_num, by omega, .inr ⟨by omega, rfl, rfl⟩, Y2.setNew (by simp <;> omega) _, A2.out.far (by simp <;> omega) _, B2.out.far (by simp <;> omega) _, R2.out.far (by simp <;> omega) _, by rw [← hset.out]; exact C2.out.set (n + 4) _⟩
          case measure => simp [intOf]; omega
    · obtain rfl : n = 4 := by omega
      have HS4 : Hid (x = lowP p ∧ y = highP p) := by
        rcases HS.out with ⟨h, _⟩ | ⟨_, h1, h2⟩
        · omega
        · exact ⟨h1, h2⟩
      obtain ⟨rfl, rfl⟩ := HS4.out
      clear HS HS4
      have c0 : wo.cell? ⟨w.heap.size + 1 + 1 + 1, 0, none⟩ = some (.int .i64 (lowP p)) := C1.out.cell 0
      have c1 : wo.cell? ⟨w.heap.size + 1 + 1 + 1, 1, none⟩ = some (.int .i64 (highP p)) := C1.out.cell 1
      have c2 : wo.cell? ⟨w.heap.size + 1 + 1 + 1, 2, none⟩ = some (.int .i64 0) := C1.out.cell 2
      have c3 : wo.cell? ⟨w.heap.size + 1 + 1 + 1, 3, none⟩ = some (.int .i64 0) := C1.out.cell 3
      have c4 : wo.cell? ⟨w.heap.size + 1 + 1 + 1, 4, none⟩ = some (.int .i64 0) := C1.out.cell 4
      have c5 : wo.cell? ⟨w.heap.size + 1 + 1 + 1, 5, none⟩ = some (.int .i64 0) := C1.out.cell 5
      have c6 : wo.cell? ⟨w.heap.size + 1 + 1 + 1, 6, none⟩ = some (.int .i64 0) := C1.out.cell 6
      have c7 : wo.cell? ⟨w.heap.size + 1 + 1 + 1, 7, none⟩ = some (.int .i64 0) := C1.out.cell 7
      have c8 : wo.cell? ⟨w.heap.size + 1 + 1 + 1, 8, none⟩ = some (.int .i64 0) := C1.out.cell 8
      have z0 : wo.cell? ⟨w.heap.size + 1 + 1, 0, none⟩ = some (.int .i64 0) := R1.out.cell 0
      have z1 : wo.cell? ⟨w.heap.size + 1 + 1, 1, none⟩ = some (.int .i64 0) := R1.out.cell 1
      have z2 : wo.cell? ⟨w.heap.size + 1 + 1, 2, none⟩ = some (.int .i64 0) := R1.out.cell 2
      have z3 : wo.cell? ⟨w.heap.size + 1 + 1, 3, none⟩ = some (.int .i64 0) := R1.out.cell 3
      have z4 : wo.cell? ⟨w.heap.size + 1 + 1, 4, none⟩ = some (.int .i64 0) := R1.out.cell 4
      have z5 : wo.cell? ⟨w.heap.size + 1 + 1, 5, none⟩ = some (.int .i64 0) := R1.out.cell 5
      have z6 : wo.cell? ⟨w.heap.size + 1 + 1, 6, none⟩ = some (.int .i64 0) := R1.out.cell 6
      have z7 : wo.cell? ⟨w.heap.size + 1 + 1, 7, none⟩ = some (.int .i64 0) := R1.out.cell 7
      have z8 : wo.cell? ⟨w.heap.size + 1 + 1, 8, none⟩ = some (.int .i64 0) := R1.out.cell 8
      have f0 : wo.frozen? ⟨w.heap.size + 1 + 1, 0, none⟩ = false := R1.out.free 0
      have f1 : wo.frozen? ⟨w.heap.size + 1 + 1, 1, none⟩ = false := R1.out.free 1
      have f2 : wo.frozen? ⟨w.heap.size + 1 + 1, 2, none⟩ = false := R1.out.free 2
      have f3 : wo.frozen? ⟨w.heap.size + 1 + 1, 3, none⟩ = false := R1.out.free 3
      have f4 : wo.frozen? ⟨w.heap.size + 1 + 1, 4, none⟩ = false := R1.out.free 4
      have f5 : wo.frozen? ⟨w.heap.size + 1 + 1, 5, none⟩ = false := R1.out.free 5
      have f6 : wo.frozen? ⟨w.heap.size + 1 + 1, 6, none⟩ = false := R1.out.free 6
      have f7 : wo.frozen? ⟨w.heap.size + 1 + 1, 7, none⟩ = false := R1.out.free 7
      have f8 : wo.frozen? ⟨w.heap.size + 1 + 1, 8, none⟩ = false := R1.out.free 8
      have Y9 := Lib.hid (setNine Y (g := w.heap.size + 1 + 1) (by omega) (.int .i64 (lowP p)) (.int .i64 (highP p)) (.int .i64 0) (.int .i64 0) (.int .i64 0) (.int .i64 0) (.int .i64 0) (.int .i64 0) (.int .i64 0))
      go_wp2_with (fail)
      exact bodyPost_ret (v := bigV (lowP p) (highP p)) (by simp [results, Try.results71, go_sem, bigV, *]) rfl ⟨rfl, Y9.out⟩
end Go.Proofs.Ytpapkofildcdiaa
namespace Go.Proofs.Ytpapkofildcdiaa
open Go.RowKit Go.ChangeShapes Go.WideShapes Go.ChangeAt Go.Deep

def sgnC (m : Bool) (lo hi : Int) : Array Value := #[.bool m, .int .i64 lo, .int .i64 hi, .int .i64 0, .int .i64 0, .int .i64 0, .int .i64 0, .int .i64 0, .int .i64 0, .int .i64 0]
def sgnV (m : Bool) (lo hi : Int) : Value := .agg #[.bool m, .int .i64 lo, .int .i64 hi, .int .i64 0, .int .i64 0, .int .i64 0, .int .i64 0, .int .i64 0, .int .i64 0, .int .i64 0]
theorem setTen {w0 w : World} (x : Ext w0 w) {g : Nat} (hg : w0.heap.size ≤ g) (u0 u1 u2 u3 u4 u5 u6 u7 u8 u9 : Value) :
    Ext w0 ((((((((((w.setCell ⟨g, 0, none⟩ u0).setCell ⟨g, 1, none⟩ u1).setCell ⟨g, 2, none⟩ u2).setCell ⟨g, 3, none⟩ u3).setCell ⟨g, 4, none⟩ u4).setCell ⟨g, 5, none⟩ u5).setCell ⟨g, 6, none⟩ u6).setCell ⟨g, 7, none⟩ u7).setCell ⟨g, 8, none⟩ u8).setCell ⟨g, 9, none⟩ u9) :=
  (setNine x hg u0 u1 u2 u3 u4 u5 u6 u7 u8).setNew (p := ⟨g, 9, none⟩) hg u9
set_option maxRecDepth 100000 in
set_option maxHeartbeats 2000000 in
theorem num_any (a : Int) (w : World) (h0 : 0 ≤ a) (h1 : a ≤ 2147483647) : Calls Try.prog 68 #[.int .i64 a] w fun e w' => e = .returned (sgnV false a 0) ∧ Ext w w' := by
  have na : decide (a < 0) = false := by simpa using h0
  have B0 : Blk (w.alloc (.cells (sgnC false 0 0) 105)) w.heap.size 105 (sgnC false 0 0) := .new rfl
  have Y0 : Ext w (w.alloc (.cells (sgnC false 0 0) 105)) := (Ext.rf _).alloc _
  replace B0 := Lib.hid B0
  replace Y0 := Lib.hid Y0
  go_enter Try.func68, Try.ntmps68
  go_wp2_with (fail)
  refine (of_any a _ h0 h1).mono ?_
  rintro e w2 ⟨rfl, x2⟩
  have B2 := B0.out.ext x2
  have z0 : w2.cell? ⟨w.heap.size, 0, none⟩ = some (.bool false) := B2.cell 0
  have z1 : w2.cell? ⟨w.heap.size, 1, none⟩ = some (.int .i64 0) := B2.cell 1
  have z2 : w2.cell? ⟨w.heap.size, 2, none⟩ = some (.int .i64 0) := B2.cell 2
  have z3 : w2.cell? ⟨w.heap.size, 3, none⟩ = some (.int .i64 0) := B2.cell 3
  have z4 : w2.cell? ⟨w.heap.size, 4, none⟩ = some (.int .i64 0) := B2.cell 4
  have z5 : w2.cell? ⟨w.heap.size, 5, none⟩ = some (.int .i64 0) := B2.cell 5
  have z6 : w2.cell? ⟨w.heap.size, 6, none⟩ = some (.int .i64 0) := B2.cell 6
  have z7 : w2.cell? ⟨w.heap.size, 7, none⟩ = some (.int .i64 0) := B2.cell 7
  have z8 : w2.cell? ⟨w.heap.size, 8, none⟩ = some (.int .i64 0) := B2.cell 8
  have z9 : w2.cell? ⟨w.heap.size, 9, none⟩ = some (.int .i64 0) := B2.cell 9
  have f0 : w2.frozen? ⟨w.heap.size, 0, none⟩ = false := B2.free 0
  have f1 : w2.frozen? ⟨w.heap.size, 1, none⟩ = false := B2.free 1
  have f2 : w2.frozen? ⟨w.heap.size, 2, none⟩ = false := B2.free 2
  have f3 : w2.frozen? ⟨w.heap.size, 3, none⟩ = false := B2.free 3
  have f4 : w2.frozen? ⟨w.heap.size, 4, none⟩ = false := B2.free 4
  have f5 : w2.frozen? ⟨w.heap.size, 5, none⟩ = false := B2.free 5
  have f6 : w2.frozen? ⟨w.heap.size, 6, none⟩ = false := B2.free 6
  have f7 : w2.frozen? ⟨w.heap.size, 7, none⟩ = false := B2.free 7
  have f8 : w2.frozen? ⟨w.heap.size, 8, none⟩ = false := B2.free 8
  have f9 : w2.frozen? ⟨w.heap.size, 9, none⟩ = false := B2.free 9
  have Y2 := Lib.hid (setTen (Y0.out.tr x2) (g := w.heap.size) (Nat.le_refl _) (.bool false) (.int .i64 a) (.int .i64 0) (.int .i64 0) (.int .i64 0) (.int .i64 0) (.int .i64 0) (.int .i64 0) (.int .i64 0) (.int .i64 0))
  clear B2 x2
  unfold bigV
  go_wp2_with (fail)
  exact bodyPost_ret (v := sgnV false a 0) (by simp [results, Try.results68, go_sem, sgnV, *]) rfl ⟨rfl, Y2.out⟩
set_option maxRecDepth 100000 in
set_option maxHeartbeats 2000000 in
theorem neg_any (m : Bool) (lo hi : Int) (w : World) : Calls Try.prog 70 #[sgnV m lo hi] w fun e w' => e = .returned (sgnV (!m) lo hi) ∧ Ext w w' := by
  have B1 : Blk ((w.alloc (.cells (sgnC m lo hi) 105)).alloc (.cells (sgnC false 0 0) 105)) w.heap.size 105 (sgnC m lo hi) := .alloc (.new rfl) _
  have Y0 : Ext w ((w.alloc (.cells (sgnC m lo hi) 105)).alloc (.cells (sgnC false 0 0) 105)) := ((Ext.rf _).alloc _).alloc _
  replace B1 := Lib.hid B1
  have Y2 := Lib.hid (setTen Y0 (g := w.heap.size + 1) (by omega) (.bool (!m)) (.int .i64 lo) (.int .i64 hi) (.int .i64 0) (.int .i64 0) (.int .i64 0) (.int .i64 0) (.int .i64 0) (.int .i64 0) (.int .i64 0))
  clear Y0
  unfold sgnV
  go_enter Try.func70, Try.ntmps70
  go_wp2_with (fail)
  exact bodyPost_ret (v := sgnV (!m) lo hi) (by simp [results, Try.results70, go_sem, sgnV]) rfl ⟨rfl, ((Ext.rf _).alloc _).alloc _⟩
section
variable {W : World} {g : Nat} {m : Bool} {lo hi : Int}
set_option maxRecDepth 100000 in
theorem load_size (h : Blk W g 105 (sgnC m lo hi)) : (Instr.loadAt 103 (.pointer (some ⟨g, 1, none⟩))).run Try.prog W = .ok (bigV lo hi) W := by
  have c0 : W.cell? ⟨g, 0, none⟩ = some (.bool m) := h.cell 0
  have c1 : W.cell? ⟨g, 1, none⟩ = some (.int .i64 lo) := h.cell 1
  have c2 : W.cell? ⟨g, 2, none⟩ = some (.int .i64 hi) := h.cell 2
  have c3 : W.cell? ⟨g, 3, none⟩ = some (.int .i64 0) := h.cell 3
  have c4 : W.cell? ⟨g, 4, none⟩ = some (.int .i64 0) := h.cell 4
  have c5 : W.cell? ⟨g, 5, none⟩ = some (.int .i64 0) := h.cell 5
  have c6 : W.cell? ⟨g, 6, none⟩ = some (.int .i64 0) := h.cell 6
  have c7 : W.cell? ⟨g, 7, none⟩ = some (.int .i64 0) := h.cell 7
  have c8 : W.cell? ⟨g, 8, none⟩ = some (.int .i64 0) := h.cell 8
  have c9 : W.cell? ⟨g, 9, none⟩ = some (.int .i64 0) := h.cell 9
  unfold bigV
  clear h
  go_simp
set_option maxRecDepth 100000 in
theorem load_sgn (h : Blk W g 105 (sgnC m lo hi)) : (Instr.loadAt 105 (.pointer (some ⟨g, 0, none⟩))).run Try.prog W = .ok (sgnV m lo hi) W := by
  have c0 : W.cell? ⟨g, 0, none⟩ = some (.bool m) := h.cell 0
  have c1 : W.cell? ⟨g, 1, none⟩ = some (.int .i64 lo) := h.cell 1
  have c2 : W.cell? ⟨g, 2, none⟩ = some (.int .i64 hi) := h.cell 2
  have c3 : W.cell? ⟨g, 3, none⟩ = some (.int .i64 0) := h.cell 3
  have c4 : W.cell? ⟨g, 4, none⟩ = some (.int .i64 0) := h.cell 4
  have c5 : W.cell? ⟨g, 5, none⟩ = some (.int .i64 0) := h.cell 5
  have c6 : W.cell? ⟨g, 6, none⟩ = some (.int .i64 0) := h.cell 6
  have c7 : W.cell? ⟨g, 7, none⟩ = some (.int .i64 0) := h.cell 7
  have c8 : W.cell? ⟨g, 8, none⟩ = some (.int .i64 0) := h.cell 8
  have c9 : W.cell? ⟨g, 9, none⟩ = some (.int .i64 0) := h.cell 9
  unfold sgnV
  clear h
  go_simp
theorem load_minus (h : Blk W g 105 (sgnC m lo hi)) : (Instr.loadAt 4 (.pointer (some ⟨g, 0, none⟩))).run Try.prog W = .ok (.bool m) W := by
  have c0 : W.cell? ⟨g, 0, none⟩ = some (.bool m) := h.cell 0
  clear h
  go_simp
/-- ten cells stored -/
def tenW (W : World) (g : Nat) (m : Bool) (lo hi : Int) : World := ((((((((((W.setCell ⟨g, 0, none⟩ (.bool m)).setCell ⟨g, 1, none⟩ (.int .i64 lo)).setCell ⟨g, 2, none⟩ (.int .i64 hi)).setCell ⟨g, 3, none⟩ (.int .i64 0)).setCell ⟨g, 4, none⟩ (.int .i64 0)).setCell ⟨g, 5, none⟩ (.int .i64 0)).setCell ⟨g, 6, none⟩ (.int .i64 0)).setCell ⟨g, 7, none⟩ (.int .i64 0)).setCell ⟨g, 8, none⟩ (.int .i64 0)).setCell ⟨g, 9, none⟩ (.int .i64 0))
set_option maxRecDepth 100000 in
set_option maxHeartbeats 1000000 in
theorem store_sgn {m' : Bool} {lo' hi' : Int} (h : Blk W g 105 (sgnC m' lo' hi')) : (Instr.storeAt 105 (.pointer (some ⟨g, 0, none⟩)) (sgnV m lo hi)).run Try.prog W = .ok () (tenW W g m lo hi) := by
  have c0 : W.cell? ⟨g, 0, none⟩ = some (.bool m') := h.cell 0
  have c1 : W.cell? ⟨g, 1, none⟩ = some (.int .i64 lo') := h.cell 1
  have c2 : W.cell? ⟨g, 2, none⟩ = some (.int .i64 hi') := h.cell 2
  have c3 : W.cell? ⟨g, 3, none⟩ = some (.int .i64 0) := h.cell 3
  have c4 : W.cell? ⟨g, 4, none⟩ = some (.int .i64 0) := h.cell 4
  have c5 : W.cell? ⟨g, 5, none⟩ = some (.int .i64 0) := h.cell 5
  have c6 : W.cell? ⟨g, 6, none⟩ = some (.int .i64 0) := h.cell 6
  have c7 : W.cell? ⟨g, 7, none⟩ = some (.int .i64 0) := h.cell 7
  have c8 : W.cell? ⟨g, 8, none⟩ = some (.int .i64 0) := h.cell 8
  have c9 : W.cell? ⟨g, 9, none⟩ = some (.int .i64 0) := h.cell 9
  have f0 : W.frozen? ⟨g, 0, none⟩ = false := h.free 0
  have f1 : W.frozen? ⟨g, 1, none⟩ = false := h.free 1
  have f2 : W.frozen? ⟨g, 2, none⟩ = false := h.free 2
  have f3 : W.frozen? ⟨g, 3, none⟩ = false := h.free 3
  have f4 : W.frozen? ⟨g, 4, none⟩ = false := h.free 4
  have f5 : W.frozen? ⟨g, 5, none⟩ = false := h.free 5
  have f6 : W.frozen? ⟨g, 6, none⟩ = false := h.free 6
  have f7 : W.frozen? ⟨g, 7, none⟩ = false := h.free 7
  have f8 : W.frozen? ⟨g, 8, none⟩ = false := h.free 8
  have f9 : W.frozen? ⟨g, 9, none⟩ = false := h.free 9
  unfold sgnV tenW
  clear h
  go_simp
theorem tenW_blk {m' : Bool} {lo' hi' : Int} (h : Blk W g 105 (sgnC m' lo' hi')) : Blk (tenW W g m lo hi) g 105 (sgnC m lo hi) := by
  have h0 := h.set 0 (.bool m)
  have h1 := h0.set 1 (.int .i64 lo)
  have h2 := h1.set 2 (.int .i64 hi)
  have h3 := h2.set 3 (.int .i64 0)
  have h4 := h3.set 4 (.int .i64 0)
  have h5 := h4.set 5 (.int .i64 0)
  have h6 := h5.set 6 (.int .i64 0)
  have h7 := h6.set 7 (.int .i64 0)
  have h8 := h7.set 8 (.int .i64 0)
  have h9 := h8.set 9 (.int .i64 0)
  have e : ((((((((((sgnC m' lo' hi').setIfInBounds 0 (.bool m)).setIfInBounds 1 (.int .i64 lo)).setIfInBounds 2 (.int .i64 hi)).setIfInBounds 3 (.int .i64 0)).setIfInBounds 4 (.int .i64 0)).setIfInBounds 5 (.int .i64 0)).setIfInBounds 6 (.int .i64 0)).setIfInBounds 7 (.int .i64 0)).setIfInBounds 8 (.int .i64 0)).setIfInBounds 9 (.int .i64 0) = sgnC m lo hi := by simp [sgnC]
  rw [e] at h9
  exact h9
theorem tenW_ext {w0 : World} (x : Ext w0 W) (hg : w0.heap.size ≤ g) : Ext w0 (tenW W g m lo hi) := setTen x hg _ _ _ _ _ _ _ _ _ _
end
set_option maxRecDepth 100000 in
set_option maxHeartbeats 2000000 in
theorem mul_any (a b p : Int) (w : World) (ha : 0 ≤ a ∧ a ≤ 2147483647) (hb : 0 ≤ b ∧ b ≤ 2147483647) (hp : p = a * b) :
    Calls Try.prog 67 #[sgnV false a 0, sgnV false b 0] w fun e w' => e = .returned (sgnV false (lowP p) (highP p)) ∧ Ext w w' := by
  have B1 : Blk (((w.alloc (.cells (sgnC false a 0) 105)).alloc (.cells (sgnC false b 0) 105)).alloc (.cells (sgnC false 0 0) 105)) w.heap.size 105 (sgnC false a 0) := .alloc (.alloc (.new rfl) _) _
  have B2 : Blk (((w.alloc (.cells (sgnC false a 0) 105)).alloc (.cells (sgnC false b 0) 105)).alloc (.cells (sgnC false 0 0) 105)) (w.heap.size + 1) 105 (sgnC false b 0) := .alloc (.new (by simp)) _
  have B3 : Blk (((w.alloc (.cells (sgnC false a 0) 105)).alloc (.cells (sgnC false b 0) 105)).alloc (.cells (sgnC false 0 0) 105)) (w.heap.size + 1 + 1) 105 (sgnC false 0 0) := .new (by simp)
  have Y0 : Ext w (((w.alloc (.cells (sgnC false a 0) 105)).alloc (.cells (sgnC false b 0) 105)).alloc (.cells (sgnC false 0 0) 105)) := (((Ext.rf _).alloc _).alloc _).alloc _
  have hgn : (((w.alloc (.cells (sgnC false a 0) 105)).alloc (.cells (sgnC false b 0) 105)).alloc (.cells (sgnC false 0 0) 105)) = (((w.alloc (.cells #[.bool false, .int .i64 a, .int .i64 0, .int .i64 0, .int .i64 0, .int .i64 0, .int .i64 0, .int .i64 0, .int .i64 0, .int .i64 0] 105)).alloc (.cells #[.bool false, .int .i64 b, .int .i64 0, .int .i64 0, .int .i64 0, .int .i64 0, .int .i64 0, .int .i64 0, .int .i64 0, .int .i64 0] 105)).alloc (.cells #[.bool false, .int .i64 0, .int .i64 0, .int .i64 0, .int .i64 0, .int .i64 0, .int .i64 0, .int .i64 0, .int .i64 0, .int .i64 0] 105)) := rfl
  rw [hgn] at B1 B2 B3 Y0
  clear hgn
  replace B1 := Lib.hid B1
  replace B2 := Lib.hid B2
  replace B3 := Lib.hid B3
  replace Y0 := Lib.hid Y0
  replace hp := Lib.hid hp
  unfold sgnV
  go_enter Try.func67, Try.ntmps67
  go_wp2_with (fail)
  generalize (((w.alloc (.cells #[.bool false, .int .i64 a, .int .i64 0, .int .i64 0, .int .i64 0, .int .i64 0, .int .i64 0, .int .i64 0, .int .i64 0, .int .i64 0] 105)).alloc (.cells #[.bool false, .int .i64 b, .int .i64 0, .int .i64 0, .int .i64 0, .int .i64 0, .int .i64 0, .int .i64 0, .int .i64 0, .int .i64 0] 105)).alloc (.cells #[.bool false, .int .i64 0, .int .i64 0, .int .i64 0, .int .i64 0, .int .i64 0, .int .i64 0, .int .i64 0, .int .i64 0, .int .i64 0] 105)) = wr at *
  refine wp_region_any (by kernel_rfl) ?_
  change wpAny _ _ _ _ _ _ _ (World.drew _)
  refine wpAny_T (i := 0) (op := Op.fieldAddr 105 (Operand.tmp 2) 0) (t := 0) (d := some 5) (v := ?_) rfl (by decide +kernel) (by decide +kernel) (by decide +kernel) (fun _ _ _ h => h) ?_ ?_
  case refine_2 => (intro _; unfold exec2; go_simp; try with_reducible rfl)
  try simp only [Act.put, List.setIfInBounds_toArray, List.set_cons_zero, List.set_cons_succ]
  refine wpAny_T (i := 2) (op := Op.fieldAddr 105 (Operand.tmp 3) 0) (t := 0) (d := some 7) (v := ?_) rfl (by decide +kernel) (by decide +kernel) (by decide +kernel) (fun _ _ _ h => h) ?_ ?_
  case refine_2 => (intro _; unfold exec2; go_simp; try with_reducible rfl)
  try simp only [Act.put, List.setIfInBounds_toArray, List.set_cons_zero, List.set_cons_succ]
  refine wpAny_T (i := 5) (op := Op.fieldAddr 105 (Operand.tmp 2) 1) (t := 0) (d := some 10) (v := ?_) rfl (by decide +kernel) (by decide +kernel) (by decide +kernel) (fun _ _ _ h => h) ?_ ?_
  case refine_2 => (intro _; unfold exec2; go_simp; try with_reducible rfl)
  try simp only [Act.put, List.setIfInBounds_toArray, List.set_cons_zero, List.set_cons_succ]
  refine wpAny_T (i := 7) (op := Op.fieldAddr 105 (Operand.tmp 3) 1) (t := 0) (d := some 12) (v := ?_) rfl (by decide +kernel) (by decide +kernel) (by decide +kernel) (fun _ _ _ h => h) ?_ ?_
  case refine_2 => (intro _; unfold exec2; go_simp; try with_reducible rfl)
  try simp only [Act.put, List.setIfInBounds_toArray, List.set_cons_zero, List.set_cons_succ]
  refine wpAny_core2 (n := 2) [(1, some 6), (3, some 8), (4, some 9), (6, some 11), (8, some 13), (9, some 14)] (Ext wr)
    (VF (fun | 1 => some (.bool false) | 3 => some (.bool false) | 4 => some (.bool false) | 6 => some (bigV a 0) | 8 => some (bigV b 0) | 9 => some (bigV (lowP p) (highP p)) | _ => none) (fun _ _ _ => True))
    Ext #[true, true, true, true, true, true, true, true, true, true, false, false] (by kernel_rfl) (VF.stab ?_) ?_ ?_ ((Ext.rf _).drew)
  · intro j v W W' _ h _
    exact h
  · intro pq hpm u W hRW hD K hK
    have b1 := B1.out.ext hRW
    have b2 := B2.out.ext hRW
    simp only [List.mem_cons, List.not_mem_nil, or_false] at hpm
    rcases hpm with rfl | rfl | rfl | rfl | rfl | rfl
    · exact op_ld (T := 4) rfl (.pointer (some ⟨w.heap.size, 0, none⟩)) (by kernel_rfl) (.bool false) (load_minus b1) (hK _ _ (VF.mk rfl) hRW (Ext.rf _))
    · exact op_ld (T := 4) rfl (.pointer (some ⟨w.heap.size + 1, 0, none⟩)) (by kernel_rfl) (.bool false) (load_minus b2) (hK _ _ (VF.mk rfl) hRW (Ext.rf _))
    · have h1 := (hD 1 (depIn (by kernel_rfl))).k rfl
      have h3 := (hD 3 (depIn (by kernel_rfl))).k rfl
      exact op_run rfl (.bool false) (by simp only [putAll, h1, h3]; unfold exec2; go_simp) (hK _ _ (VF.mk rfl) hRW (Ext.rf _))
    · exact op_ld (T := 103) rfl (.pointer (some ⟨w.heap.size, 1, none⟩)) (by kernel_rfl) (bigV a 0) (load_size b1) (hK _ _ (VF.mk rfl) hRW (Ext.rf _))
    · exact op_ld (T := 103) rfl (.pointer (some ⟨w.heap.size + 1, 1, none⟩)) (by kernel_rfl) (bigV b 0) (load_size b2) (hK _ _ (VF.mk rfl) hRW (Ext.rf _))
    · have h6 := (hD 6 (depIn (by kernel_rfl))).k rfl
      have h8 := (hD 8 (depIn (by kernel_rfl))).k rfl
      refine op_call rfl #[bigV a 0, bigV b 0] (by go_simp) (by simp only [putAll, h6, h8]; kernel_rfl) _ (times_any a b p W ha hb hp.out) ?_
      rintro e w3 ⟨rfl, x3⟩
      exact ⟨_, rfl, hK _ _ (VF.mk rfl) (hRW.tr x3) x3⟩
  · intro u w3 hRW hV
    have h1 := (hV (1, some 6) (by simp)).k rfl
    have h3 := (hV (3, some 8) (by simp)).k rfl
    have h4 := (hV (4, some 9) (by simp)).k rfl
    have h6 := (hV (6, some 11) (by simp)).k rfl
    have h8 := (hV (8, some 13) (by simp)).k rfl
    have h9 := (hV (9, some 14) (by simp)).k rfl
    simp only [putAll, h1, h3, h4, h6, h8, h9]
    clear hV h1 h3 h4 h6 h8 h9
    have b3 := B3.out.ext hRW
    have b4 : Blk (tenW w3 (w.heap.size + 1 + 1) false (lowP p) (highP p)) (w.heap.size + 1 + 1) 105 (sgnC false (lowP p) (highP p)) := tenW_blk b3
    have Y4 := Lib.hid (tenW_ext (m := false) (lo := lowP p) (hi := highP p) (g := w.heap.size + 1 + 1) (Ext.tr Y0.out hRW) (by omega))
    unfold bigV
    try simp only [Act.put, List.setIfInBounds_toArray, List.set_cons_zero, List.set_cons_succ]
    refine wpAny_T (i := 10) (op := Op.build 105 #[(0, Operand.tmp 9), (1, Operand.tmp 14)]) (t := 105) (d := some 15) (v := ?_) rfl (by decide +kernel) (by decide +kernel) (by decide +kernel) (fun _ _ _ h => h) ?_ ?_
    case refine_2 => (intro _; unfold exec2; go_simp; try with_reducible rfl)
    try simp only [Act.put, List.setIfInBounds_toArray, List.set_cons_zero, List.set_cons_succ]
    refine wpAny_next 11 (by kernel_rfl) (op_st rfl (.pointer (some ⟨w.heap.size + 1 + 1, 0, none⟩)) (sgnV false (lowP p) (highP p)) (by kernel_rfl) (by kernel_rfl) (store_sgn b3) ?_)
    refine wpAny_done (by kernel_rfl) ?_ _
    clear b3 hRW
    generalize tenW w3 (w.heap.size + 1 + 1) false (lowP p) (highP p) = w5 at *
    have c0 : w5.cell? ⟨w.heap.size + 1 + 1, 0, none⟩ = some (.bool false) := b4.cell 0
    have c1 : w5.cell? ⟨w.heap.size + 1 + 1, 1, none⟩ = some (.int .i64 (lowP p)) := b4.cell 1
    have c2 : w5.cell? ⟨w.heap.size + 1 + 1, 2, none⟩ = some (.int .i64 (highP p)) := b4.cell 2
    have c3 : w5.cell? ⟨w.heap.size + 1 + 1, 3, none⟩ = some (.int .i64 0) := b4.cell 3
    have c4 : w5.cell? ⟨w.heap.size + 1 + 1, 4, none⟩ = some (.int .i64 0) := b4.cell 4
    have c5 : w5.cell? ⟨w.heap.size + 1 + 1, 5, none⟩ = some (.int .i64 0) := b4.cell 5
    have c6 : w5.cell? ⟨w.heap.size + 1 + 1, 6, none⟩ = some (.int .i64 0) := b4.cell 6
    have c7 : w5.cell? ⟨w.heap.size + 1 + 1, 7, none⟩ = some (.int .i64 0) := b4.cell 7
    have c8 : w5.cell? ⟨w.heap.size + 1 + 1, 8, none⟩ = some (.int .i64 0) := b4.cell 8
    have c9 : w5.cell? ⟨w.heap.size + 1 + 1, 9, none⟩ = some (.int .i64 0) := b4.cell 9
    clear b4
    go_simp
    go_wp2_with (fail)
    exact bodyPost_ret (v := sgnV false (lowP p) (highP p)) (by simp [results, Try.results67, go_sem, sgnV, *]) rfl ⟨rfl, Y4.out⟩
end Go.Proofs.Ytpapkofildcdiaa
namespace Go.Proofs.Ytpapkofildcdiaa
open Go.RowKit Go.ChangeShapes Go.WideShapes Go.ChangeAt Go.Deep

def dig (lo hi : Int) (k : Nat) : Int := if k = 0 then lo else if k = 1 then hi else 0
/-- from place k down -/
def lessD (lo hi lo' hi' : Int) : Nat → Bool
  | 0 => false
  | k + 1 => if dig lo hi k = dig lo' hi' k then lessD lo hi lo' hi' k else decide (dig lo hi k < dig lo' hi' k)
theorem lessD_nine {p q : Int} : lessD (lowP p) (highP p) (lowP q) (highP q) 9 = decide (p < q) := by
  simp only [lessD, dig]
  simp
  unfold lowP highP
  by_cases h1 : p / 2147483648 = q / 2147483648
  · rw [if_pos h1, Bool.eq_iff_iff]
    simp
    omega
  · rw [if_neg h1, decide_eq_decide]
    omega
set_option maxRecDepth 100000 in
set_option maxHeartbeats 2000000 in
theorem less_any (p q : Int) (w : World) : Calls Try.prog 74 #[bigV (lowP p) (highP p), bigV (lowP q) (highP q)] w fun e w' => e = .returned (.bool (decide (p < q))) ∧ Ext w w' := by
  have HL := Lib.hid (@lessD_nine p q)
  generalize lowP p = lo at *
  generalize highP p = hi at *
  generalize lowP q = lo' at *
  generalize highP q = hi' at *
  have BA : Hid (Blk ((w.alloc (.cells (bigC lo hi) 103)).alloc (.cells (bigC lo' hi') 103)) w.heap.size 103 (bigC lo hi)) := .alloc (.new rfl) _
  have BB : Hid (Blk ((w.alloc (.cells (bigC lo hi) 103)).alloc (.cells (bigC lo' hi') 103)) (w.heap.size + 1) 103 (bigC lo' hi')) := .new (by simp)
  have Y0 : Hid (Ext w ((w.alloc (.cells (bigC lo hi) 103)).alloc (.cells (bigC lo' hi') 103))) := ((Ext.rf _).alloc _).alloc _
  obtain ⟨res, hres⟩ : ∃ res, Hid (res = decide (p < q)) := ⟨_, rfl⟩
  rw [← hres.out] at HL ⊢
  unfold bigV
  go_enter Try.func74, Try.ntmps74
  go_wp2_with (fail)
  go_loopw [5] (fun i wr => ∃ (k : Nat) (z : Int), i = .int .i64 z ∧ z + 1 = (k : Int) ∧ k ≤ 9 ∧ Hid (lessD lo hi lo' hi' k = res) ∧ Ext w wr ∧ Hid (Blk wr w.heap.size 103 (bigC lo hi)) ∧ Hid (Blk wr (w.heap.size + 1) 103 (bigC lo' hi'))) (fun i _ => (intOf i + 1).toNat)
  case atStart => exact ⟨9, 8, rfl, by omega, by omega, HL, Y0.out, BA, BB⟩
  case round =>
    obtain ⟨wo, rfl⟩ : ∃ wo : World, wo = wr := ⟨_, rfl⟩
    obtain ⟨k, z, rfl, hz, hk, HS, Y, A1, B1⟩ := hrel
    by_cases h0 : 1 ≤ k
    · obtain ⟨m, rfl⟩ : ∃ m, k = m + 1 := ⟨k - 1, by omega⟩
      obtain rfl : z = (m : Int) := by omega
      have gA := A1.out.cell m
      have gB := B1.out.cell m
      rw [bigC_get _ _ _ (by omega)] at gA gB
      have HT : Hid (res = if dig lo hi m = dig lo' hi' m then lessD lo hi lo' hi' m else decide (dig lo hi m < dig lo' hi' m)) := HS.out.symm
      obtain ⟨x, hx⟩ : ∃ x, Hid (x = dig lo hi m) := ⟨_, rfl⟩
      obtain ⟨y, hy⟩ : ∃ y, Hid (y = dig lo' hi' m) := ⟨_, rfl⟩
      have gA' : wo.cell? ⟨w.heap.size, m, none⟩ = some (.int .i64 x) := by rw [hx.out]; exact gA
      have gB' : wo.cell? ⟨w.heap.size + 1, m, none⟩ = some (.int .i64 y) := by rw [hy.out]; exact gB
      rw [← hx.out, ← hy.out] at HT
      have q3 : (m : Int) < 9 := by omega
      clear gA gB hz h0 hx hy HS
      by_cases hxy : x = y
      · subst hxy
        have HN : Hid (lessD lo hi lo' hi' m = res) := by
          have h := HT.out
          rw [if_pos rfl] at h
          exact h.symm
        go_wp2_with (go_quiet (fail))
        go_roundw
        case rel => exact ⟨m, _, rfl, by omega, by omega, HN, by repeat (first | exact Y | apply Ext.drewN), A1, B1⟩
        case measure => simp [intOf]
      · have hne : (x != y) = true := by simpa using hxy
        have HN : Hid (res = decide (x < y)) := by
          have h := HT.out
          rw [if_neg hxy] at h
          exact h
        clear hxy
        go_wp2_with (go_quiet (fail))
        all_goals go_ret
        all_goals exact ⟨ret_b HN.out.symm, by repeat (first | exact Y | apply Ext.drewN)⟩
    · obtain rfl : k = 0 := by omega
      obtain rfl : z = -1 := by omega
      go_wp2_with (fail)
      go_ret
      exact ⟨ret_b HS.out, Y⟩
/-- where the difference stands -/
def MinAt (p q : Int) (k : Nat) (x y u : Int) : Prop := (k = 0 ∧ x = 0 ∧ y = 0 ∧ u = 0) ∨ (k = 1 ∧ x = lowP (p - q) ∧ y = 0 ∧ u = if lowP p < lowP q then 1 else 0) ∨ (2 ≤ k ∧ x = lowP (p - q) ∧ y = highP (p - q) ∧ u = 0)
theorem min_step {p q : Int} (hq : 0 ≤ q) (hpq : q ≤ p) (hp : p ≤ 4611686014132420609) {k : Nat} (hk : k < 9) {x y u : Int} (h : MinAt p q k x y u) :
    ∃ a b d d' u' x' y' : Int, a = dig (lowP p) (highP p) k ∧ b = dig (lowP q) (highP q) k ∧ d = a - b - u ∧ d' = (if d < 0 then d + 2147483648 else d) ∧ u' = (if d < 0 then 1 else 0) ∧ (0 ≤ a ∧ a ≤ 2147483647) ∧ (0 ≤ b ∧ b ≤ 2147483647) ∧ (0 ≤ u ∧ u ≤ 1) ∧
      (bigC x y).setIfInBounds k (.int .i64 d') = bigC x' y' ∧ MinAt p q (k + 1) x' y' u' := by
  have b1 := parts_bd (p := p) ⟨by omega, hp⟩
  have b2 := parts_bd (p := q) ⟨hq, by omega⟩
  unfold MinAt at h ⊢
  unfold lowP highP at *
  rcases h with ⟨rfl, rfl, rfl, rfl⟩ | ⟨rfl, rfl, rfl, rfl⟩ | ⟨h, rfl, rfl, rfl⟩
  · refine ⟨p % 2147483648, q % 2147483648, _, (p - q) % 2147483648, _, _, 0, rfl, rfl, rfl, ?_, rfl, by omega, by omega, by omega, rfl, .inr (.inl ⟨rfl, rfl, rfl, ?_⟩)⟩
    · split <;> omega
    · split <;> split <;> omega
  · refine ⟨p / 2147483648, q / 2147483648, _, (p - q) / 2147483648, 0, _, _, rfl, rfl, rfl, ?_, ?_, by omega, by omega, by split <;> omega, rfl, .inr (.inr ⟨by omega, rfl, rfl, rfl⟩)⟩
    · split <;> split <;> omega
    · split <;> split <;> omega
  · refine ⟨0, 0, _, 0, 0, _, _, ?_, ?_, rfl, by simp, by simp, by omega, by omega, by omega, ?_, .inr (.inr ⟨by omega, rfl, rfl, rfl⟩)⟩
    · unfold dig; rw [if_neg (by omega), if_neg (by omega)]
    · unfold dig; rw [if_neg (by omega), if_neg (by omega)]
    · have e := bigC_same ((p - q) % 2147483648) ((p - q) / 2147483648) k hk
      rw [if_neg (by omega), if_neg (by omega)] at e
      exact e
set_option maxRecDepth 100000 in
set_option maxHeartbeats 4000000 in
theorem bminus_any (p q : Int) (w : World) (hq : 0 ≤ q) (hpq : q ≤ p) (hp : p ≤ 4611686014132420609) : Calls Try.prog 75 #[bigV (lowP p) (highP p), bigV (lowP q) (highP q)] w fun e w' => e = .returned (bigV (lowP (p - q)) (highP (p - q))) ∧ Ext w w' := by
  have Y0 : Ext w ((((w.alloc (.cells (bigC (lowP p) (highP p)) 103)).alloc (.cells (bigC (lowP q) (highP q)) 103)).alloc (.cells (bigC 0 0) 103)).alloc (.cells (bigC 0 0) 103)) := ((((Ext.rf _).alloc _).alloc _).alloc _).alloc _
  have BA : Blk ((((w.alloc (.cells (bigC (lowP p) (highP p)) 103)).alloc (.cells (bigC (lowP q) (highP q)) 103)).alloc (.cells (bigC 0 0) 103)).alloc (.cells (bigC 0 0) 103)) w.heap.size 103 (bigC (lowP p) (highP p)) := .alloc (.alloc (.alloc (.new rfl) _) _) _
  have BB : Blk ((((w.alloc (.cells (bigC (lowP p) (highP p)) 103)).alloc (.cells (bigC (lowP q) (highP q)) 103)).alloc (.cells (bigC 0 0) 103)).alloc (.cells (bigC 0 0) 103)) (w.heap.size + 1) 103 (bigC (lowP q) (highP q)) := .alloc (.alloc (.new (by simp)) _) _
  have BR : Blk ((((w.alloc (.cells (bigC (lowP p) (highP p)) 103)).alloc (.cells (bigC (lowP q) (highP q)) 103)).alloc (.cells (bigC 0 0) 103)).alloc (.cells (bigC 0 0) 103)) (w.heap.size + 1 + 1) 103 (bigC 0 0) := .alloc (.new (by simp)) _
  have BC : Blk ((((w.alloc (.cells (bigC (lowP p) (highP p)) 103)).alloc (.cells (bigC (lowP q) (highP q)) 103)).alloc (.cells (bigC 0 0) 103)).alloc (.cells (bigC 0 0) 103)) (w.heap.size + 1 + 1 + 1) 103 (bigC 0 0) := .new (by simp)
  replace Y0 := Lib.hid Y0
  replace BA := Lib.hid BA
  replace BB := Lib.hid BB
  replace BR := Lib.hid BR
  replace BC := Lib.hid BC
  have STEP : Hid (∀ (k : Nat), k < 9 → ∀ x y u : Int, MinAt p q k x y u → ∃ a b d d' u' x' y' : Int, a = dig (lowP p) (highP p) k ∧ b = dig (lowP q) (highP q) k ∧ d = a - b - u ∧ d' = (if d < 0 then d + 2147483648 else d) ∧ u' = (if d < 0 then 1 else 0) ∧ (0 ≤ a ∧ a ≤ 2147483647) ∧ (0 ≤ b ∧ b ≤ 2147483647) ∧ (0 ≤ u ∧ u ≤ 1) ∧ (bigC x y).setIfInBounds k (.int .i64 d') = bigC x' y' ∧ MinAt p q (k + 1) x' y' u') := fun k hk x y u h => min_step hq hpq hp hk h
  clear hq hpq hp
  unfold bigV
  go_enter Try.func75, Try.ntmps75
  go_wp2_with (fail)
  go_loopw [6, 7] (fun o i wr => ∃ (k : Nat) (x y u : Int), i = .int .i64 k ∧ o = .int .i64 u ∧ k ≤ 9 ∧ Hid (MinAt p q k x y u) ∧ Ext w wr ∧ Hid (Blk wr w.heap.size 103 (bigC (lowP p) (highP p))) ∧ Hid (Blk wr (w.heap.size + 1) 103 (bigC (lowP q) (highP q))) ∧ Hid (Blk wr (w.heap.size + 1 + 1) 103 (bigC 0 0)) ∧ Hid (Blk wr (w.heap.size + 1 + 1 + 1) 103 (bigC x y))) (fun _ i _ => 9 - (intOf i).toNat)
  case atStart => exact ⟨0, 0, 0, 0, rfl, rfl, by omega, .inl ⟨rfl, rfl, rfl, rfl⟩, Y0.out, BA, BB, BR, BC⟩
  case round =>
    obtain ⟨wo, rfl⟩ : ∃ wo : World, wo = wr := ⟨_, rfl⟩
    obtain ⟨k, x, y, u, rfl, rfl, hk, HM, Y, A1, B1, R1, C1⟩ := hrel
    by_cases hlt : k < 9
    · obtain ⟨a, b, d, d', u', x', y', ha, hb, hd, hd', hu', ba, bb, bu, hset, HM2⟩ := STEP.out k hlt x y u HM.out
      have gA := A1.out.cell k
      have gB := B1.out.cell k
      have gC := C1.out.cell k
      have fC := C1.out.free k
      rw [bigC_get _ _ _ hlt] at gA gB gC
      have gA' : wo.cell? ⟨w.heap.size, k, none⟩ = some (.int .i64 a) := by rw [ha]; exact gA
      have gB' : wo.cell? ⟨w.heap.size + 1, k, none⟩ = some (.int .i64 b) := by rw [hb]; exact gB
      have w1 : Hid (IntKind.i64.wrap (a - b) = a - b) := IntWalk.i64_in _ (by omega)
      have w2 : Hid (IntKind.i64.wrap (a - b - u) = d) := by
        have h : IntKind.i64.wrap (a - b - u) = d := by rw [hd]; exact IntWalk.i64_in _ (by omega)
        exact h
      have bd : -2147483649 ≤ d ∧ d ≤ 2147483647 := by omega
      obtain ⟨bd1, bd2⟩ := bd
      have q3 : (k : Int) < 9 := by omega
      have n1 : ¬ w.heap.size = w.heap.size + 1 + 1 + 1 := by omega
      replace hset := Lib.hid hset
      replace HM2 := Lib.hid HM2
      replace hd' := Lib.hid hd'
      replace hu' := Lib.hid hu'
      clear gA gB ha hb hd HM ba bb bu
      have w1' := w1.out
      have w2' := w2.out
      by_cases hneg : d < 0
      · have e1 : Hid (d' = d + 2147483648) := by
          have h := hd'.out
          rw [if_pos hneg] at h
          exact h
        have e2 : Hid (u' = 1) := by
          have h := hu'.out
          rw [if_pos hneg] at h
          exact h
        rw [e1.out] at hset
        rw [e2.out] at HM2
        go_wp2_with (go_quiet (fail))
        go_roundw
        case rel => exact ⟨k + 1, x', y', 1, by go_num, rfl, by omega, HM2, (Y.drewN _).setNew (by simp <;> omega) _, (A1.out.drewN _).far (by simp <;> omega) _, (B1.out.drewN _).far (by simp <;> omega) _, (R1.out.drewN _).far (by simp <;> omega) _, by rw [← hset.out]; exact (C1.out.drewN _).set k _⟩
        case measure => simp [intOf]; omega
      · have e1 : Hid (d' = d) := by
          have h := hd'.out
          rw [if_neg hneg] at h
          exact h
        have e2 : Hid (u' = 0) := by
          have h := hu'.out
          rw [if_neg hneg] at h
          exact h
        rw [e1.out] at hset
        rw [e2.out] at HM2
        go_wp2_with (go_quiet (fail))
        go_roundw
        case rel => exact ⟨k + 1, x', y', 0, by go_num, rfl, by omega, HM2, (Y.drewN _).setNew (by simp <;> omega) _, (A1.out.drewN _).far (by simp <;> omega) _, (B1.out.drewN _).far (by simp <;> omega) _, (R1.out.drewN _).far (by simp <;> omega) _, by rw [← hset.out]; exact (C1.out.drewN _).set k _⟩
        case measure => simp [intOf]; omega
    · obtain rfl : k = 9 := by omega
      have HM4 : Hid (x = lowP (p - q) ∧ y = highP (p - q)) := by
        rcases HM.out with ⟨h, _⟩ | ⟨h, _⟩ | ⟨_, h1, h2, _⟩
        · omega
        · omega
        · exact ⟨h1, h2⟩
      obtain ⟨rfl, rfl⟩ := HM4.out
      clear HM HM4 STEP
      have c0 : wo.cell? ⟨w.heap.size + 1 + 1 + 1, 0, none⟩ = some (.int .i64 (lowP (p - q))) := C1.out.cell 0
      have c1 : wo.cell? ⟨w.heap.size + 1 + 1 + 1, 1, none⟩ = some (.int .i64 (highP (p - q))) := C1.out.cell 1
      have c2 : wo.cell? ⟨w.heap.size + 1 + 1 + 1, 2, none⟩ = some (.int .i64 0) := C1.out.cell 2
      have c3 : wo.cell? ⟨w.heap.size + 1 + 1 + 1, 3, none⟩ = some (.int .i64 0) := C1.out.cell 3
      have c4 : wo.cell? ⟨w.heap.size + 1 + 1 + 1, 4, none⟩ = some (.int .i64 0) := C1.out.cell 4
      have c5 : wo.cell? ⟨w.heap.size + 1 + 1 + 1, 5, none⟩ = some (.int .i64 0) := C1.out.cell 5
      have c6 : wo.cell? ⟨w.heap.size + 1 + 1 + 1, 6, none⟩ = some (.int .i64 0) := C1.out.cell 6
      have c7 : wo.cell? ⟨w.heap.size + 1 + 1 + 1, 7, none⟩ = some (.int .i64 0) := C1.out.cell 7
      have c8 : wo.cell? ⟨w.heap.size + 1 + 1 + 1, 8, none⟩ = some (.int .i64 0) := C1.out.cell 8
      have z0 : wo.cell? ⟨w.heap.size + 1 + 1, 0, none⟩ = some (.int .i64 0) := R1.out.cell 0
      have z1 : wo.cell? ⟨w.heap.size + 1 + 1, 1, none⟩ = some (.int .i64 0) := R1.out.cell 1
      have z2 : wo.cell? ⟨w.heap.size + 1 + 1, 2, none⟩ = some (.int .i64 0) := R1.out.cell 2
      have z3 : wo.cell? ⟨w.heap.size + 1 + 1, 3, none⟩ = some (.int .i64 0) := R1.out.cell 3
      have z4 : wo.cell? ⟨w.heap.size + 1 + 1, 4, none⟩ = some (.int .i64 0) := R1.out.cell 4
      have z5 : wo.cell? ⟨w.heap.size + 1 + 1, 5, none⟩ = some (.int .i64 0) := R1.out.cell 5
      have z6 : wo.cell? ⟨w.heap.size + 1 + 1, 6, none⟩ = some (.int .i64 0) := R1.out.cell 6
      have z7 : wo.cell? ⟨w.heap.size + 1 + 1, 7, none⟩ = some (.int .i64 0) := R1.out.cell 7
      have z8 : wo.cell? ⟨w.heap.size + 1 + 1, 8, none⟩ = some (.int .i64 0) := R1.out.cell 8
      have f0 : wo.frozen? ⟨w.heap.size + 1 + 1, 0, none⟩ = false := R1.out.free 0
      have f1 : wo.frozen? ⟨w.heap.size + 1 + 1, 1, none⟩ = false := R1.out.free 1
      have f2 : wo.frozen? ⟨w.heap.size + 1 + 1, 2, none⟩ = false := R1.out.free 2
      have f3 : wo.frozen? ⟨w.heap.size + 1 + 1, 3, none⟩ = false := R1.out.free 3
      have f4 : wo.frozen? ⟨w.heap.size + 1 + 1, 4, none⟩ = false := R1.out.free 4
      have f5 : wo.frozen? ⟨w.heap.size + 1 + 1, 5, none⟩ = false := R1.out.free 5
      have f6 : wo.frozen? ⟨w.heap.size + 1 + 1, 6, none⟩ = false := R1.out.free 6
      have f7 : wo.frozen? ⟨w.heap.size + 1 + 1, 7, none⟩ = false := R1.out.free 7
      have f8 : wo.frozen? ⟨w.heap.size + 1 + 1, 8, none⟩ = false := R1.out.free 8
      have Y9 := Lib.hid (setNine Y (g := w.heap.size + 1 + 1) (by omega) (.int .i64 (lowP (p - q))) (.int .i64 (highP (p - q))) (.int .i64 0) (.int .i64 0) (.int .i64 0) (.int .i64 0) (.int .i64 0) (.int .i64 0) (.int .i64 0))
      go_wp2_with (fail)
      exact bodyPost_ret (v := bigV (lowP (p - q)) (highP (p - q))) (by simp [results, Try.results75, go_sem, bigV, *]) rfl ⟨rfl, Y9.out⟩
end Go.Proofs.Ytpapkofildcdiaa
namespace Go.Proofs.Ytpapkofildcdiaa
open Go.RowKit Go.ChangeShapes Go.WideShapes Go.ChangeAt Go.Deep

def diffV (p q : Int) : Value := if p < q then sgnV true (lowP (q - p)) (highP (q - p)) else sgnV false (lowP (p - q)) (highP (p - q))
set_option maxRecDepth 100000 in
set_option maxHeartbeats 4000000 in
theorem badd_any (p q : Int) (w : World) (hp : 0 ≤ p ∧ p ≤ 4611686014132420609) (hq : 0 ≤ q ∧ q ≤ 4611686014132420609) :
    Calls Try.prog 69 #[sgnV false (lowP p) (highP p), sgnV true (lowP q) (highP q)] w fun e w' => e = .returned (diffV p q) ∧ Ext w w' := by
  have B1 : Blk (((w.alloc (.cells (sgnC false (lowP p) (highP p)) 105)).alloc (.cells (sgnC true (lowP q) (highP q)) 105)).alloc (.cells (sgnC false 0 0) 105)) w.heap.size 105 (sgnC false (lowP p) (highP p)) := .alloc (.alloc (.new rfl) _) _
  have B2 : Blk (((w.alloc (.cells (sgnC false (lowP p) (highP p)) 105)).alloc (.cells (sgnC true (lowP q) (highP q)) 105)).alloc (.cells (sgnC false 0 0) 105)) (w.heap.size + 1) 105 (sgnC true (lowP q) (highP q)) := .alloc (.new (by simp)) _
  have B3 : Blk (((w.alloc (.cells (sgnC false (lowP p) (highP p)) 105)).alloc (.cells (sgnC true (lowP q) (highP q)) 105)).alloc (.cells (sgnC false 0 0) 105)) (w.heap.size + 1 + 1) 105 (sgnC false 0 0) := .new (by simp)
  have Y0 : Ext w (((w.alloc (.cells (sgnC false (lowP p) (highP p)) 105)).alloc (.cells (sgnC true (lowP q) (highP q)) 105)).alloc (.cells (sgnC false 0 0) 105)) := (((Ext.rf _).alloc _).alloc _).alloc _
  have LE := fun W => less_any p q W
  obtain ⟨wr, hwr⟩ : ∃ wr, wr = (((w.alloc (.cells (sgnC false (lowP p) (highP p)) 105)).alloc (.cells (sgnC true (lowP q) (highP q)) 105)).alloc (.cells (sgnC false 0 0) 105)) := ⟨_, rfl⟩
  have hwl : (((w.alloc (.cells #[.bool false, .int .i64 (lowP p), .int .i64 (highP p), .int .i64 0, .int .i64 0, .int .i64 0, .int .i64 0, .int .i64 0, .int .i64 0, .int .i64 0] 105)).alloc (.cells #[.bool true, .int .i64 (lowP q), .int .i64 (highP q), .int .i64 0, .int .i64 0, .int .i64 0, .int .i64 0, .int .i64 0, .int .i64 0, .int .i64 0] 105)).alloc (.cells #[.bool false, .int .i64 0, .int .i64 0, .int .i64 0, .int .i64 0, .int .i64 0, .int .i64 0, .int .i64 0, .int .i64 0, .int .i64 0] 105)) = wr := hwr.symm
  rw [← hwr] at B1 B2 B3 Y0
  clear hwr
  replace B1 := Lib.hid B1
  replace B2 := Lib.hid B2
  replace B3 := Lib.hid B3
  replace Y0 := Lib.hid Y0
  replace LE := Lib.hid LE
  replace hwl := Lib.hid hwl
  unfold sgnV
  go_enter Try.func69, Try.ntmps69
  go_wp2_with (fail)
  rw [hwl.out]
  refine (LE.out _).mono ?_
  rintro e w2 ⟨rfl, x2⟩
  replace x2 := Lib.hid x2
  by_cases hlt : p < q
  · have hb : decide (p < q) = true := by simpa using hlt
    have MIN := Lib.hid (fun W => bminus_any q p W hp.1 (by omega) hq.2)
    replace hlt := Lib.hid hlt
    clear LE
    go_wp2_with (fail)
    refine wp_region_any (by kernel_rfl) ?_
    change wpAny _ _ _ _ _ _ _ (World.drew _)
    refine wpAny_T (i := 0) (op := Op.fieldAddr 105 (Operand.tmp 3) 0) (t := 0) (d := some 23) (v := ?_) rfl (by decide +kernel) (by decide +kernel) (by decide +kernel) (fun _ _ _ h => h) ?_ ?_
    case refine_2 => (intro _; unfold exec2; go_simp; try with_reducible rfl)
    try simp only [Act.put, List.setIfInBounds_toArray, List.set_cons_zero, List.set_cons_succ]
    refine wpAny_T (i := 2) (op := Op.fieldAddr 105 (Operand.tmp 3) 1) (t := 0) (d := some 25) (v := ?_) rfl (by decide +kernel) (by decide +kernel) (by decide +kernel) (fun _ _ _ h => h) ?_ ?_
    case refine_2 => (intro _; unfold exec2; go_simp; try with_reducible rfl)
    try simp only [Act.put, List.setIfInBounds_toArray, List.set_cons_zero, List.set_cons_succ]
    refine wpAny_T (i := 4) (op := Op.fieldAddr 105 (Operand.tmp 2) 1) (t := 0) (d := some 27) (v := ?_) rfl (by decide +kernel) (by decide +kernel) (by decide +kernel) (fun _ _ _ h => h) ?_ ?_
    case refine_2 => (intro _; unfold exec2; go_simp; try with_reducible rfl)
    try simp only [Act.put, List.setIfInBounds_toArray, List.set_cons_zero, List.set_cons_succ]
    refine wpAny_core2 (n := 2) [(1, some 24), (3, some 26), (5, some 28), (6, some 29)] (Ext w2)
      (VF (fun | 1 => some (.bool true) | 3 => some (bigV (lowP q) (highP q)) | 5 => some (bigV (lowP p) (highP p)) | 6 => some (bigV (lowP (q - p)) (highP (q - p))) | _ => none) (fun _ _ _ => True))
      Ext #[true, true, true, true, true, true, true, false, false] (by kernel_rfl) (VF.stab ?_) ?_ ?_ ((Ext.rf _).drew)
    · intro j v W W' _ h _
      exact h
    · intro pq hpm u W hRW hD K hK
      have b1 := B1.out.ext (x2.out.tr hRW)
      have b2 := B2.out.ext (x2.out.tr hRW)
      simp only [List.mem_cons, List.not_mem_nil, or_false] at hpm
      rcases hpm with rfl | rfl | rfl | rfl
      · exact op_ld (T := 4) rfl (.pointer (some ⟨w.heap.size + 1, 0, none⟩)) (by kernel_rfl) (.bool true) (load_minus b2) (hK _ _ (VF.mk rfl) hRW (Ext.rf _))
      · exact op_ld (T := 103) rfl (.pointer (some ⟨w.heap.size + 1, 1, none⟩)) (by kernel_rfl) (bigV (lowP q) (highP q)) (load_size b2) (hK _ _ (VF.mk rfl) hRW (Ext.rf _))
      · exact op_ld (T := 103) rfl (.pointer (some ⟨w.heap.size, 1, none⟩)) (by kernel_rfl) (bigV (lowP p) (highP p)) (load_size b1) (hK _ _ (VF.mk rfl) hRW (Ext.rf _))
      · have h3 := (hD 3 (depIn (by kernel_rfl))).k rfl
        have h5 := (hD 5 (depIn (by kernel_rfl))).k rfl
        refine op_call rfl #[bigV (lowP q) (highP q), bigV (lowP p) (highP p)] (by go_simp) (by simp only [putAll, h3, h5]; kernel_rfl) _ (MIN.out W) ?_
        rintro e w3 ⟨rfl, x3⟩
        exact ⟨_, rfl, hK _ _ (VF.mk rfl) (hRW.tr x3) x3⟩
    · intro u w3 hRW hV
      have h1 := (hV (1, some 24) (by simp)).k rfl
      have h3 := (hV (3, some 26) (by simp)).k rfl
      have h5 := (hV (5, some 28) (by simp)).k rfl
      have h6 := (hV (6, some 29) (by simp)).k rfl
      simp only [putAll, h1, h3, h5, h6]
      clear hV h1 h3 h5 h6
      have b3 := B3.out.ext (x2.out.tr hRW)
      have b4 : Blk (tenW w3 (w.heap.size + 1 + 1) true (lowP (q - p)) (highP (q - p))) (w.heap.size + 1 + 1) 105 (sgnC true (lowP (q - p)) (highP (q - p))) := tenW_blk b3
      have Y4 := Lib.hid (tenW_ext (m := true) (lo := (lowP (q - p))) (hi := (highP (q - p))) (g := w.heap.size + 1 + 1) (Ext.tr (Ext.tr Y0.out x2.out) hRW) (by omega))
      unfold bigV
      try simp only [Act.put, List.setIfInBounds_toArray, List.set_cons_zero, List.set_cons_succ]
      refine wpAny_T (i := 7) (op := Op.build 105 #[(0, Operand.tmp 24), (1, Operand.tmp 29)]) (t := 105) (d := some 30) (v := ?_) rfl (by decide +kernel) (by decide +kernel) (by decide +kernel) (fun _ _ _ h => h) ?_ ?_
      case refine_2 => (intro _; unfold exec2; go_simp; try with_reducible rfl)
      try simp only [Act.put, List.setIfInBounds_toArray, List.set_cons_zero, List.set_cons_succ]
      refine wpAny_next 8 (by kernel_rfl) (op_st rfl (.pointer (some ⟨w.heap.size + 1 + 1, 0, none⟩)) (sgnV true (lowP (q - p)) (highP (q - p))) (by kernel_rfl) (by kernel_rfl) (store_sgn b3) ?_)
      refine wpAny_done (by kernel_rfl) ?_ _
      clear b3 hRW
      generalize tenW w3 (w.heap.size + 1 + 1) true (lowP (q - p)) (highP (q - p)) = w5 at *
      have c0 : w5.cell? ⟨w.heap.size + 1 + 1, 0, none⟩ = some (.bool true) := b4.cell 0
      have c1 : w5.cell? ⟨w.heap.size + 1 + 1, 1, none⟩ = some (.int .i64 (lowP (q - p))) := b4.cell 1
      have c2 : w5.cell? ⟨w.heap.size + 1 + 1, 2, none⟩ = some (.int .i64 (highP (q - p))) := b4.cell 2
      have c3 : w5.cell? ⟨w.heap.size + 1 + 1, 3, none⟩ = some (.int .i64 0) := b4.cell 3
      have c4 : w5.cell? ⟨w.heap.size + 1 + 1, 4, none⟩ = some (.int .i64 0) := b4.cell 4
      have c5 : w5.cell? ⟨w.heap.size + 1 + 1, 5, none⟩ = some (.int .i64 0) := b4.cell 5
      have c6 : w5.cell? ⟨w.heap.size + 1 + 1, 6, none⟩ = some (.int .i64 0) := b4.cell 6
      have c7 : w5.cell? ⟨w.heap.size + 1 + 1, 7, none⟩ = some (.int .i64 0) := b4.cell 7
      have c8 : w5.cell? ⟨w.heap.size + 1 + 1, 8, none⟩ = some (.int .i64 0) := b4.cell 8
      have c9 : w5.cell? ⟨w.heap.size + 1 + 1, 9, none⟩ = some (.int .i64 0) := b4.cell 9
      clear b4
      go_simp
      go_wp2_with (fail)
      exact bodyPost_ret (v := sgnV true (lowP (q - p)) (highP (q - p))) (by simp [results, Try.results69, go_sem, sgnV, *]) rfl ⟨by rw [diffV, if_pos hlt.out], Y4.out⟩
  · have hb : decide (p < q) = false := by simpa using hlt
    have MIN := Lib.hid (fun W => bminus_any p q W hq.1 (by omega) hp.2)
    replace hlt := Lib.hid hlt
    clear LE
    go_wp2_with (fail)
    refine wp_region_any (by kernel_rfl) ?_
    change wpAny _ _ _ _ _ _ _ (World.drew _)
    refine wpAny_T (i := 0) (op := Op.fieldAddr 105 (Operand.tmp 2) 0) (t := 0) (d := some 31) (v := ?_) rfl (by decide +kernel) (by decide +kernel) (by decide +kernel) (fun _ _ _ h => h) ?_ ?_
    case refine_2 => (intro _; unfold exec2; go_simp; try with_reducible rfl)
    try simp only [Act.put, List.setIfInBounds_toArray, List.set_cons_zero, List.set_cons_succ]
    refine wpAny_T (i := 2) (op := Op.fieldAddr 105 (Operand.tmp 2) 1) (t := 0) (d := some 33) (v := ?_) rfl (by decide +kernel) (by decide +kernel) (by decide +kernel) (fun _ _ _ h => h) ?_ ?_
    case refine_2 => (intro _; unfold exec2; go_simp; try with_reducible rfl)
    try simp only [Act.put, List.setIfInBounds_toArray, List.set_cons_zero, List.set_cons_succ]
    refine wpAny_T (i := 4) (op := Op.fieldAddr 105 (Operand.tmp 3) 1) (t := 0) (d := some 35) (v := ?_) rfl (by decide +kernel) (by decide +kernel) (by decide +kernel) (fun _ _ _ h => h) ?_ ?_
    case refine_2 => (intro _; unfold exec2; go_simp; try with_reducible rfl)
    try simp only [Act.put, List.setIfInBounds_toArray, List.set_cons_zero, List.set_cons_succ]
    refine wpAny_core2 (n := 2) [(1, some 32), (3, some 34), (5, some 36), (6, some 37)] (Ext w2)
      (VF (fun | 1 => some (.bool false) | 3 => some (bigV (lowP p) (highP p)) | 5 => some (bigV (lowP q) (highP q)) | 6 => some (bigV (lowP (p - q)) (highP (p - q))) | _ => none) (fun _ _ _ => True))
      Ext #[true, true, true, true, true, true, true, false, false] (by kernel_rfl) (VF.stab ?_) ?_ ?_ ((Ext.rf _).drew)
    · intro j v W W' _ h _
      exact h
    · intro pq hpm u W hRW hD K hK
      have b1 := B1.out.ext (x2.out.tr hRW)
      have b2 := B2.out.ext (x2.out.tr hRW)
      simp only [List.mem_cons, List.not_mem_nil, or_false] at hpm
      rcases hpm with rfl | rfl | rfl | rfl
      · exact op_ld (T := 4) rfl (.pointer (some ⟨w.heap.size, 0, none⟩)) (by kernel_rfl) (.bool false) (load_minus b1) (hK _ _ (VF.mk rfl) hRW (Ext.rf _))
      · exact op_ld (T := 103) rfl (.pointer (some ⟨w.heap.size, 1, none⟩)) (by kernel_rfl) (bigV (lowP p) (highP p)) (load_size b1) (hK _ _ (VF.mk rfl) hRW (Ext.rf _))
      · exact op_ld (T := 103) rfl (.pointer (some ⟨w.heap.size + 1, 1, none⟩)) (by kernel_rfl) (bigV (lowP q) (highP q)) (load_size b2) (hK _ _ (VF.mk rfl) hRW (Ext.rf _))
      · have h3 := (hD 3 (depIn (by kernel_rfl))).k rfl
        have h5 := (hD 5 (depIn (by kernel_rfl))).k rfl
        refine op_call rfl #[bigV (lowP p) (highP p), bigV (lowP q) (highP q)] (by go_simp) (by simp only [putAll, h3, h5]; kernel_rfl) _ (MIN.out W) ?_
        rintro e w3 ⟨rfl, x3⟩
        exact ⟨_, rfl, hK _ _ (VF.mk rfl) (hRW.tr x3) x3⟩
    · intro u w3 hRW hV
      have h1 := (hV (1, some 32) (by simp)).k rfl
      have h3 := (hV (3, some 34) (by simp)).k rfl
      have h5 := (hV (5, some 36) (by simp)).k rfl
      have h6 := (hV (6, some 37) (by simp)).k rfl
      simp only [putAll, h1, h3, h5, h6]
      clear hV h1 h3 h5 h6
      have b3 := B3.out.ext (x2.out.tr hRW)
      have b4 : Blk (tenW w3 (w.heap.size + 1 + 1) false (lowP (p - q)) (highP (p - q))) (w.heap.size + 1 + 1) 105 (sgnC false (lowP (p - q)) (highP (p - q))) := tenW_blk b3
      have Y4 := Lib.hid (tenW_ext (m := false) (lo := (lowP (p - q))) (hi := (highP (p - q))) (g := w.heap.size + 1 + 1) (Ext.tr (Ext.tr Y0.out x2.out) hRW) (by omega))
      unfold bigV
      try simp only [Act.put, List.setIfInBounds_toArray, List.set_cons_zero, List.set_cons_succ]
      refine wpAny_T (i := 7) (op := Op.build 105 #[(0, Operand.tmp 32), (1, Operand.tmp 37)]) (t := 105) (d := some 38) (v := ?_) rfl (by decide +kernel) (by decide +kernel) (by decide +kernel) (fun _ _ _ h => h) ?_ ?_
      case refine_2 => (intro _; unfold exec2; go_simp; try with_reducible rfl)
      try simp only [Act.put, List.setIfInBounds_toArray, List.set_cons_zero, List.set_cons_succ]
      refine wpAny_next 8 (by kernel_rfl) (op_st rfl (.pointer (some ⟨w.heap.size + 1 + 1, 0, none⟩)) (sgnV false (lowP (p - q)) (highP (p - q))) (by kernel_rfl) (by kernel_rfl) (store_sgn b3) ?_)
      refine wpAny_done (by kernel_rfl) ?_ _
      clear b3 hRW
      generalize tenW w3 (w.heap.size + 1 + 1) false (lowP (p - q)) (highP (p - q)) = w5 at *
      have c0 : w5.cell? ⟨w.heap.size + 1 + 1, 0, none⟩ = some (.bool false) := b4.cell 0
      have c1 : w5.cell? ⟨w.heap.size + 1 + 1, 1, none⟩ = some (.int .i64 (lowP (p - q))) := b4.cell 1
      have c2 : w5.cell? ⟨w.heap.size + 1 + 1, 2, none⟩ = some (.int .i64 (highP (p - q))) := b4.cell 2
      have c3 : w5.cell? ⟨w.heap.size + 1 + 1, 3, none⟩ = some (.int .i64 0) := b4.cell 3
      have c4 : w5.cell? ⟨w.heap.size + 1 + 1, 4, none⟩ = some (.int .i64 0) := b4.cell 4
      have c5 : w5.cell? ⟨w.heap.size + 1 + 1, 5, none⟩ = some (.int .i64 0) := b4.cell 5
      have c6 : w5.cell? ⟨w.heap.size + 1 + 1, 6, none⟩ = some (.int .i64 0) := b4.cell 6
      have c7 : w5.cell? ⟨w.heap.size + 1 + 1, 7, none⟩ = some (.int .i64 0) := b4.cell 7
      have c8 : w5.cell? ⟨w.heap.size + 1 + 1, 8, none⟩ = some (.int .i64 0) := b4.cell 8
      have c9 : w5.cell? ⟨w.heap.size + 1 + 1, 9, none⟩ = some (.int .i64 0) := b4.cell 9
      clear b4
      go_simp
      go_wp2_with (fail)
      exact bodyPost_ret (v := sgnV false (lowP (p - q)) (highP (p - q))) (by simp [results, Try.results69, go_sem, sgnV, *]) rfl ⟨by rw [diffV, if_neg (by have := hlt.out; omega)], Y4.out⟩
end Go.Proofs.Ytpapkofildcdiaa
namespace Go.Proofs.Ytpapkofildcdiaa
open Go.RowKit Go.ChangeShapes Go.WideShapes Go.ChangeAt Go.Deep

theorem under_big : Try.prog.underlying 103 = some (.array 9 3) := by kernel_rfl
set_option maxRecDepth 100000 in
theorem eq_big (x y : Int) (u : World) : (binOp .eql 103 (.agg #[.int .i64 x, .int .i64 y, .int .i64 0, .int .i64 0, .int .i64 0, .int .i64 0, .int .i64 0, .int .i64 0, .int .i64 0]) (.agg #[.int .i64 0, .int .i64 0, .int .i64 0, .int .i64 0, .int .i64 0, .int .i64 0, .int .i64 0, .int .i64 0, .int .i64 0])).run Try.prog u = .ok (.bool ((x == 0) && (y == 0))) u := by
  rw [run_eql_struct]
  unfold Op.equalIn
  simp only [Sem.run_bind, run_underlying under_big, Result.andThen_ok]
  have e9 : List.range' 0 9 1 = [0, 1, 2, 3, 4, 5, 6, 7, 8] := rfl
  simp only [Std.Legacy.Range.forIn_eq_forIn_range', Std.Legacy.Range.size, Nat.sub_zero, Nat.add_one_sub_one, Nat.div_one, e9, List.forIn_cons, List.forIn_nil]
  by_cases hx : x = 0
  · subst hx
    by_cases hy : y = 0
    · subst hy
      go_simp
    · have hy' : (y == 0) = false := by simpa using hy
      go_simp
  · have hx' : (x == 0) = false := by simpa using hx
    go_simp
def cmpI (p q : Int) : Int := if p = q then 0 else if p < q then -1 else 1
/-- the difference's sign and parts -/
theorem diff_cases (p q : Int) (_ : 0 ≤ p ∧ p ≤ 4611686014132420609) (_ : 0 ≤ q ∧ q ≤ 4611686014132420609) : ∃ m x y, diffV p q = sgnV m x y ∧ ((cmpI p q = 0 ∧ x = 0 ∧ y = 0) ∨ (cmpI p q = -1 ∧ m = true ∧ (x ≠ 0 ∨ y ≠ 0)) ∨ (cmpI p q = 1 ∧ m = false ∧ (x ≠ 0 ∨ y ≠ 0))) := by
  unfold diffV cmpI lowP highP
  by_cases h1 : p < q
  · rw [if_pos h1]
    exact ⟨_, _, _, rfl, .inr (.inl ⟨by rw [if_neg (by omega), if_pos h1], rfl, by omega⟩)⟩
  · rw [if_neg h1]
    by_cases h2 : p = q
    · exact ⟨_, _, _, rfl, .inl ⟨by rw [if_pos h2], by omega, by omega⟩⟩
    · exact ⟨_, _, _, rfl, .inr (.inr ⟨by rw [if_neg h2, if_neg h1], rfl, by omega⟩)⟩
set_option maxRecDepth 100000 in
set_option maxHeartbeats 4000000 in
theorem bcmp_any (p q : Int) (w : World) (hp : 0 ≤ p ∧ p ≤ 4611686014132420609) (hq : 0 ≤ q ∧ q ≤ 4611686014132420609) :
    Calls Try.prog 66 #[sgnV false (lowP p) (highP p), sgnV false (lowP q) (highP q)] w fun e w' => e = .returned (.int .i64 (cmpI p q)) ∧ Ext w w' := by
  have B1 : Blk ((w.alloc (.cells (sgnC false (lowP p) (highP p)) 105)).alloc (.cells (sgnC false (lowP q) (highP q)) 105)) w.heap.size 105 (sgnC false (lowP p) (highP p)) := .alloc (.new rfl) _
  have B2 : Blk ((w.alloc (.cells (sgnC false (lowP p) (highP p)) 105)).alloc (.cells (sgnC false (lowP q) (highP q)) 105)) (w.heap.size + 1) 105 (sgnC false (lowP q) (highP q)) := .new (by simp)
  have Y0 : Ext w ((w.alloc (.cells (sgnC false (lowP p) (highP p)) 105)).alloc (.cells (sgnC false (lowP q) (highP q)) 105)) := ((Ext.rf _).alloc _).alloc _
  have ADD := fun W => badd_any p q W hp hq
  obtain ⟨m, x, y, hd, hcase⟩ := diff_cases p q hp hq
  rw [hd] at ADD
  obtain ⟨wr, hwr⟩ : ∃ wr, wr = ((w.alloc (.cells (sgnC false (lowP p) (highP p)) 105)).alloc (.cells (sgnC false (lowP q) (highP q)) 105)) := ⟨_, rfl⟩
  have hwl : ((w.alloc (.cells #[.bool false, .int .i64 (lowP p), .int .i64 (highP p), .int .i64 0, .int .i64 0, .int .i64 0, .int .i64 0, .int .i64 0, .int .i64 0, .int .i64 0] 105)).alloc (.cells #[.bool false, .int .i64 (lowP q), .int .i64 (highP q), .int .i64 0, .int .i64 0, .int .i64 0, .int .i64 0, .int .i64 0, .int .i64 0, .int .i64 0] 105)) = wr := hwr.symm
  rw [← hwr] at B1 B2 Y0
  clear hwr hp hq hd
  generalize cmpI p q = res at *
  replace B1 := Lib.hid B1
  replace B2 := Lib.hid B2
  replace Y0 := Lib.hid Y0
  replace ADD := Lib.hid ADD
  replace hwl := Lib.hid hwl
  replace hcase := Lib.hid hcase
  unfold sgnV
  go_enter Try.func66, Try.ntmps66
  go_wp2_with (fail)
  rw [hwl.out]
  refine wp_region_any (by kernel_rfl) ?_
  change wpAny _ _ _ _ _ _ _ (World.drew _)
  refine wpAny_core2 (n := 1) [(0, some 6), (1, some 7), (2, some 8), (3, some 9), (4, some 5)] (Ext wr)
    (VF (fun | 0 => some (sgnV false (lowP p) (highP p)) | 1 => some (sgnV false (lowP q) (highP q)) | 2 => some (sgnV true (lowP q) (highP q)) | 3 => some (sgnV m x y) | _ => none)
      (fun j v W => j = 4 → ∃ h, v = .pointer (some ⟨h, 0, none⟩) ∧ wr.heap.size ≤ h ∧ Blk W h 105 (sgnC false 0 0)))
    Ext #[true, true, true, true, true, false] (by kernel_rfl) (VF.stab ?_) ?_ ?_ ((Ext.rf _).drew)
  · intro j v W W' _ g6 hx h
    obtain ⟨h, q1, q2, q3⟩ := g6 h
    exact ⟨h, q1, q2, q3.ext hx⟩
  · intro pq hpm u W hRW hD K hK
    have b1 := B1.out.ext hRW
    have b2 := B2.out.ext hRW
    have z2 := hRW.size
    simp only [List.mem_cons, List.not_mem_nil, or_false] at hpm
    rcases hpm with rfl | rfl | rfl | rfl | rfl
    · exact op_ld (T := 105) rfl (.pointer (some ⟨w.heap.size, 0, none⟩)) (by kernel_rfl) _ (load_sgn b1) (hK _ _ (VF.mk rfl) hRW (Ext.rf _))
    · exact op_ld (T := 105) rfl (.pointer (some ⟨w.heap.size + 1, 0, none⟩)) (by kernel_rfl) _ (load_sgn b2) (hK _ _ (VF.mk rfl) hRW (Ext.rf _))
    · have h1 := (hD 1 (depIn (by kernel_rfl))).k rfl
      refine op_call rfl #[sgnV false (lowP q) (highP q)] (by go_simp) (by simp only [putAll, h1]; kernel_rfl) _ (neg_any false _ _ W) ?_
      rintro e w3 ⟨rfl, x3⟩
      exact ⟨_, rfl, hK _ _ (VF.mk rfl) (hRW.tr x3) x3⟩
    · have h0 := (hD 0 (depIn (by kernel_rfl))).k rfl
      have h2 := (hD 2 (depIn (by kernel_rfl))).k rfl
      refine op_call rfl #[sgnV false (lowP p) (highP p), sgnV true (lowP q) (highP q)] (by go_simp) (by simp only [putAll, h0, h2]; kernel_rfl) _ (ADD.out W) ?_
      rintro e w3 ⟨rfl, x3⟩
      exact ⟨_, rfl, hK _ _ (VF.mk rfl) (hRW.tr x3) x3⟩
    · refine op_run rfl (.pointer (some ⟨W.heap.size, 0, none⟩)) (w' := W.alloc (.cells (sgnC false 0 0) 105)) ?_ (hK _ _ (VF.mg rfl fun _ => ⟨_, rfl, z2, .new rfl⟩) (hRW.alloc _) ((Ext.rf _).alloc _))
      unfold exec2 sgnC
      go_simp
  · intro u w3 hRW hV
    have h0 := (hV (0, some 6) (by simp)).k rfl
    have h1 := (hV (1, some 7) (by simp)).k rfl
    have h2 := (hV (2, some 8) (by simp)).k rfl
    have h3 := (hV (3, some 9) (by simp)).k rfl
    obtain ⟨gh, h4, hgh, b3⟩ := (hV (4, some 5) (by simp)).g rfl rfl
    simp only [putAll, h0, h1, h2, h3, h4]
    clear hV h0 h1 h2 h3 h4
    have b4 : Blk (tenW w3 gh m x y) gh 105 (sgnC m x y) := tenW_blk b3
    have Y4 := Lib.hid (tenW_ext (m := m) (lo := x) (hi := y) (g := gh) (Ext.tr Y0.out hRW) (Nat.le_trans Y0.out.size hgh))
    try simp only [Act.put, List.setIfInBounds_toArray, List.set_cons_zero, List.set_cons_succ]
    refine wpAny_next 5 (by kernel_rfl) (op_st rfl (.pointer (some ⟨gh, 0, none⟩)) (sgnV m x y) (by kernel_rfl) (by kernel_rfl) (store_sgn b3) ?_)
    refine wpAny_done (by kernel_rfl) ?_ _
    clear b3 hRW
    generalize tenW w3 gh m x y = w5 at *
    have c0 : w5.cell? ⟨gh, 0, none⟩ = some (.bool m) := b4.cell 0
    have c1 : w5.cell? ⟨gh, 1, none⟩ = some (.int .i64 x) := b4.cell 1
    have c2 : w5.cell? ⟨gh, 2, none⟩ = some (.int .i64 y) := b4.cell 2
    have c3 : w5.cell? ⟨gh, 3, none⟩ = some (.int .i64 0) := b4.cell 3
    have c4 : w5.cell? ⟨gh, 4, none⟩ = some (.int .i64 0) := b4.cell 4
    have c5 : w5.cell? ⟨gh, 5, none⟩ = some (.int .i64 0) := b4.cell 5
    have c6 : w5.cell? ⟨gh, 6, none⟩ = some (.int .i64 0) := b4.cell 6
    have c7 : w5.cell? ⟨gh, 7, none⟩ = some (.int .i64 0) := b4.cell 7
    have c8 : w5.cell? ⟨gh, 8, none⟩ = some (.int .i64 0) := b4.cell 8
    have c9 : w5.cell? ⟨gh, 9, none⟩ = some (.int .i64 0) := b4.cell 9
    clear b4
    obtain ⟨bz, hbz⟩ : ∃ bz, Hid (((x == 0) && (y == 0)) = bz) := ⟨_, rfl⟩
    have hq : ∀ u : World, (binOp .eql 103 (.agg #[.int .i64 x, .int .i64 y, .int .i64 0, .int .i64 0, .int .i64 0, .int .i64 0, .int .i64 0, .int .i64 0, .int .i64 0]) (.agg #[.int .i64 0, .int .i64 0, .int .i64 0, .int .i64 0, .int .i64 0, .int .i64 0, .int .i64 0, .int .i64 0, .int .i64 0])).run Try.prog u = .ok (.bool bz) u := fun u => by rw [eq_big, hbz.out]
    rcases hcase.out with ⟨e1, e2, e3⟩ | ⟨e1, e2, e3⟩ | ⟨e1, e2, e3⟩
    · obtain rfl : bz = true := by rw [← hbz.out, e2, e3]; rfl
      have e1 := Lib.hid e1
      clear e2 e3
      go_simp
      go_wp2_with (fail)
      go_ret
      exact ⟨ret_i e1.out.symm, Y4.out⟩
    · obtain rfl : bz = false := by rw [← hbz.out, Bool.eq_false_iff]; simp; omega
      have e1 := Lib.hid e1
      subst e2
      clear e3
      go_simp
      go_wp2_with (fail)
      go_ret
      exact ⟨rfl, Y4.out⟩
    · obtain rfl : bz = false := by rw [← hbz.out, Bool.eq_false_iff]; simp; omega
      have e1 := Lib.hid e1
      subst e2
      clear e3
      go_simp
      go_wp2_with (fail)
      go_ret
      exact ⟨rfl, Y4.out⟩
end Go.Proofs.Ytpapkofildcdiaa
namespace Go.Proofs.Ytpapkofildcdiaa
open Go.RowKit Go.ChangeShapes Go.WideShapes Go.ChangeAt Go.Deep

set_option maxRecDepth 100000 in
set_option maxHeartbeats 4000000 in
theorem better_any (A B : Option Addr) (c d : Nat) (vs ws : List Int) (a b : Nat) (w : World) (hv : RdI w A vs) (hw : RdI w B ws) (sv : Small31 vs) (sw : Small31 ws) (ha : a < vs.length) (hb : b < vs.length) (ha' : a < ws.length) (hb' : b < ws.length) (_ : vs.length ≤ 1000000) (_ : ws.length ≤ 1000000) :
    Calls Try.prog 63 #[.slice A vs.length c, .slice B ws.length d, .int .i64 a, .int .i64 b] w fun e w' => e = .returned (.bool (betterB vs ws a b)) ∧ Ext w w' := by
  obtain ⟨g1, o1, va, rfl, z1, c1, e1, _⟩ := hv.at ha
  obtain ⟨g1', o1', vb, h1', z1', c2, e2, _⟩ := hv.at hb
  obtain ⟨rfl, rfl⟩ : g1 = g1' ∧ o1 = o1' := by injection h1' with h; injection h with h3 h4; exact ⟨h3, h4⟩
  obtain ⟨g2, o2, wa, rfl, z2, c3, e3, _⟩ := hw.at ha'
  obtain ⟨g2', o2', wb, h2', z2', c4, e4, _⟩ := hw.at hb'
  obtain ⟨rfl, rfl⟩ : g2 = g2' ∧ o2 = o2' := by injection h2' with h; injection h with h3 h4; exact ⟨h3, h4⟩
  have bva := sv.get e1.out
  have bvb := sv.get e2.out
  have bwa := sw.get e3.out
  have bwb := sw.get e4.out
  obtain ⟨res, hres⟩ : ∃ res, Hid (res = betterB vs ws a b) := ⟨_, rfl⟩
  rw [← hres.out]
  have HA : Hid (res = if wa = 0 ∨ wb = 0 then decide (wa = 0) && (decide (wb ≠ 0) || decide (a < b)) else decide (vb * wa < va * wb) || (decide (va * wb = vb * wa) && decide (a < b))) := by
    have h : res = if wa = 0 ∨ wb = 0 then decide (wa = 0) && (decide (wb ≠ 0) || decide (a < b)) else decide (vb * wa < va * wb) || (decide (va * wb = vb * wa) && decide (a < b)) := by
      rw [hres.out]
      unfold betterB
      rw [getD_some e1.out, getD_some e2.out, getD_some e3.out, getD_some e4.out]
    exact h
  clear h1' h2' hv hw sv sw e1 e2 e3 e4 hres
  by_cases hwa : wa = 0
  · subst hwa
    by_cases hwb : wb = 0
    · subst hwb
      have HR : Hid (res = decide (a < b)) := by
        have h := HA.out
        rw [if_pos (by simp)] at h
        exact (by simpa using h : res = decide (a < b))
      clear HA
      go_enter Try.func63, Try.ntmps63
      go_wp2
      all_goals go_ret
      all_goals exact ⟨ret_b HR.out.symm, Ext.rf _⟩
    · have hwb' : (wb != 0) = true := by simpa using hwb
      have HR : Hid (res = true) := by
        have h := HA.out
        rw [if_pos (by simp)] at h
        exact (by simpa [hwb] using h : res = true)
      clear HA hwb
      go_enter Try.func63, Try.ntmps63
      go_wp2
      all_goals go_ret
      all_goals exact ⟨ret_b HR.out.symm, Ext.rf _⟩
  · have hwa' : (wa == 0) = false := by simpa using hwa
    by_cases hwb : wb = 0
    · subst hwb
      have HR : Hid (res = false) := by
        have h := HA.out
        rw [if_pos (by simp)] at h
        exact (by simpa [hwa] using h : res = false)
      clear HA hwa
      go_enter Try.func63, Try.ntmps63
      go_wp2
      all_goals go_ret
      all_goals exact ⟨ret_b HR.out.symm, Ext.rf _⟩
    · have hwb' : (wb == 0) = false := by simpa using hwb
      have HR0 : Hid (res = (decide (vb * wa < va * wb) || (decide (va * wb = vb * wa) && decide (a < b)))) := by
        have h := HA.out
        rw [if_neg (by simp [hwa, hwb])] at h
        exact h
      obtain ⟨p, hp⟩ : ∃ p, Hid (p = va * wb) := ⟨_, rfl⟩
      obtain ⟨q, hq⟩ : ∃ q, Hid (q = vb * wa) := ⟨_, rfl⟩
      have bp : 0 ≤ p ∧ p ≤ 4611686014132420609 := by rw [hp.out]; exact mul_bd bva.1 bva.2 bwb.1 bwb.2
      have bq : 0 ≤ q ∧ q ≤ 4611686014132420609 := by rw [hq.out]; exact mul_bd bvb.1 bvb.2 bwa.1 bwa.2
      rw [← hp.out, ← hq.out] at HR0
      have hR : res = (decide (0 < cmpI p q) || ((cmpI p q == 0) && decide (a < b))) := by
        have h := HR0.out
        unfold cmpI
        by_cases h1 : p = q
        · have h2 : ¬ q < p := by omega
          simp [h1, h]
        · by_cases h2 : p < q
          · have h3 : ¬ q < p := by omega
            simp [h1, h2, h3, h]
          · have h3 : q < p := by omega
            simp [h1, h2, h3, h]
      have HR := Lib.hid hR
      clear hR
      have CM := Lib.hid (fun W => bcmp_any p q W bp bq)
      have bc : -1 ≤ cmpI p q ∧ cmpI p q ≤ 1 := by unfold cmpI; split <;> (try split) <;> omega
      have M1 := Lib.hid (fun W => mul_any va wb p W bva bwb hp.out)
      have M2 := Lib.hid (fun W => mul_any vb wa q W bvb bwa hq.out)
      generalize cmpI p q = cc at *
      clear HA hwa hwb HR0 bp bq
      go_enter Try.func63, Try.ntmps63
      go_wp2_with (fail)
      go_region_held3 (fun w' => w'.cell? ⟨g1, o1 + a, none⟩ = some (.int .i64 va) ∧ w'.cell? ⟨g1, o1 + b, none⟩ = some (.int .i64 vb) ∧ w'.cell? ⟨g2, o2 + a, none⟩ = some (.int .i64 wa) ∧ w'.cell? ⟨g2, o2 + b, none⟩ = some (.int .i64 wb)) (go_keep)
        (first
        | (go_at_call_of 68 (Value.int .i64 va); refine (num_any va _ bva.1 bva.2).mono ?_; rintro e w2 ⟨rfl, x2⟩; have y := Ext.tr (a := w) (by (repeat (first | assumption | exact Ext.rf _ | apply Ext.drew | apply Ext.drewN | apply Ext.alloc))) x2; have s1 := keepEL y z1 c1; have s2 := keepEL y z1 c2; have s3 := keepEL y z2 c3; have s4 := keepEL y z2 c4)
        | (go_at_call_of 68 (Value.int .i64 wb); refine (num_any wb _ bwb.1 bwb.2).mono ?_; rintro e w3 ⟨rfl, x3⟩; have y := Ext.tr (a := w) (by (repeat (first | assumption | exact Ext.rf _ | apply Ext.drew | apply Ext.drewN | apply Ext.alloc))) x3; have s1 := keepEL y z1 c1; have s2 := keepEL y z1 c2; have s3 := keepEL y z2 c3; have s4 := keepEL y z2 c4)
        | (go_at_call_of 68 (Value.int .i64 vb); refine (num_any vb _ bvb.1 bvb.2).mono ?_; rintro e w4 ⟨rfl, x4⟩; have y := Ext.tr (a := w) (by (repeat (first | assumption | exact Ext.rf _ | apply Ext.drew | apply Ext.drewN | apply Ext.alloc))) x4; have s1 := keepEL y z1 c1; have s2 := keepEL y z1 c2; have s3 := keepEL y z2 c3; have s4 := keepEL y z2 c4)
        | (go_at_call_of 68 (Value.int .i64 wa); refine (num_any wa _ bwa.1 bwa.2).mono ?_; rintro e w5 ⟨rfl, x5⟩; have y := Ext.tr (a := w) (by (repeat (first | assumption | exact Ext.rf _ | apply Ext.drew | apply Ext.drewN | apply Ext.alloc))) x5; have s1 := keepEL y z1 c1; have s2 := keepEL y z1 c2; have s3 := keepEL y z2 c3; have s4 := keepEL y z2 c4)
        | (go_at_call_of 67 (sgnV false va 0); refine (M1.out _).mono ?_; rintro e w6 ⟨rfl, x6⟩; have y := Ext.tr (a := w) (by (repeat (first | assumption | exact Ext.rf _ | apply Ext.drew | apply Ext.drewN | apply Ext.alloc))) x6; have s1 := keepEL y z1 c1; have s2 := keepEL y z1 c2; have s3 := keepEL y z2 c3; have s4 := keepEL y z2 c4)
        | (go_at_call_of 67 (sgnV false vb 0); refine (M2.out _).mono ?_; rintro e w7 ⟨rfl, x7⟩; have y := Ext.tr (a := w) (by (repeat (first | assumption | exact Ext.rf _ | apply Ext.drew | apply Ext.drewN | apply Ext.alloc))) x7; have s1 := keepEL y z1 c1; have s2 := keepEL y z1 c2; have s3 := keepEL y z2 c3; have s4 := keepEL y z2 c4)
        | (go_at_call 66; refine (CM.out _).mono ?_; rintro e w8 ⟨rfl, x8⟩; have y := Ext.tr (a := w) (by (repeat (first | assumption | exact Ext.rf _ | apply Ext.drew | apply Ext.drewN | apply Ext.alloc))) x8; have s1 := keepEL y z1 c1; have s2 := keepEL y z1 c2; have s3 := keepEL y z2 c3; have s4 := keepEL y z2 c4))
      obtain rfl | rfl | rfl : cc = -1 ∨ cc = 0 ∨ cc = 1 := by omega
      · have HF : Hid (res = false) := HR.out
        go_wp2
        all_goals go_ret
        all_goals exact ⟨ret_b HF.out.symm, by (repeat (first | assumption | exact Ext.rf _ | apply Ext.drew | apply Ext.drewN | apply Ext.alloc))⟩
      · have HF : Hid (res = decide (a < b)) := HR.out
        go_wp2
        all_goals go_ret
        all_goals exact ⟨ret_b HF.out.symm, by (repeat (first | assumption | exact Ext.rf _ | apply Ext.drew | apply Ext.drewN | apply Ext.alloc))⟩
      · have HF : Hid (res = true) := HR.out
        go_wp2
        all_goals go_ret
        all_goals exact ⟨ret_b HF.out.symm, by (repeat (first | assumption | exact Ext.rf _ | apply Ext.drew | apply Ext.drewN | apply Ext.alloc))⟩
end Go.Proofs.Ytpapkofildcdiaa
namespace Go.Proofs.Ytpapkofildcdiaa
open Go.RowKit Go.ChangeShapes Go.WideShapes Go.ChangeAt Go.Deep

def RRatioPost (l : List Nat) (w : World) (e : Ending) (w' : World) : Prop := ∃ A c, e = .returned (.tuple #[.slice A l.length c, .int .i64 0]) ∧ OwI w' w.heap.size A c (nl l) ∧ Ext w w'
set_option maxRecDepth 100000 in
set_option maxHeartbeats 4000000 in
theorem rratio_any (A B : Option Addr) (a b : Nat) (vs ws : List Int) (w : World) (hA : RdI w A vs) (hB : RdI w B ws) (hl : vs.length = ws.length) (h64 : vs.length ≤ 64) (sv : Small31 vs) (sw : Small31 ws) :
    Calls Try.prog 60 #[.slice A vs.length a, .slice B ws.length b] w (RRatioPost (ratioP vs ws) w) := by
  have hne : ((vs.length : Int) != (ws.length : Int)) = false := by simp [hl]
  have h64' : (vs.length : Int) ≤ 64 := by omega
  have BT := fun (i j : Nat) (hi : i < vs.length) (hj : j < vs.length) (W : World) (x : Ext w W) => better_any A B a b vs ws i j W (hA.ext x) (hB.ext x) sv sw hi hj (by omega) (by omega) (by omega) (by omega)
  have PR := place_ratio (v := vs) (w := ws) (fun x hx => (sw x hx).1)
  have RL := ratioP_len vs ws
  have AL := fun i m => aheads_le vs ws i m
  have PA : Hid (∀ i, i < vs.length → aheads vs ws i vs.length < vs.length) := fun i hi => by
    have hm := (ratioP_mem (v := vs) (w := ws) (a := i)).2 hi
    obtain ⟨k, hk, he⟩ := List.mem_iff_getElem.1 hm
    have := aheads_at (v := vs) (w := ws) (fun x hx => (sw x hx).1) (k := k) (a := i) (by rw [List.getElem?_eq_getElem hk, he])
    rw [ratioP_len] at hk
    omega
  replace hl := Lib.hid hl
  replace BT := Lib.hid BT
  replace PR := Lib.hid PR
  replace RL := Lib.hid RL
  replace AL := Lib.hid AL
  go_enter Try.func60, Try.ntmps60
  go_wp2_with (fail)
  go_loopw [6] (fun i wr => ∃ k : Nat, i = .int .i64 k ∧ k ≤ vs.length ∧ Ext w wr) (fun i _ => vs.length - (intOf i).toNat)
  case atStart => exact ⟨0, rfl, by omega, Ext.rf _⟩
  case round =>
    obtain ⟨w1, rfl⟩ : ∃ w1 : World, w1 = wr := ⟨_, rfl⟩
    obtain ⟨k, rfl, hk, Y⟩ := hrel
    by_cases hlt : k < vs.length
    · obtain ⟨g1, o1, x, rfl, _, c1, e1, _⟩ := (hA.ext Y).at hlt
      obtain ⟨g2, o2, y, rfl, _, c2, e2, _⟩ := (hB.ext Y).at (k := k) (by rw [← hl.out]; exact hlt)
      have b1 := sv.get e1.out
      have b2 := sw.get e2.out
      have hkw : k < ws.length := by rw [← hl.out]; exact hlt
      clear e1 e2
      go_wp2
      go_roundw
      case rel => exact ⟨k + 1, by go_num, by omega, Y⟩
      case measure => simp [intOf]; omega
    · obtain rfl : k = vs.length := by omega
      clear hlt
      have Yo := Lib.hid Y
      go_wp2_with (at_make; refine wpl_make_i _ rfl _ _ rfl w.heap.size _ _ vs.length rfl rfl rfl rfl (by omega) Y.size ?_; rintro w3 o3 g3)
      have X3 := Lib.hid (Y.grownNone g3)
      have O3 : Hid (OwI w3 w.heap.size (some ⟨w1.heap.size, 0, none⟩) vs.length (placeL (fun i => aheads vs ws i vs.length) vs.length 0)) := o3
      have zr := Y.size
      clear o3 g3
      go_loopw [8] (fun i wq => ∃ m : Nat, i = .int .i64 m ∧ m ≤ vs.length ∧ Hid (OwI wq w.heap.size (some ⟨w1.heap.size, 0, none⟩) vs.length (placeL (fun i => aheads vs ws i vs.length) vs.length m)) ∧ Ext w wq) (fun i _ => vs.length - (intOf i).toNat)
      case atStart => exact ⟨0, rfl, by omega, O3, X3.out⟩
      case round =>
        obtain ⟨wo, rfl⟩ : ∃ wo : World, wo = wr := ⟨_, rfl⟩
        obtain ⟨m, rfl, hm, HO, Z⟩ := hrel
        by_cases hlm : m < vs.length
        · go_wp2_with (fail)
          go_loopw [9, 10] (fun n i wq => ∃ (j c : Nat), i = .int .i64 j ∧ n = .int .i64 c ∧ j ≤ vs.length ∧ c ≤ j ∧ Hid (c = aheads vs ws m j) ∧ Ext wo wq) (fun _ i _ => vs.length - (intOf i).toNat)
          case atStart => exact ⟨0, 0, rfl, rfl, by omega, by omega, by exact rfl, Ext.rf _⟩
          case round =>
            obtain ⟨j, c, rfl, rfl, hj, hcj, HC, V⟩ := hrel
            have HN : Hid (aheads vs ws m (j + 1) = c + if (decide (j ≠ m) && betterB vs ws j m) = true then 1 else 0) := by
              have h := aheads_succ vs ws m j
              rw [← HC.out] at h
              exact h
            by_cases hlj : j < vs.length
            · by_cases hjm : j = m
              · subst hjm
                have HN2 : Hid (c = aheads vs ws j (j + 1)) := by
                  have h := HN.out
                  simp at h
                  exact h.symm
                go_wp2_with (fail)
                go_roundw
                case rel => exact ⟨j + 1, c, by go_num, rfl, by omega, by omega, HN2, V⟩
                case measure => simp [intOf]; omega
              · have hb : ((j : Int) != (m : Int)) = true := by rw [bne_iff_ne]; omega
                have K := BT.out j m hlj hlm _ (Z.tr V)
                cases hq : betterB vs ws j m with
                | true =>
                  rw [hq] at K
                  have HN2 : Hid (c + 1 = aheads vs ws m (j + 1)) := by
                    have h := HN.out
                    rw [hq] at h
                    simp [hjm] at h
                    exact h.symm
                  clear hq hjm
                  go_wp2_with (fail)
                  refine K.mono ?_
                  rintro e w5 ⟨rfl, x5⟩
                  go_wp2
                  go_roundw
                  case rel => exact ⟨j + 1, c + 1, by go_num, by go_num, by omega, by omega, HN2, V.tr x5⟩
                  case measure => simp [intOf]; omega
                | false =>
                  rw [hq] at K
                  have HN2 : Hid (c = aheads vs ws m (j + 1)) := by
                    have h := HN.out
                    rw [hq] at h
                    simp at h
                    exact h.symm
                  clear hq hjm
                  go_wp2_with (fail)
                  refine K.mono ?_
                  rintro e w5 ⟨rfl, x5⟩
                  go_wp2
                  go_roundw
                  case rel => exact ⟨j + 1, c, by go_num, rfl, by omega, by omega, HN2, V.tr x5⟩
                  case measure => simp [intOf]; omega
            · obtain rfl : j = vs.length := by omega
              have hc : c < vs.length := by rw [HC.out]; exact PA.out m hlm
              have HO2 := HO.out.ext V
              obtain ⟨x, hcx, hfx, hbx, _, hset⟩ := HO2.cell (k := c) (by rw [placeL_len]; exact hc)
              have HN2 : Hid (OwI (wr.setCell ⟨w1.heap.size, c, none⟩ (.int .i64 m)) w.heap.size (some ⟨w1.heap.size, 0, none⟩) vs.length (placeL (fun i => aheads vs ws i vs.length) vs.length (m + 1))) := by
                have h := hset.out m
                rw [HC.out] at h ⊢
                exact h
              have ZN := Lib.hid ((Z.tr V).setNew (p := ⟨w1.heap.size, c, none⟩) zr (.int .i64 m))
              clear hset HO2 HN
              go_wp2
              go_roundw
              case rel => exact ⟨m + 1, by go_num, by omega, HN2, ZN.out⟩
              case measure => simp [intOf]; omega
        · obtain rfl : m = vs.length := by omega
          have HF : Hid (OwI wo w.heap.size (some ⟨w1.heap.size, 0, none⟩) vs.length (nl (ratioP vs ws))) := by
            have h := HO.out
            rw [PR.out] at h
            exact h
          clear hlm HO
          go_wp2
          go_ret2
          exact ⟨_, _, by rw [RL.out]; rfl, HF.out, Z⟩
end Go.Proofs.Ytpapkofildcdiaa
