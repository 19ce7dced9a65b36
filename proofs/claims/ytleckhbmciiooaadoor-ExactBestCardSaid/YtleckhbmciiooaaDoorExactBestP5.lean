/-
  A tour, plainly: where a beginning has come to; what may follow; what the rest must cost at least, by rows and columns and by what meets at each city.
    A tour, plainly: the bound is no number below nought and none above the least cost by trying; the beginnings as a tree.
  The document's least cost of all answers, plainly: it is the cost of an answer, and no answer's is less.
  A knapsack's kernel: what New leaves alone of other problems; what a problem in form says.
    A knapsack's kernel as New makes it: its first half, the memory of it.
    A knapsack's kernel as New makes it: what an append and a store do to it.
  A knapsack's kernel: what the rest may bring, Bound, Answer; of no kernel nothing is told.
  kurganref08.Small at a checked knapsack.
    kurganref08.Cost at a checked knapsack and an answer of zeros and ones.
  A core of a drawn region, with words that need not be kept once they are spent.
  kurganref08.Small, Perm, Cost and Best at a checked assignment.
  A tour, plainly: the document's square of what is left costs at least what the kernel reckons; the beginnings as a tree.
  The document's values for tours: Small, Cost, Best at kind 3; the document's Best and Answers for tours.
  exact.Best, of all problems; what the document's Cost says to an answer.
  The document's Best (kurganref08): a knapsack's; a tour's from the empty beginning on; of any kind.
  The document's Best and Small (kurganref08), of all problems of few items: what a best answer costs.
  The assignment's example: two rows, two columns.
  Assignments as squares of numbers: in form, copied, solved.
-/
import Derived.Test.YtleckhbmciiooaaDoorExactBestP4
namespace Go.Proofs.YtleckhbmciiooaaDoor

/-- the ways of a beginning; none: it is none -/
def walkT (rows : List (List Int)) (m last : Nat) (cost : Int) : List Int → Option (Nat × Nat × Int)
  | [] => some (m, last, cost)
  | c :: p => if 0 ≤ c ∧ c < 64 ∧ m.testBit c.toNat = true then walkT rows (clrM m c.toNat) c.toNat (cost + costAt rows last c.toNat) p else none
def walkP (rows : List (List Int)) (p : List Int) : Option (Nat × Nat × Int) := if rows.length - 1 < p.length then none else walkT rows (clrM (2 ^ rows.length - 1) 0) 0 0 p
/-- where one may go to from a city -/
def colsT (us : List Nat) (last src : Nat) : List Nat := if src = last then us else 0 :: us.filter fun x => decide (src ≠ x)
def offT (rows : List (List Int)) (us : List Nat) (last src : Nat) : Int := max (leastN (fun dst => costAt rows src dst) (-1) (colsT us last src)) 0
/-- the least that a city may be come to by, beyond what the cities must cost -/
def colT (rows : List (List Int)) (us : List Nat) (last dst : Nat) : Int := leastN (fun src => costAt rows src dst - offT rows us last src) (-1) ((last :: us).filter fun src => decide (dst ∈ colsT us last src))
def reduceT (rows : List (List Int)) (us : List Nat) (last : Nat) : Int := sumL ((last :: us).map fun src => offT rows us last src) + sumL ((0 :: us).map fun dst => max (colT rows us last dst) 0)
/-- one more number beside the two least ones -/
def putP (p : Int × Int) (n : Int) : Int × Int := if n < p.1 then (n, p.1) else if n < p.2 then (p.1, n) else p
def pairT (rows : List (List Int)) (us : List Nat) (last u : Nat) : Int × Int :=
  (us.filter fun x => decide (u ≠ x)).foldl (fun p v => putP p (costAt rows u v)) (min (costAt rows u last) (costAt rows u 0), max (costAt rows u last) (costAt rows u 0))
def endsT (rows : List (List Int)) (us : List Nat) (last : Nat) : Int :=
  sumL (us.map fun u => (pairT rows us last u).1 + (pairT rows us last u).2) + leastN (fun u => costAt rows last u) (-1) us + leastN (fun u => costAt rows u 0) (-1) us
def boundT (rows : List (List Int)) (mirror : Bool) (p : List Int) : Int × Int :=
  match walkP rows p with
  | none => (0, 1)
  | some (m, last, c) => (c + (if memsM m = [] then costAt rows last 0 else if mirror = true then max (reduceT rows (memsM m) last) ((endsT rows (memsM m) last + 1) / 2) else reduceT rows (memsM m) last), 0)
theorem leastN_le {f : Nat → Int} : ∀ {l : List Nat} {b : Int}, (∀ x ∈ l, 0 ≤ f x) → (∀ x ∈ l, leastN f b l ≤ f x) ∧ (0 ≤ b → leastN f b l ≤ b) := fun {l b} h => by
  have h1 := leastL_le (l := l.map f) (b := b) fun y hy => by
    obtain ⟨x, hx, rfl⟩ := List.mem_map.1 hy
    exact h x hx
  rw [leastL_map] at h1
  exact ⟨fun x hx => h1.1 (f x) (List.mem_map.2 ⟨x, hx, rfl⟩), h1.2⟩
section
variable {rows : List (List Int)} {us : List Nat} {last : Nat}
/-- each way of what is left costs no less than its row and its column -/
theorem way_ge {B : Int} (num : ∀ a b, (a = last ∨ a ∈ us) → (b = 0 ∨ b ∈ us) → 0 ≤ costAt rows a b ∧ costAt rows a b ≤ B) {src dst : Nat} (hs : src ∈ last :: us) (hd : dst ∈ colsT us last src) : offT rows us last src + max (colT rows us last dst) 0 ≤ costAt rows src dst := by
  have hcol : ∀ {s d : Nat}, d ∈ colsT us last s → d = 0 ∨ d ∈ us := fun {s d} h => by
    unfold colsT at h
    split at h
    · exact .inr h
    · rcases List.mem_cons.1 h with h | h
      · exact .inl h
      · exact .inr (List.mem_filter.1 h).1
  have hsrc : ∀ {s : Nat}, s ∈ last :: us → s = last ∨ s ∈ us := fun {s} h => List.mem_cons.1 h
  have hoff : ∀ s ∈ last :: us, ∀ d ∈ colsT us last s, offT rows us last s ≤ costAt rows s d ∧ 0 ≤ offT rows us last s := fun s h1 d h2 => by
    have h3 := (leastN_le (f := fun dst => costAt rows s dst) (l := colsT us last s) (b := -1) fun x hx => (num s x (hsrc h1) (hcol hx)).1).1 d h2
    have h4 := (num s d (hsrc h1) (hcol h2)).1
    unfold offT
    omega
  have h1 := hoff src hs dst hd
  have h2 := (leastN_le (f := fun src => costAt rows src dst - offT rows us last src) (l := (last :: us).filter fun src => decide (dst ∈ colsT us last src)) (b := -1) fun x hx => by
    have h3 := List.mem_filter.1 hx
    have h4 := hoff x h3.1 dst (of_decide_eq_true h3.2)
    omega).1 src (List.mem_filter.2 ⟨hs, decide_eq_true hd⟩)
  unfold colT
  omega
/-- the ways of a path, one by one -/
theorem path_ge {F G : Nat → Int} : ∀ (q : List Nat) (s : Nat), (∀ a b, (a, b) ∈ (s :: q).zip (q ++ [0]) → F a + G b ≤ costAt rows a b) → sumL ((s :: q).map F) + sumL ((q ++ [0]).map G) ≤ pathT rows s q
  | [], s, h => by
    have := h s 0 (by simp)
    simp only [List.map_cons, List.map_nil, List.nil_append, sumL, pathT]
    omega
  | u :: q, s, h => by
    have h1 := h s u (by simp)
    have h2 := path_ge q u fun a b hab => h a b (by
      simp only [List.cons_append, List.zip_cons_cons, List.mem_cons]
      exact .inr hab)
    simp only [List.map_cons, List.cons_append, sumL, pathT] at h2 ⊢
    omega
theorem zip_mem : ∀ (q : List Nat) (s a b : Nat), (a, b) ∈ (s :: q).zip (q ++ [0]) → (s :: q).Nodup → a ∈ s :: q ∧ (b = 0 ∨ b ∈ q) ∧ (a = s → q = [] ∨ b ∈ q) ∧ (b ∈ q → a ≠ b ∨ b = 0)
  | [], s, a, b, h, _ => by
    simp at h
    obtain ⟨rfl, rfl⟩ := h
    exact ⟨by simp, .inl rfl, fun _ => .inl rfl, fun h => by cases h⟩
  | u :: q, s, a, b, h, hn => by
    have hn' := List.nodup_cons.1 hn
    simp only [List.cons_append, List.zip_cons_cons, List.mem_cons, Prod.mk.injEq] at h
    rcases h with ⟨rfl, rfl⟩ | h
    · exact ⟨by simp, .inr (by simp), fun _ => .inr (by simp), fun _ => .inl fun e => hn'.1 (by simp [e])⟩
    · have ih := zip_mem q u a b h hn'.2
      refine ⟨List.mem_cons_of_mem _ ih.1, ?_, fun e => ?_, fun hb => ?_⟩
      · rcases ih.2.1 with h | h
        · exact .inl h
        · exact .inr (by simp [h])
      · subst e
        exact absurd ih.1 hn'.1
      · rcases List.mem_cons.1 hb with rfl | hb
        · rcases ih.2.1 with h0 | h0
          · exact .inr h0
          · exact absurd h0 (List.nodup_cons.1 hn'.2).1
        · exact ih.2.2.2 hb
theorem reduceT_le {B : Int} (num : ∀ a b, (a = last ∨ a ∈ us) → (b = 0 ∨ b ∈ us) → 0 ≤ costAt rows a b ∧ costAt rows a b ≤ B) (hn : (last :: us).Nodup) (hu : us ≠ []) (h0 : 0 ∉ us) {q : List Nat} (hq : q.Perm us) : reduceT rows us last ≤ pathT rows last q := by
  have hnq : (last :: q).Nodup := (hq.cons last).nodup_iff.2 hn
  have h := path_ge (rows := rows) (F := fun src => offT rows us last src) (G := fun dst => max (colT rows us last dst) 0) q last fun a b hab => by
    obtain ⟨z1, z2, z3, z4⟩ := zip_mem q last a b hab hnq
    refine way_ge num ((hq.cons last).mem_iff.1 z1) ?_
    unfold colsT
    by_cases e : a = last
    · rw [if_pos e]
      rcases z3 e with h | h
      · exfalso
        rw [h] at hq
        exact hu (List.Perm.eq_nil (hq.symm))
      · exact hq.mem_iff.1 h
    · rw [if_neg e]
      rcases z2 with rfl | h
      · simp
      · refine List.mem_cons_of_mem _ (List.mem_filter.2 ⟨hq.mem_iff.1 h, decide_eq_true ?_⟩)
        rcases z4 h with h' | h'
        · exact h'
        · subst h'
          exact absurd (hq.mem_iff.1 h) h0
  have e1 := sumL_perm (((hq.cons last)).map fun src => offT rows us last src)
  have e2 : sumL ((q ++ [0]).map fun dst => max (colT rows us last dst) 0) = sumL ((0 :: us).map fun dst => max (colT rows us last dst) 0) :=
    sumL_perm (((List.perm_append_comm (l₁ := q) (l₂ := [0])).trans (hq.cons 0)).map _)
  unfold reduceT
  rw [← e1, ← e2]
  exact h
/-- the two least ones of some -/
def Two (p : Int × Int) (l : List Int) : Prop := p.1 ≤ p.2 ∧ (∀ x ∈ l, p.1 ≤ x) ∧ l.Pairwise fun x y => p.1 + p.2 ≤ x + y
theorem Two.put {p : Int × Int} {l : List Int} (h : Two p l) (n : Int) : Two (putP p n) (l ++ [n]) := by
  obtain ⟨h1, h2, h3⟩ := h
  have key : ∀ {q : Int × Int}, q.1 ≤ q.2 → q.1 ≤ p.1 → q.1 ≤ n → q.1 + q.2 ≤ p.1 + p.2 → (∀ x ∈ l, q.1 + q.2 ≤ x + n) → Two q (l ++ [n]) := by
    intro q k1 k2 k3 k4 k5
    refine ⟨k1, fun x hx => ?_, List.pairwise_append.2 ⟨h3.imp fun hxy => by omega, List.pairwise_singleton _ _, fun x hx y hy => ?_⟩⟩
    · rcases List.mem_append.1 hx with hx | hx
      · have := h2 x hx; omega
      · obtain rfl := List.mem_singleton.1 hx; exact k3
    · obtain rfl := List.mem_singleton.1 hy
      exact k5 x hx
  unfold putP
  split
  · exact key (by simp only; omega) (by simp only; omega) (by simp only; omega) (by simp only; omega) fun x hx => by have := h2 x hx; simp only; omega
  · split
    · exact key (by simp only; omega) (by simp only; omega) (by simp only; omega) (by simp only; omega) fun x hx => by have := h2 x hx; simp only; omega
    · exact key (by omega) (by omega) (by omega) (by omega) fun x hx => by have := h2 x hx; omega
theorem two_fold (f : Nat → Int) : ∀ (vs : List Nat) (p : Int × Int) (l : List Int), Two p l → Two (vs.foldl (fun p v => putP p (f v)) p) (l ++ vs.map f)
  | [], p, l, h => by simpa using h
  | v :: vs, p, l, h => by
    have := two_fold f vs (putP p (f v)) (l ++ [f v]) (h.put (f v))
    simpa using this
theorem pairT_two (rows : List (List Int)) (us : List Nat) (last u : Nat) : Two (pairT rows us last u) ([costAt rows u last, costAt rows u 0] ++ (us.filter fun x => decide (u ≠ x)).map fun v => costAt rows u v) := by
  refine two_fold (fun v => costAt rows u v) _ _ _ ⟨by simp only; omega, fun x hx => ?_, ?_⟩
  · simp at hx
    rcases hx with rfl | rfl <;> (simp only; omega)
  · simp only [List.pairwise_cons, List.mem_singleton, forall_eq, List.not_mem_nil, false_imp_iff, implies_true, List.Pairwise.nil, and_true]
    omega
/-- at a city the two that meet cost no less than the two least ones -/
theorem meet_ge {u a b : Nat} (hu : us.Nodup) (ha : a = last ∨ (a ∈ us ∧ u ≠ a)) (hb : b = 0 ∨ (b ∈ us ∧ u ≠ b)) (hab : a ∈ us → b ∈ us → a ≠ b) (hl : last ∉ us) (h0 : 0 ∉ us) : (pairT rows us last u).1 + (pairT rows us last u).2 ≤ costAt rows u a + costAt rows u b := by
  obtain ⟨_, _, h3⟩ := pairT_two rows us last u
  rw [List.pairwise_append] at h3
  obtain ⟨k1, k2, k3⟩ := h3
  have m : ∀ {x : Nat}, x ∈ us → u ≠ x → costAt rows u x ∈ (us.filter fun x => decide (u ≠ x)).map fun v => costAt rows u v := fun {x} h1 h2 => List.mem_map.2 ⟨x, List.mem_filter.2 ⟨h1, decide_eq_true h2⟩, rfl⟩
  rcases ha with rfl | ⟨a1, a2⟩
  · rcases hb with rfl | ⟨b1, b2⟩
    · simp only [List.pairwise_cons, List.mem_singleton, forall_eq] at k1
      exact k1.1
    · exact k3 _ (by simp) _ (m b1 b2)
  · rcases hb with rfl | ⟨b1, b2⟩
    · have := k3 (costAt rows u 0) (by simp) _ (m a1 a2)
      omega
    · have hne := hab a1 b1
      rw [List.pairwise_map] at k2
      have hfn : (us.filter fun x => decide (u ≠ x)).Nodup := List.Pairwise.filter _ hu
      obtain ⟨i, hi, ei⟩ := List.mem_iff_getElem.1 (List.mem_filter.2 ⟨a1, decide_eq_true a2⟩ : a ∈ us.filter fun x => decide (u ≠ x))
      obtain ⟨j, hj, ej⟩ := List.mem_iff_getElem.1 (List.mem_filter.2 ⟨b1, decide_eq_true b2⟩ : b ∈ us.filter fun x => decide (u ≠ x))
      rcases Nat.lt_trichotomy i j with h | h | h
      · have := List.pairwise_iff_getElem.1 k2 i j hi hj h
        rw [ei, ej] at this
        exact this
      · subst h
        exact absurd (ei.symm.trans ej) hne
      · have := List.pairwise_iff_getElem.1 k2 j i hj hi h
        rw [ei, ej] at this
        omega
end
end Go.Proofs.YtleckhbmciiooaaDoor
namespace Go.Proofs.YtleckhbmciiooaaDoor

section
variable {rows : List (List Int)} {us : List Nat} {last : Nat}
def pairS (rows : List (List Int)) (us : List Nat) (last u : Nat) : Int := (pairT rows us last u).1 + (pairT rows us last u).2
/-- of each three in a row the middle's two least ones cost no more than its two ways -/
def Trip (rows : List (List Int)) (us : List Nat) (last : Nat) : Nat → List Nat → Prop
  | _, [] => True
  | s, [u] => pairS rows us last u ≤ costAt rows s u + costAt rows u 0
  | s, u :: v :: q => pairS rows us last u ≤ costAt rows s u + costAt rows u v ∧ Trip rows us last u (v :: q)
theorem trip_ends : ∀ (q : List Nat) (s u : Nat), Trip rows us last s (u :: q) → sumL ((u :: q).map (pairS rows us last)) + costAt rows s u + costAt rows ((u :: q).getLast (by simp)) 0 ≤ 2 * pathT rows s (u :: q)
  | [], s, u, h => by
    simp only [Trip] at h
    simp only [List.map_cons, List.map_nil, sumL, List.getLast_singleton, pathT]
    omega
  | v :: q, s, u, h => by
    simp only [Trip] at h
    have ih := trip_ends q u v h.2
    have e : (u :: v :: q).getLast (by simp) = (v :: q).getLast (by simp) := List.getLast_cons (by simp)
    rw [e]
    simp only [List.map_cons, sumL, pathT] at ih ⊢
    omega
theorem trip_of (sym : ∀ a b, (a = last ∨ a ∈ us) → (b = last ∨ b ∈ us) → costAt rows a b = costAt rows b a) (hu : us.Nodup) (hl : last ∉ us) (h0 : 0 ∉ us) : ∀ (q : List Nat) (s : Nat), q.Nodup → (∀ x ∈ q, x ∈ us) → s ∉ q → (s = last ∨ s ∈ us) → Trip rows us last s q
  | [], _, _, _, _, _ => trivial
  | [u], s, _, hq, hs, hsl => by
    have huu := hq u (by simp)
    have hne : u ≠ s := fun e => hs (by simp [e])
    have := meet_ge (rows := rows) (us := us) (last := last) (u := u) (a := s) (b := 0) hu (hsl.imp id fun h => ⟨h, hne⟩) (.inl rfl) (fun _ h => absurd h h0) hl h0
    rw [sym u s (.inr huu) hsl] at this
    exact this
  | u :: v :: q, s, hn, hq, hs, hsl => by
    have huu := hq u (by simp)
    have hvv := hq v (by simp)
    have hne : u ≠ s := fun e => hs (by simp [e])
    have hn' := List.nodup_cons.1 hn
    have huv : u ≠ v := fun e => hn'.1 (by simp [e])
    have hsv : s ≠ v := fun e => hs (by simp [e])
    have := meet_ge (rows := rows) (us := us) (last := last) (u := u) (a := s) (b := v) hu (hsl.imp id fun h => ⟨h, hne⟩) (.inr ⟨hvv, huv⟩) (fun _ _ => hsv) hl h0
    rw [sym u s (.inr huu) hsl] at this
    exact ⟨this, trip_of sym hu hl h0 (v :: q) u hn'.2 (fun x hx => hq x (by simp [hx])) hn'.1 (.inr huu)⟩
theorem endsT_le (num : ∀ a b, (a = last ∨ a ∈ us) → (b = 0 ∨ b ∈ us) → 0 ≤ costAt rows a b) (sym : ∀ a b, (a = last ∨ a ∈ us) → (b = last ∨ b ∈ us) → costAt rows a b = costAt rows b a) (hu : us.Nodup) (hl : last ∉ us) (h0 : 0 ∉ us) {q : List Nat} (hq : q.Perm us) (hne : us ≠ []) : endsT rows us last ≤ 2 * pathT rows last q := by
  match q, hq with
  | [], hq => exact absurd (List.Perm.eq_nil hq.symm) hne
  | u :: q, hq =>
    have hsub : ∀ x ∈ u :: q, x ∈ us := fun x hx => hq.mem_iff.1 hx
    have h1 := trip_ends q last u (trip_of sym hu hl h0 (u :: q) last (hq.nodup_iff.2 hu) hsub (fun h => hl (hsub _ h)) (.inl rfl))
    have h2 := (leastN_le (f := fun u => costAt rows last u) (l := us) (b := -1) fun x hx => num last x (.inl rfl) (.inr hx)).1 u (hsub u (by simp))
    have h3 := (leastN_le (f := fun u => costAt rows u 0) (l := us) (b := -1) fun x hx => num x 0 (.inr hx) (.inl rfl)).1 _ (hsub _ (List.getLast_mem (l := u :: q) (by simp)))
    have e := sumL_perm (hq.map (pairS rows us last))
    have e2 : sumL (us.map (pairS rows us last)) = sumL (us.map fun u => (pairT rows us last u).1 + (pairT rows us last u).2) := rfl
    unfold endsT
    rw [← e2, ← e]
    omega
end
/-- where a beginning has come to, and what its ways cost -/
def lastT : Nat → List Int → Nat
  | s, [] => s
  | _, c :: p => lastT c.toNat p
def wayC (rows : List (List Int)) : Nat → List Int → Int
  | _, [] => 0
  | s, c :: p => costAt rows s c.toNat + wayC rows c.toNat p
theorem walkT_eq (rows : List (List Int)) : ∀ (p : List Int) (m last : Nat) (cost : Int), walkT rows m last cost p = (freeM m p).map fun q => (q, lastT last p, cost + wayC rows last p)
  | [], m, last, cost => by simp [walkT, freeM, lastT, wayC]
  | c :: p, m, last, cost => by
    unfold walkT freeM
    split
    · rw [walkT_eq rows p]
      cases freeM (clrM m c.toNat) p with
      | none => rfl
      | some q =>
        simp only [Option.map_some, lastT, wayC, Option.some.injEq, Prod.mk.injEq, true_and]
        omega
    · rfl
theorem lastT_mem : ∀ (l : List Nat) (s : Nat), lastT s (intsN l) = s ∨ lastT s (intsN l) ∈ l
  | [], s => .inl rfl
  | c :: l, s => by
    have ih := lastT_mem l c
    simp only [intsN, List.map_cons, lastT, Int.toNat_natCast] at ih ⊢
    rcases ih with h | h
    · right; rw [h]; simp
    · right; simp [h]
theorem pathT_app (rows : List (List Int)) : ∀ (l q : List Nat) (s : Nat), pathT rows s (l ++ q) = wayC rows s (intsN l) + pathT rows (lastT s (intsN l)) q
  | [], q, s => by simp [wayC, intsN, lastT]
  | c :: l, q, s => by
    have := pathT_app rows l q c
    simp only [List.cons_append, pathT, intsN, List.map_cons, wayC, lastT, Int.toNat_natCast] at this ⊢
    omega
/-- the tour's first city is not among what is left -/
def restM (n : Nat) : Nat := clrM (2 ^ n - 1) 0
theorem restM_sub {n : Nat} (h : n ≤ 24) : SubN n (restM n) := (subN_full h).clr 0
theorem restM_mem {n : Nat} (h : n ≤ 24) {x : Nat} : x ∈ memsM (restM n) ↔ x < n ∧ x ≠ 0 := by
  unfold restM
  rw [clr_mem (subN_full h).1, memsM_full (by omega), List.mem_range]
theorem restM_len {n : Nat} (h1 : 1 ≤ n) (h : n ≤ 24) : (memsM (restM n)).length = n - 1 := by
  have h2 := filter_ne_len (memsM_sorted (2 ^ n - 1)) (i := 0) (by rw [memsM_full (by omega)]; simp; omega)
  rw [← memsM_clr (subN_full h).1, memsM_full (by omega), List.length_range] at h2
  unfold restM
  omega
structure WalkOk (rows : List (List Int)) (p : List Int) (m last : Nat) (cost : Int) (l : List Nat) : Prop where
  eq : p = intsN l
  nodup : l.Nodup
  inn : ∀ x ∈ l, x < rows.length ∧ x ≠ 0
  rest : ∀ x, x ∈ memsM m ↔ (x < rows.length ∧ x ≠ 0) ∧ x ∉ l
  len : (memsM m).length + l.length = rows.length - 1
  sub : SubN rows.length m
  last : last = lastT 0 (intsN l)
  cost : cost = wayC rows 0 (intsN l)
theorem walk_ok {rows : List (List Int)} (h1 : 1 ≤ rows.length) (h24 : rows.length ≤ 24) {p : List Int} {m last : Nat} {cost : Int} (h : walkP rows p = some (m, last, cost)) : ∃ l, WalkOk rows p m last cost l := by
  unfold walkP at h
  split at h
  · cases h
  · rw [walkT_eq] at h
    cases hf : freeM (clrM (2 ^ rows.length - 1) 0) p with
    | none => rw [hf] at h; cases h
    | some q =>
      rw [hf] at h
      simp only [Option.map_some, Option.some.injEq, Prod.mk.injEq] at h
      obtain ⟨rfl, rfl, rfl⟩ := h
      have hs := restM_sub h24
      obtain ⟨l, rfl, a1, a2, a3⟩ := freeM_cols hs hf
      have a4 := freeM_len hs hf
      rw [restM_len h1 h24, intsN_len] at a4
      exact ⟨l, rfl, a1, fun x hx => (restM_mem h24).1 (a2 x hx), fun x => by rw [a3 x, restM_mem h24], a4, freeM_sub hs hf, rfl, by omega⟩
theorem walkT_snoc (rows : List (List Int)) {c : Nat} (hc64 : c < 64) : ∀ {p : List Int} {m0 m s last : Nat} {c0 cost : Int}, walkT rows m0 s c0 p = some (m, last, cost) → m.testBit c = true → walkT rows m0 s c0 (p ++ [(c : Int)]) = some (clrM m c, c, cost + costAt rows last c)
  | [], m0, m, s, last, c0, cost, h, hb => by
    simp only [walkT, Option.some.injEq, Prod.mk.injEq] at h
    obtain ⟨rfl, rfl, rfl⟩ := h
    show walkT rows m0 s c0 ((c : Int) :: []) = _
    unfold walkT
    rw [if_pos ⟨by omega, by omega, by rw [Int.toNat_natCast]; exact hb⟩, Int.toNat_natCast]
    rfl
  | d :: p, m0, m, s, last, c0, cost, h, hb => by
    show walkT rows m0 s c0 (d :: (p ++ [(c : Int)])) = _
    unfold walkT at h ⊢
    split at h
    · rename_i hd
      rw [if_pos hd]
      exact walkT_snoc rows hc64 h hb
    · cases h
theorem walkP_snoc {rows : List (List Int)} (h1 : 1 ≤ rows.length) (h24 : rows.length ≤ 24) {p : List Int} {m last : Nat} {cost : Int} (h : walkP rows p = some (m, last, cost)) {c : Nat} (hc : c ∈ memsM m) : walkP rows (p ++ [(c : Int)]) = some (clrM m c, c, cost + costAt rows last c) := by
  obtain ⟨l, W⟩ := walk_ok h1 h24 h
  have hpos : 0 < (memsM m).length := List.length_pos_of_mem hc
  have hlen := W.len
  have hpl : p.length = l.length := by rw [W.eq, intsN_len]
  have hb := memsM_mem.1 hc
  unfold walkP at h ⊢
  rw [if_neg (by omega)] at h
  rw [if_neg (by rw [List.length_append, List.length_singleton]; omega)]
  exact walkT_snoc rows hb.1 h hb.2
/-- the least cost of all tours that begin so, by trying -/
def bestT (rows : List (List Int)) : Nat → List Int → Int
  | 0, p => pathT rows 0 (p.map Int.toNat)
  | f + 1, p => leastF (fun x => bestT rows f (p ++ [x])) (-1) (match walkP rows p with | none => [] | some (m, _, _) => intsN (memsM m))
theorem toNat_ints : ∀ l : List Nat, (intsN l).map Int.toNat = l
  | [] => rfl
  | c :: l => by
    have := toNat_ints l
    simp only [intsN, List.map_cons, Int.toNat_natCast] at this ⊢
    rw [this]
theorem pathT_pos {rows : List (List Int)} (num : ∀ a b, a < rows.length → b < rows.length → 0 ≤ costAt rows a b) : ∀ (q : List Nat) (s : Nat), s < rows.length → (∀ x ∈ q, x < rows.length) → 0 ≤ pathT rows s q
  | [], s, hs, _ => num s 0 hs (by omega)
  | u :: q, s, hs, h => by
    have h1 := num s u hs (h u (by simp))
    have h2 := pathT_pos num q u (h u (by simp)) fun x hx => h x (by simp [hx])
    simp only [pathT]
    omega
theorem bestT_some {rows : List (List Int)} (h1 : 1 ≤ rows.length) (h24 : rows.length ≤ 24) (num : ∀ a b, a < rows.length → b < rows.length → 0 ≤ costAt rows a b) : ∀ (f : Nat) (p : List Int) (m last : Nat) (cost : Int) (l : List Nat), walkP rows p = some (m, last, cost) → WalkOk rows p m last cost l → f = rows.length - 1 - p.length → ∃ q : List Nat, q.Perm (memsM m) ∧ bestT rows f p = pathT rows 0 (l ++ q)
  | 0, p, m, last, cost, l, hp, W, hf => by
    have hlen := W.len
    have hpl : p.length = l.length := by rw [W.eq, intsN_len]
    refine ⟨[], ?_, by rw [List.append_nil]; show pathT rows 0 (p.map Int.toNat) = _; rw [W.eq, toNat_ints]⟩
    rw [List.eq_nil_of_length_eq_zero (show (memsM m).length = 0 by omega)]
  | f + 1, p, m, last, cost, l, hp, W, hf => by
    have hlen := W.len
    have hpl : p.length = l.length := by rw [W.eq, intsN_len]
    have ih : ∀ c ∈ memsM m, ∃ q : List Nat, q.Perm (memsM (clrM m c)) ∧ bestT rows f (p ++ [(c : Int)]) = pathT rows 0 ((l ++ [c]) ++ q) := fun c hc => by
      have hs := walkP_snoc h1 h24 hp hc
      obtain ⟨l', W'⟩ := walk_ok h1 h24 hs
      have e : l' = l ++ [c] := by
        have := W'.eq
        rw [W.eq] at this
        have h2 := congrArg (List.map Int.toNat) this
        rw [toNat_ints] at h2
        rw [← h2, List.map_append, toNat_ints]
        rfl
      subst e
      exact bestT_some h1 h24 num f _ _ _ _ _ hs W' (by rw [List.length_append, List.length_singleton]; omega)
    have hpos : ∀ x ∈ intsN (memsM m), 0 ≤ bestT rows f (p ++ [x]) := fun x hx => by
      obtain ⟨c, hc, rfl⟩ := List.mem_map.1 hx
      obtain ⟨q, a1, a2⟩ := ih c hc
      rw [a2]
      refine pathT_pos num _ _ (by omega) fun y hy => ?_
      rcases List.mem_append.1 hy with hy | hy
      · rcases List.mem_append.1 hy with hy | hy
        · exact (W.inn y hy).1
        · obtain rfl := List.mem_singleton.1 hy
          exact ((W.rest y).1 hc).1.1
      · exact ((W.rest y).1 ((clr_mem W.sub.1).1 (a1.mem_iff.1 hy)).1).1.1
    have hne : memsM m ≠ [] := by
      intro e
      rw [e] at hlen
      simp at hlen
      omega
    have e : bestT rows (f + 1) p = leastF (fun x => bestT rows f (p ++ [x])) (-1) (intsN (memsM m)) := by
      show leastF _ (-1) (match walkP rows p with | none => [] | some (m, _, _) => intsN (memsM m)) = _
      rw [hp]
    rcases leastF_in (b := -1) hpos (.inr (by simpa [intsN] using hne)) with ⟨_, h⟩ | ⟨x, hx, h⟩
    · omega
    · obtain ⟨c, hc, rfl⟩ := List.mem_map.1 hx
      obtain ⟨q, a1, a2⟩ := ih c hc
      refine ⟨c :: q, ?_, ?_⟩
      · refine (a1.cons c).trans ?_
        refine (List.perm_ext_iff_of_nodup ?_ ((memsM_sorted m).imp fun h => Nat.ne_of_lt h)).2 fun x => ?_
        · refine List.nodup_cons.2 ⟨fun h => ((clr_mem W.sub.1).1 h).2 rfl, (memsM_sorted _).imp fun h => Nat.ne_of_lt h⟩
        · rw [List.mem_cons, clr_mem W.sub.1]
          constructor
          · rintro (rfl | ⟨h, _⟩)
            · exact hc
            · exact h
          · intro h
            by_cases e : x = c
            · exact .inl e
            · exact .inr ⟨h, e⟩
      · rw [e, h, a2]
        simp
/-- a bound is no number below nought, and none above the least cost -/
theorem boundT_below {rows : List (List Int)} {mirror : Bool} (h1 : 1 ≤ rows.length) (h24 : rows.length ≤ 24) (num : ∀ a b, a < rows.length → b < rows.length → 0 ≤ costAt rows a b ∧ costAt rows a b ≤ 2147483647) (sym : mirror = true → ∀ a b, a < rows.length → b < rows.length → costAt rows a b = costAt rows b a) {p : List Int} {m last : Nat} {cost : Int} (hp : walkP rows p = some (m, last, cost)) :
    0 ≤ (boundT rows mirror p).1 ∧ (boundT rows mirror p).1 ≤ bestT rows (rows.length - 1 - p.length) p ∧ (boundT rows mirror p).2 = 0 := by
  obtain ⟨l, W⟩ := walk_ok h1 h24 hp
  obtain ⟨q, a1, a2⟩ := bestT_some h1 h24 (fun a b x y => (num a b x y).1) _ p m last cost l hp W rfl
  have hll : last < rows.length := by
    rw [W.last]
    rcases lastT_mem l 0 with h | h
    · rw [h]; omega
    · exact (W.inn _ h).1
  have hus : ∀ x ∈ memsM m, x < rows.length := fun x hx => ((W.rest x).1 hx).1.1
  have h0 : 0 ∉ memsM m := fun h => ((W.rest 0).1 h).1.2 rfl
  have hnl : last ∉ memsM m := fun h => by
    have h2 := (W.rest last).1 h
    rcases lastT_mem l 0 with h3 | h3
    · exact h2.1.2 (by rw [W.last, h3])
    · exact h2.2 (by rw [W.last]; exact h3)
  have hnd : (memsM m).Nodup := (memsM_sorted m).imp fun h => Nat.ne_of_lt h
  have hA : ∀ a, (a = last ∨ a ∈ memsM m) → a < rows.length := fun a h => h.elim (fun e => by rw [e]; exact hll) (hus a)
  have num' : ∀ a b, (a = last ∨ a ∈ memsM m) → (b = 0 ∨ b ∈ memsM m) → 0 ≤ costAt rows a b ∧ costAt rows a b ≤ 2147483647 := fun a b ha hb => num a b (hA a ha) (hb.elim (fun e => by omega) (hus b))
  have hway : 0 ≤ cost := by
    rw [W.cost]
    have key : ∀ (l : List Nat) (s : Nat), s < rows.length → (∀ x ∈ l, x < rows.length) → 0 ≤ wayC rows s (intsN l) := by
      intro l
      induction l with
      | nil => intro s _ _; simp [wayC, intsN]
      | cons c l ih =>
        intro s hs h
        have h2 := (num s c hs (h c (by simp))).1
        have h3 := ih c (h c (by simp)) fun x hx => h x (by simp [hx])
        simp only [intsN, List.map_cons, wayC, Int.toNat_natCast] at h3 ⊢
        omega
    exact key l 0 (by omega) fun x hx => (W.inn x hx).1
  have hb : boundT rows mirror p = (cost + (if memsM m = [] then costAt rows last 0 else if mirror = true then max (reduceT rows (memsM m) last) ((endsT rows (memsM m) last + 1) / 2) else reduceT rows (memsM m) last), 0) := by unfold boundT; rw [hp]
  rw [hb, a2, pathT_app, ← W.last, ← W.cost]
  simp only
  by_cases he : memsM m = []
  · rw [if_pos he]
    have : q = [] := List.Perm.eq_nil (he ▸ a1)
    subst this
    have := (num' last 0 (.inl rfl) (.inl rfl)).1
    exact ⟨by omega, by simp only [pathT]; omega, trivial⟩
  · rw [if_neg he]
    have r1 := reduceT_le num' (List.nodup_cons.2 ⟨hnl, hnd⟩) he h0 a1
    have r0 : 0 ≤ reduceT rows (memsM m) last := by
      have k1 : 0 ≤ sumL ((last :: memsM m).map fun src => offT rows (memsM m) last src) := sumL_pos fun x hx => by
        obtain ⟨y, _, rfl⟩ := List.mem_map.1 hx
        unfold offT
        omega
      have k2 : 0 ≤ sumL ((0 :: memsM m).map fun dst => max (colT rows (memsM m) last dst) 0) := sumL_pos fun x hx => by
        obtain ⟨y, _, rfl⟩ := List.mem_map.1 hx
        omega
      unfold reduceT
      omega
    cases hm : mirror with
    | false => exact ⟨by simp only [if_neg (show ¬ (false = true) by simp)]; omega, by simp only [if_neg (show ¬ (false = true) by simp)]; omega, trivial⟩
    | true =>
      have r2 := endsT_le (fun a b x y => (num' a b x y).1) (fun a b ha hb => sym hm a b (hA a ha) (hA b hb)) hnd hnl h0 a1 he
      simp only [if_true]
      refine ⟨by omega, by omega, trivial⟩
end Go.Proofs.YtleckhbmciiooaaDoor
namespace Go.Proofs.YtleckhbmciiooaaDoor

theorem leastF_low {f : Int → Int} : ∀ {l : List Int} {b : Int}, (∀ x ∈ l, 0 ≤ f x) → (∀ x ∈ l, leastF f b l ≤ f x) ∧ (0 ≤ b → leastF f b l ≤ b)
  | [], b, _ => ⟨(fun x h => by simp at h), fun _ => Int.le_refl _⟩
  | x :: l, b, h => by
    have hx := h x (by simp)
    have ih := leastF_low (f := f) (l := l) (b := if b < 0 then f x else if f x < b then f x else b) (fun y hy => h y (by simp [hy]))
    have h2 := ih.2 (by split <;> (try split) <;> omega)
    unfold leastF
    refine ⟨fun y hy => ?_, fun hb => ?_⟩
    · rcases List.mem_cons.1 hy with rfl | hy
      · refine Int.le_trans h2 ?_
        split <;> (try split) <;> omega
      · exact ih.1 y hy
    · refine Int.le_trans h2 ?_
      split <;> (try split) <;> omega
theorem perm_tail {m c : Nat} (hm : m < 18446744073709551616) {q : List Nat} (h : (c :: q).Perm (memsM m)) : q.Perm (memsM (clrM m c)) := by
  have hnd : (c :: q).Nodup := h.nodup_iff.2 ((memsM_sorted m).imp fun h => Nat.ne_of_lt h)
  obtain ⟨h1, h2⟩ := List.nodup_cons.1 hnd
  refine (List.perm_ext_iff_of_nodup h2 ((memsM_sorted _).imp fun h => Nat.ne_of_lt h)).2 fun x => ?_
  rw [clr_mem hm, ← h.mem_iff, List.mem_cons]
  constructor
  · intro hx
    exact ⟨.inr hx, fun e => h1 (e ▸ hx)⟩
  · rintro ⟨rfl | hx, hne⟩
    · exact absurd rfl hne
    · exact hx
theorem bestA_le {rows : List (List Int)} (h24 : rows.length ≤ 24) (num : ∀ row ∈ rows, ∀ c, c < rows.length → 0 ≤ row.getD c 0) : ∀ (f : Nat) (p : List Int) (m : Nat), freeP rows.length p = some m → f = rows.length - p.length → ∀ q : List Nat, q.Perm (memsM m) → bestA rows rows.length f p ≤ costF rows (p ++ intsN q)
  | 0, p, m, hp, hf => fun q hq => by
    have hlen := freeP_len h24 hp
    have h0 : q = [] := List.eq_nil_of_length_eq_zero (by rw [hq.length_eq]; omega)
    subst h0
    simp [bestA, intsN]
  | f + 1, p, m, hp, hf => fun q hq => by
    have hlen := freeP_len h24 hp
    have hsub := (freeP_in h24 hp).2.2
    have hpos : ∀ x ∈ intsN (memsM m), 0 ≤ bestA rows rows.length f (p ++ [x]) := fun x hx => by
      obtain ⟨c, hc, rfl⟩ := List.mem_map.1 hx
      obtain ⟨q', h1, h2⟩ := best_some h24 num f _ _ (freeP_snoc h24 hp hc) (by rw [List.length_append, List.length_singleton]; omega)
      rw [h2]
      have hin := (freeP_in h24 hp).2.1
      have : ∀ (rs : List (List Int)) (l : List Int), (∀ row ∈ rs, row ∈ rows) → (∀ x ∈ l, 0 ≤ x ∧ x < rows.length) → 0 ≤ costF rs l := by
        intro rs
        induction rs with
        | nil => intro l _ _; simp [costF]
        | cons r rs ihr =>
          intro l h3 h4
          cases l with
          | nil => simp [costF]
          | cons d l =>
            have h5 := h4 d (by simp)
            have h6 := num r (h3 r (by simp)) d.toNat (by omega)
            have h7 := ihr l (fun y hy => h3 y (by simp [hy])) (fun y hy => h4 y (by simp [hy]))
            simp only [costF]
            omega
      refine this rows _ (fun _ h => h) fun y hy => ?_
      rcases List.mem_append.1 hy with hy | hy
      · rcases List.mem_append.1 hy with hy | hy
        · exact hin y hy
        · obtain rfl := List.mem_singleton.1 hy
          have := hsub.2 c hc
          omega
      · obtain ⟨d, hd, rfl⟩ := List.mem_map.1 hy
        have := hsub.2 d (((clr_mem hsub.1).1 (h1.mem_iff.1 hd)).1)
        omega
    have e : bestA rows rows.length (f + 1) p = leastF (fun x => bestA rows rows.length f (p ++ [x])) (-1) (intsN (memsM m)) := by
      show leastF _ (-1) (match freeP rows.length p with | none => [] | some m => intsN (memsM m)) = _
      rw [hp]
    rw [e]
    cases q with
    | nil =>
      have := hq.length_eq
      simp at this
      omega
    | cons c q =>
      have hc : c ∈ memsM m := hq.mem_iff.1 (by simp)
      refine Int.le_trans ((leastF_low hpos).1 (c : Int) (List.mem_map.2 ⟨c, hc, rfl⟩)) ?_
      have h := bestA_le h24 num f _ _ (freeP_snoc h24 hp hc) (by rw [List.length_append, List.length_singleton]; omega) q (perm_tail hsub.1 hq)
      have e2 : p ++ intsN (c :: q) = p ++ [(c : Int)] ++ intsN q := by simp [intsN]
      rw [e2]
      exact h
theorem bestT_le {rows : List (List Int)} (h1 : 1 ≤ rows.length) (h24 : rows.length ≤ 24) (num : ∀ a b, a < rows.length → b < rows.length → 0 ≤ costAt rows a b) : ∀ (f : Nat) (p : List Int) (m last : Nat) (cost : Int) (l : List Nat), walkP rows p = some (m, last, cost) → WalkOk rows p m last cost l → f = rows.length - 1 - p.length → ∀ q : List Nat, q.Perm (memsM m) → bestT rows f p ≤ pathT rows 0 (l ++ q)
  | 0, p, m, last, cost, l, hp, W, hf => fun q hq => by
    have hlen := W.len
    have hpl : p.length = l.length := by rw [W.eq, intsN_len]
    have h0 : q = [] := List.eq_nil_of_length_eq_zero (by rw [hq.length_eq]; omega)
    subst h0
    rw [List.append_nil]
    show pathT rows 0 (p.map Int.toNat) ≤ _
    rw [W.eq, toNat_ints]
    exact Int.le_refl _
  | f + 1, p, m, last, cost, l, hp, W, hf => fun q hq => by
    have hlen := W.len
    have hpl : p.length = l.length := by rw [W.eq, intsN_len]
    have nx : ∀ c ∈ memsM m, ∃ (m' last' : Nat) (cost' : Int), walkP rows (p ++ [(c : Int)]) = some (m', last', cost') ∧ m' = clrM m c ∧ WalkOk rows (p ++ [(c : Int)]) m' last' cost' (l ++ [c]) := fun c hc => by
      have hs := walkP_snoc h1 h24 hp hc
      obtain ⟨l', W'⟩ := walk_ok h1 h24 hs
      have e : l' = l ++ [c] := by
        have := W'.eq
        rw [W.eq] at this
        have h2 := congrArg (List.map Int.toNat) this
        rw [toNat_ints] at h2
        rw [← h2, List.map_append, toNat_ints]
        rfl
      subst e
      exact ⟨_, _, _, hs, rfl, W'⟩
    have hpos : ∀ x ∈ intsN (memsM m), 0 ≤ bestT rows f (p ++ [x]) := fun x hx => by
      obtain ⟨c, hc, rfl⟩ := List.mem_map.1 hx
      obtain ⟨m', last', cost', hs, rfl, W'⟩ := nx c hc
      obtain ⟨q', a1, a2⟩ := bestT_some h1 h24 num f _ _ _ _ _ hs W' (by rw [List.length_append, List.length_singleton]; omega)
      rw [a2]
      refine pathT_pos num _ _ (by omega) fun y hy => ?_
      rcases List.mem_append.1 hy with hy | hy
      · exact (W'.inn y hy).1
      · exact ((W'.rest y).1 (a1.mem_iff.1 hy)).1.1
    have e : bestT rows (f + 1) p = leastF (fun x => bestT rows f (p ++ [x])) (-1) (intsN (memsM m)) := by
      show leastF _ (-1) (match walkP rows p with | none => [] | some (m, _, _) => intsN (memsM m)) = _
      rw [hp]
    rw [e]
    cases q with
    | nil =>
      have := hq.length_eq
      simp at this
      omega
    | cons c q =>
      have hc : c ∈ memsM m := hq.mem_iff.1 (by simp)
      refine Int.le_trans ((leastF_low hpos).1 (c : Int) (List.mem_map.2 ⟨c, hc, rfl⟩)) ?_
      obtain ⟨m', last', cost', hs, rfl, W'⟩ := nx c hc
      have h := bestT_le h1 h24 num f _ _ _ _ _ hs W' (by rw [List.length_append, List.length_singleton]; omega) q (perm_tail W.sub.1 hq)
      rw [List.append_assoc] at h
      exact h
/-- the better one of two, -1 is none -/
def pkB (b c : Int) : Int := if 0 ≤ c ∧ (b < 0 ∨ c < b) then c else b
/-- the least cost of all answers to a knapsack that begin so; -1: there is none -/
def best1 (cap : Int) (ws vs : List Int) : Nat → List Int → Int
  | 0, x => if cap < takenL x ws then -1 else leftL x vs
  | f + 1, x => pkB (pkB (-1) (best1 cap ws vs f (x ++ [0]))) (best1 cap ws vs f (x ++ [1]))
/-- an answer that begins so -/
def ExtB (n : Nat) (x y : List Int) : Prop := (∃ s, y = x ++ s) ∧ y.length = n ∧ ∀ v ∈ y, v = 0 ∨ v = 1
theorem extB_step {n : Nat} {x y : List Int} (h : ExtB n x y) (hl : x.length < n) : ExtB n (x ++ [0]) y ∨ ExtB n (x ++ [1]) y := by
  obtain ⟨⟨s, rfl⟩, h1, h2⟩ := h
  cases s with
  | nil => simp at h1; omega
  | cons a s =>
    rcases h2 a (by simp) with rfl | rfl
    · exact .inl ⟨⟨s, by simp⟩, h1, h2⟩
    · exact .inr ⟨⟨s, by simp⟩, h1, h2⟩
theorem extB_back {n : Nat} {x y : List Int} {b : Int} (h : ExtB n (x ++ [b]) y) : ExtB n x y := by
  obtain ⟨⟨s, rfl⟩, h1, h2⟩ := h
  exact ⟨⟨b :: s, by simp⟩, h1, h2⟩
theorem leftL_pos {vs : List Int} (hv : ∀ x ∈ vs, 0 ≤ x) : ∀ (x : List Int), 0 ≤ leftL x vs := fun x => by
  unfold leftL
  refine sumL_nonneg fun z hz => ?_
  obtain ⟨k, hk, rfl⟩ := List.mem_iff_getElem.1 hz
  rw [List.getElem_zipWith]
  have := hv _ (List.getElem_mem (by simp at hk; omega : k < vs.length))
  split <;> omega
theorem best1_law {cap : Int} {ws vs : List Int} {n : Nat} (hv : ∀ x ∈ vs, 0 ≤ x) : ∀ (f : Nat) (x : List Int), (∀ v ∈ x, v = 0 ∨ v = 1) → x.length + f = n →
    (best1 cap ws vs f x = -1 ∨ ∃ y, ExtB n x y ∧ takenL y ws ≤ cap ∧ best1 cap ws vs f x = leftL y vs) ∧ ∀ y, ExtB n x y → takenL y ws ≤ cap → 0 ≤ best1 cap ws vs f x ∧ best1 cap ws vs f x ≤ leftL y vs
  | 0, x, h01, hl => by
    unfold best1
    by_cases hc : cap < takenL x ws
    · rw [if_pos hc]
      refine ⟨.inl rfl, fun y hy hy2 => ?_⟩
      obtain ⟨⟨s, rfl⟩, h1, h2⟩ := hy
      have : s = [] := List.eq_nil_of_length_eq_zero (by simp at h1; omega)
      subst this
      rw [List.append_nil] at hy2
      omega
    · rw [if_neg hc]
      refine ⟨.inr ⟨x, ⟨⟨[], by simp⟩, by omega, h01⟩, by omega, rfl⟩, fun y hy hy2 => ?_⟩
      obtain ⟨⟨s, rfl⟩, h1, h2⟩ := hy
      have : s = [] := List.eq_nil_of_length_eq_zero (by simp at h1; omega)
      subst this
      rw [List.append_nil]
      exact ⟨leftL_pos hv x, Int.le_refl _⟩
  | f + 1, x, h01, hl => by
    have g0 : ∀ v ∈ x ++ [0], v = 0 ∨ v = 1 := fun v hv => by
      rcases List.mem_append.1 hv with h | h
      · exact h01 v h
      · exact .inl (List.mem_singleton.1 h)
    have g1 : ∀ v ∈ x ++ [1], v = 0 ∨ v = 1 := fun v hv => by
      rcases List.mem_append.1 hv with h | h
      · exact h01 v h
      · exact .inr (List.mem_singleton.1 h)
    obtain ⟨a1, a2⟩ := best1_law (cap := cap) (ws := ws) (n := n) hv f (x ++ [0]) g0 (by simp; omega)
    obtain ⟨b1, b2⟩ := best1_law (cap := cap) (ws := ws) (n := n) hv f (x ++ [1]) g1 (by simp; omega)
    have e : best1 cap ws vs (f + 1) x = pkB (pkB (-1) (best1 cap ws vs f (x ++ [0]))) (best1 cap ws vs f (x ++ [1])) := rfl
    rw [e]
    have a3 : -1 ≤ best1 cap ws vs f (x ++ [0]) := by
      rcases a1 with h | ⟨y, _, _, h⟩
      · omega
      · have := leftL_pos hv y; omega
    have b3 : -1 ≤ best1 cap ws vs f (x ++ [1]) := by
      rcases b1 with h | ⟨y, _, _, h⟩
      · omega
      · have := leftL_pos hv y; omega
    generalize best1 cap ws vs f (x ++ [0]) = a at *
    generalize best1 cap ws vs f (x ++ [1]) = b at *
    have e1 : pkB (-1) a = a := by
      unfold pkB
      split <;> omega
    rw [e1]
    have e2 : (pkB a b = a ∧ (b = -1 ∨ (0 ≤ a ∧ a ≤ b))) ∨ (pkB a b = b ∧ 0 ≤ b ∧ (a = -1 ∨ b < a)) := by
      unfold pkB
      split <;> omega
    constructor
    · rcases e2 with ⟨h, _⟩ | ⟨h, _⟩
      · rw [h]
        rcases a1 with h2 | ⟨y, h3, h4, h5⟩
        · exact .inl h2
        · exact .inr ⟨y, extB_back h3, h4, h5⟩
      · rw [h]
        rcases b1 with h2 | ⟨y, h3, h4, h5⟩
        · exact .inl h2
        · exact .inr ⟨y, extB_back h3, h4, h5⟩
    · intro y hy hc
      rcases extB_step hy (by omega) with h | h
      · have := a2 y h hc
        omega
      · have := b2 y h hc
        omega
theorem list_xB : ∀ (n : Nat) (y : List Int), y.length = n → (∀ v ∈ y, v = 0 ∨ v = 1) → ∃ m, m < 2 ^ n ∧ y = xB m n
  | 0, y, h, _ => ⟨0, by simp, by rw [List.eq_nil_of_length_eq_zero h]; rfl⟩
  | n + 1, y, h, h01 => by
    obtain ⟨z, b, rfl⟩ : ∃ z b, y = z ++ [b] := by
      have hne : y ≠ [] := fun e => by rw [e] at h; simp at h
      exact ⟨y.dropLast, y.getLast hne, (List.dropLast_concat_getLast hne).symm⟩
    obtain ⟨m, hm, rfl⟩ := list_xB n z (by simpa using h) (fun v hv => h01 v (by simp [hv]))
    have e0 : m.testBit n = false := Nat.testBit_lt_two_pow hm
    have hp : 2 ^ (n + 1) = 2 ^ n + 2 ^ n := by rw [Nat.pow_succ]; omega
    rcases h01 b (by simp) with rfl | rfl
    · refine ⟨m, by omega, ?_⟩
      unfold xB
      rw [List.range_succ, List.map_append, List.map_singleton, e0]
      rfl
    · refine ⟨2 ^ n + m, by omega, ?_⟩
      unfold xB
      rw [List.range_succ, List.map_append, List.map_singleton, Nat.testBit_two_pow_add_eq, e0]
      congr 1
      refine List.map_congr_left fun j hj => ?_
      rw [Nat.testBit_two_pow_add_gt (List.mem_range.1 hj)]
end Go.Proofs.YtleckhbmciiooaaDoor
namespace Go.Proofs.YtleckhbmciiooaaDoor
open Go.RowKit Go.ChangeShapes Go.WideShapes Go.ChangeAt Go.Deep

end Go.Proofs.YtleckhbmciiooaaDoor
namespace Go.Proofs.YtleckhbmciiooaaDoor
open Go.RowKit Go.ChangeShapes Go.WideShapes Go.ChangeAt Go.Deep

section
variable {ops : Array Oper} {i : Nat} {t : TypeId} {d : Option Tmp} {a : Act} {w : World} {K : Act → World → Prop} {Q : Exit → Act → World → Prop}
end
theorem RdI.mod {S : Nat → Prop} {w w' : World} {A : Option Addr} {xs : List Int} (h : RdI w A xs) (k : Mod S w w') (hb : ∀ b, bl A = some b → ¬ S b) : RdI w' A xs := by
  rcases h with rfl | ⟨b, off, rfl, hlt, hc⟩
  · exact .inl rfl
  · refine .inr ⟨b, off, rfl, Nat.lt_of_lt_of_le hlt k.size, fun j x hj => ?_⟩
    rw [← hc j x hj]
    exact World.cell?_of_block (k.block b hlt (hb b rfl))
end Go.Proofs.YtleckhbmciiooaaDoor
namespace Go.Proofs.YtleckhbmciiooaaDoor
open Go.RowKit Go.ChangeShapes Go.WideShapes Go.ChangeAt Go.Deep

section
variable {w w2 : World} {base g pn pc wc vc hc c' : Nat} {cap x : Int} {PA WA VA HA A' : Option Addr} {ws vs bs : List Int}
end
end Go.Proofs.YtleckhbmciiooaaDoor
namespace Go.Proofs.YtleckhbmciiooaaDoor
open Go.RowKit Go.ChangeShapes Go.WideShapes Go.ChangeAt Go.Deep

def BoundVal (b : Int × Int) : Value := .tuple #[.int .i64 b.1, .int .i64 b.2]
end Go.Proofs.YtleckhbmciiooaaDoor
namespace Go.Proofs.YtleckhbmciiooaaDoor
open Go.RowKit Go.ChangeShapes Go.WideShapes Go.ChangeAt Go.Deep

set_option maxRecDepth 100000 in
set_option maxHeartbeats 2000000 in
theorem small_any (i : InstP) (us : List Value) (w : World) (H : RInst w us i) (hc : checkP i = 0) (hk : i.kind = 1) :
    Calls Tryd.prog 35 #[.agg (List.toArray us)] w fun e w' => e = .returned (.bool (decide (i.n ≤ 9))) ∧ Ext w w' := by
  have CH := fun (W : World) (x : Ext w W) => rcheck_any i us W (H.ext x)
  rw [hc] at CH
  obtain ⟨kind, nn, cap, xw, xv, co⟩ := i
  obtain ⟨A, a, B, b, D, d, rfl, -, -, -⟩ := H
  simp only at *
  subst hk
  replace CH := Lib.hid CH
  clear hc
  by_cases h9 : nn ≤ 9
  · have e9 : decide (nn ≤ 9) = true := decide_eq_true h9
    have B1 : Blk (w.alloc (.cells #[.int .i64 1, .int .i64 nn, .int .i64 cap, .slice A xw.length a, .slice B xv.length b, .slice D co.length d] 25)) w.heap.size 25 #[.int .i64 1, .int .i64 nn, .int .i64 cap, .slice A xw.length a, .slice B xv.length b, .slice D co.length d] := .new rfl
    go_enter Tryd.func35, Tryd.ntmps35
    go_wp2_with (fail)
    refine (CH.out _ (by (repeat (first | assumption | exact Ext.rf _ | apply Ext.drew | apply Ext.drewN | apply Ext.alloc)))).mono ?_
    rintro e w1 ⟨rfl, x1⟩
    have X1 := Lib.hid (Ext.tr (a := w) (by (repeat (first | assumption | exact Ext.rf _ | apply Ext.drew | apply Ext.drewN | apply Ext.alloc))) x1)
    have b0 : w1.cell? ⟨w.heap.size, 0, none⟩ = some (.int .i64 1) := (B1.ext x1).cell 0
    have b1 : w1.cell? ⟨w.heap.size, 1, none⟩ = some (.int .i64 nn) := (B1.ext x1).cell 1
    clear x1 B1
    go_wp2_with (fail)
    go_ret
    exact ⟨by simp [e9], X1.out⟩
  · have e9 : decide (nn ≤ 9) = false := decide_eq_false h9
    have h6 : ¬ nn ≤ 6 := by omega
    have e6 : decide (nn ≤ 6) = false := decide_eq_false h6
    have B1 : Blk (w.alloc (.cells #[.int .i64 1, .int .i64 nn, .int .i64 cap, .slice A xw.length a, .slice B xv.length b, .slice D co.length d] 25)) w.heap.size 25 #[.int .i64 1, .int .i64 nn, .int .i64 cap, .slice A xw.length a, .slice B xv.length b, .slice D co.length d] := .new rfl
    go_enter Tryd.func35, Tryd.ntmps35
    go_wp2_with (fail)
    refine (CH.out _ (by (repeat (first | assumption | exact Ext.rf _ | apply Ext.drew | apply Ext.drewN | apply Ext.alloc)))).mono ?_
    rintro e w1 ⟨rfl, x1⟩
    have X1 := Lib.hid (Ext.tr (a := w) (by (repeat (first | assumption | exact Ext.rf _ | apply Ext.drew | apply Ext.drewN | apply Ext.alloc))) x1)
    have b0 : w1.cell? ⟨w.heap.size, 0, none⟩ = some (.int .i64 1) := (B1.ext x1).cell 0
    have b1 : w1.cell? ⟨w.heap.size, 1, none⟩ = some (.int .i64 nn) := (B1.ext x1).cell 1
    clear x1 B1
    go_wp2_with (fail)
    go_ret
    exact ⟨by simp [e9], X1.out⟩
end Go.Proofs.YtleckhbmciiooaaDoor
namespace Go.Proofs.YtleckhbmciiooaaDoor
open Go.RowKit Go.ChangeShapes Go.WideShapes Go.ChangeAt Go.Deep

set_option maxRecDepth 100000 in
set_option maxHeartbeats 4000000 in
theorem rcost_any (i : InstP) (us : List Value) (P : Option Addr) (c : Nat) (x : List Int) (w : World) (H : RInst w us i) (hc : checkP i = 0) (hk : i.kind = 1) (hP : RdI w P x) (lx : (x.length : Int) = i.n) (h01 : ∀ v ∈ x, v = 0 ∨ v = 1) :
    Calls Tryd.prog 34 #[.agg (List.toArray us), .slice P x.length c] w fun e w' => e = .returned (BoundVal (costP i.cap i.weight i.value x)) ∧ Ext w w' := by
  have CH := fun (W : World) (x : Ext w W) => rcheck_any i us W (H.ext x)
  rw [hc] at CH
  have ok := knap_ok hc hk
  have k1 := ok.n1
  have k2 := ok.n2
  have k3 := ok.w
  have k4 := ok.v
  have k5 := ok.cap
  have k6 := Lib.hid ok.sw
  have k7 := Lib.hid ok.sv
  clear ok hc
  obtain ⟨kind, nn, cap, xw, xv, co⟩ := i
  obtain ⟨A, a, B, b, D, d, rfl, ⟨rA, iA, lA, mA⟩, ⟨rB, iB, lB, mB⟩, -⟩ := H
  simp only at *
  subst hk
  obtain ⟨n, rfl⟩ : ∃ n : Nat, nn = (n : Int) := ⟨nn.toNat, by omega⟩
  have lxn : x.length = n := by omega
  have lwn : xw.length = n := by omega
  have lvn : xv.length = n := by omega
  have hn2 : n ≤ 64 := by omega
  replace lwn := Lib.hid lwn
  replace lvn := Lib.hid lvn
  replace lxn := Lib.hid lxn
  clear lx k3 k4
  have W1 : ∀ k v u, x[k]? = some v → xw[k]? = some u → takenL (x.take (k + 1)) xw = takenL (x.take k) xw + if v = 1 then u else 0 := fun k v u h1 h2 => sumZip_take _ k x xw h1 h2
  have V1 : ∀ k v u, x[k]? = some v → xv[k]? = some u → leftL (x.take (k + 1)) xv = leftL (x.take k) xv + if v = 1 then 0 else u := fun k v u h1 h2 => sumZip_take _ k x xv h1 h2
  replace W1 := Lib.hid W1
  replace V1 := Lib.hid V1
  replace CH := Lib.hid CH
  replace rA := Lib.hid rA
  replace rB := Lib.hid rB
  replace hP := Lib.hid hP
  replace mA := Lib.hid mA
  replace mB := Lib.hid mB
  replace iA := Lib.hid iA
  replace iB := Lib.hid iB
  replace h01 := Lib.hid h01
  have B1 : Hid (Blk (w.alloc (.cells #[.int .i64 1, .int .i64 n, .int .i64 cap, .slice A xw.length a, .slice B xv.length b, .slice D co.length d] 25)) w.heap.size 25 #[.int .i64 1, .int .i64 n, .int .i64 cap, .slice A xw.length a, .slice B xv.length b, .slice D co.length d]) := .new rfl
  have lz := List.take_length (l := x)
  have bW : ∀ k, k ≤ n → 0 ≤ takenL (x.take k) xw ∧ takenL (x.take k) xw ≤ 2147483647 * (k : Int) := by
    intro k
    induction k with
    | zero => intro _; simp [takenL, sumL]
    | succ k ih =>
      intro hk
      have h0 := ih (by omega)
      have h8 : k < x.length := by rw [lxn.out]; omega
      have e1 : x[k]? = some x[k] := List.getElem?_eq_getElem h8
      have h9 : k < xw.length := by rw [lwn.out]; omega
      have e2 : xw[k]? = some xw[k] := List.getElem?_eq_getElem h9
      have h1 := W1.out k _ _ e1 e2
      have h2 := k6.out.get e2
      rw [h1]
      split <;> omega
  have bV : ∀ k, k ≤ n → 0 ≤ leftL (x.take k) xv ∧ leftL (x.take k) xv ≤ 2147483647 * (k : Int) := by
    intro k
    induction k with
    | zero => intro _; simp [leftL, sumL]
    | succ k ih =>
      intro hk
      have h0 := ih (by omega)
      have h8 : k < x.length := by rw [lxn.out]; omega
      have e1 : x[k]? = some x[k] := List.getElem?_eq_getElem h8
      have h9 : k < xv.length := by rw [lvn.out]; omega
      have e2 : xv[k]? = some xv[k] := List.getElem?_eq_getElem h9
      have h1 := V1.out k _ _ e1 e2
      have h2 := k7.out.get e2
      rw [h1]
      split <;> omega
  replace bW := Lib.hid bW
  replace bV := Lib.hid bV
  obtain ⟨cc, hcc⟩ : ∃ cc, Hid (costP cap xw xv x = cc) := ⟨_, rfl⟩
  have HC : Hid (cc = if cap < takenL (x.take n) xw then (0, 9) else (leftL (x.take n) xv, 0)) := by
    have h : cc = if cap < takenL (x.take n) xw then (0, 9) else (leftL (x.take n) xv, 0) := by
      rw [← hcc.out, ← lxn.out, lz]
      rfl
    exact h
  rw [hcc.out]
  clear hcc lz
  go_enter Tryd.func34, Tryd.ntmps34
  go_wp2_with (fail)
  refine (CH.out _ (by (repeat (first | assumption | exact Ext.rf _ | apply Ext.drew | apply Ext.drewN | apply Ext.alloc)))).mono ?_
  rintro e w1 ⟨rfl, x1⟩
  have X1 := Lib.hid (Ext.tr (a := w) (by (repeat (first | assumption | exact Ext.rf _ | apply Ext.drew | apply Ext.drewN | apply Ext.alloc))) x1)
  have BB := Lib.hid (B1.out.ext x1)
  have d0 : w1.cell? ⟨w.heap.size, 0, none⟩ = some (.int .i64 1) := BB.out.cell 0
  have d1 : w1.cell? ⟨w.heap.size, 1, none⟩ = some (.int .i64 n) := BB.out.cell 1
  have zb := BB.out.lt
  clear x1
  have exn : (x.length : Int) = (n : Int) := by rw [lxn.out]
  have d2 : w1.cell? ⟨w.heap.size, 2, none⟩ = some (.int .i64 cap) := BB.out.cell 2
  have d3 : w1.cell? ⟨w.heap.size, 3, none⟩ = some (.slice A xw.length a) := BB.out.cell 3
  have d4 : w1.cell? ⟨w.heap.size, 4, none⟩ = some (.slice B xv.length b) := BB.out.cell 4
  go_wp2_with (fail)
  go_loopw [9, 10, 11] (fun a b i wr => ∃ k : Nat, i = .int .i64 k ∧ a = .int .i64 (takenL (x.take k) xw) ∧ b = .int .i64 (leftL (x.take k) xv) ∧ k ≤ n ∧ Ext w1 wr) (fun _ _ i _ => n - (intOf i).toNat)
  case atStart => exact ⟨0, rfl, rfl, rfl, by omega, Ext.rf _⟩
  case round =>
    obtain ⟨wo, rfl⟩ : ∃ wo : World, wo = wr := ⟨_, rfl⟩
    obtain ⟨k, rfl, rfl, rfl, hk, Y⟩ := hrel
    have e1 := keepEL Y zb d1
    have e2 := keepEL Y zb d2
    have e3 := keepEL Y zb d3
    have e4 := keepEL Y zb d4
    obtain ⟨tw1, tw2⟩ := bW.out k hk
    obtain ⟨tv1, tv2⟩ := bV.out k hk
    by_cases hlt : k < n
    · obtain ⟨pb, po, y, rfl, zy, cy, ey, _⟩ := (hP.out.ext (X1.out.tr Y)).at (k := k) (by rw [lxn.out]; exact hlt)
      obtain ⟨ab, ao, u, rfl, zu, cu, eu, _⟩ := (rA.out.ext (X1.out.tr Y)).at (k := k) (by rw [lwn.out]; exact hlt)
      obtain ⟨vb, vo, v, rfl, zv, cv, ev, _⟩ := (rB.out.ext (X1.out.tr Y)).at (k := k) (by rw [lvn.out]; exact hlt)
      have sW := Lib.hid (W1.out k y u ey.out eu.out)
      have sV := Lib.hid (V1.out k y v ey.out ev.out)
      have bu := k6.out.get eu.out
      have bv := k7.out.get ev.out
      have q1 : (k : Int) < (x.length : Int) := by omega
      have q2 : (k : Int) < (xw.length : Int) := by rw [lwn.out]; omega
      have q3 : (k : Int) < (xv.length : Int) := by rw [lvn.out]; omega
      have hy := h01.out y (List.mem_of_getElem? ey.out)
      obtain ⟨tw, htw⟩ : ∃ tw, tw = takenL (x.take k) xw := ⟨_, rfl⟩
      obtain ⟨tv, htv⟩ : ∃ tv, tv = leftL (x.take k) xv := ⟨_, rfl⟩
      rw [← htw] at tw1 tw2 sW ⊢
      rw [← htv] at tv1 tv2 sV ⊢
      clear ey eu ev htw htv e2
      by_cases y1 : y = 1
      · subst y1
        have sW2 : Hid (takenL (x.take (k + 1)) xw = tw + u) := by
          have h := sW.out
          rw [if_pos rfl] at h
          exact h
        have sV2 : Hid (leftL (x.take (k + 1)) xv = tv) := by
          have h := sV.out
          rw [if_pos rfl, Int.add_zero] at h
          exact h
        clear sW sV hy
        have w1' : IntKind.i64.wrap (tw + u) = tw + u := IntWalk.i64_in _ (by omega)
        go_wp2_with (go_quiet (fail))
        go_roundw
        case rel => exact ⟨k + 1, by go_num, by rw [sW2.out], by rw [sV2.out], by omega, by repeat (first | exact Y | apply Ext.drewN)⟩
        case measure => simp [intOf]; omega
      · obtain rfl : y = 0 := by omega
        have sW2 : Hid (takenL (x.take (k + 1)) xw = tw) := by
          have h := sW.out
          rw [if_neg (by decide), Int.add_zero] at h
          exact h
        have sV2 : Hid (leftL (x.take (k + 1)) xv = tv + v) := by
          have h := sV.out
          rw [if_neg (by decide)] at h
          exact h
        clear sW sV hy y1
        have w1' : IntKind.i64.wrap (tv + v) = tv + v := IntWalk.i64_in _ (by omega)
        go_wp2_with (go_quiet (fail))
        go_roundw
        case rel => exact ⟨k + 1, by go_num, by rw [sW2.out], by rw [sV2.out], by omega, by repeat (first | exact Y | apply Ext.drewN)⟩
        case measure => simp [intOf]; omega
    · obtain rfl : k = n := by omega
      obtain ⟨tw, htw⟩ : ∃ tw, tw = takenL (x.take k) xw := ⟨_, rfl⟩
      obtain ⟨tv, htv⟩ : ∃ tv, tv = leftL (x.take k) xv := ⟨_, rfl⟩
      rw [← htw] at tw1 tw2 HC ⊢
      rw [← htv] at tv1 tv2 HC ⊢
      clear htw htv e3 e4
      by_cases hcap : cap < tw
      · have hb : decide (cap < tw) = true := decide_eq_true hcap
        have HC2 : Hid (cc = (0, 9)) := by
          have h := HC.out
          rw [if_pos hcap] at h
          exact h
        clear HC hcap
        go_wp2_with (fail)
        go_ret2
        rw [HC2.out]
        exact ⟨rfl, X1.out.tr Y⟩
      · have hb : decide (cap < tw) = false := decide_eq_false hcap
        have HC2 : Hid (cc = (tv, 0)) := by
          have h := HC.out
          rw [if_neg hcap] at h
          exact h
        clear HC hcap
        go_wp2_with (fail)
        go_ret2
        rw [HC2.out]
        exact ⟨rfl, X1.out.tr Y⟩
end Go.Proofs.YtleckhbmciiooaaDoor
namespace Go.Proofs.YtleckhbmciiooaaDoor
open Go.RowKit

/-- is an operation's word to be kept over another one's run? not where it is spent (the one alone that wants it has run), nor where it comes behind that one -/
def keepsV (ops : Array Oper) (rem : List (Nat × Option Tmp)) (kill : Nat → List Nat) (i j : Nat) : Bool :=
  decide (i ≠ j) && !(kill j).contains i && (kill j).all (fun k => !reachN ops (rem.map (·.1)) (rem.length + 1) i k) && !reachN ops (rem.map (·.1)) (rem.length + 1) j i
/-- who wants it spends it, or it is not spent -/
def killOk (ops : Array Oper) (rem : List (Nat × Option Tmp)) (kill : Nat → List Nat) : Bool :=
  rem.all fun p => (depsOf ops rem p.1).all fun j => (kill j).all fun k => k == p.1
section
variable {P : Program} {ops : Array Oper} {Q : Exit → Act → World → Prop}
/-- wpAny_core2, with words that are spent -/
theorem wpAny_core3 (rem : List (Nat × Option Tmp)) (kill : Nat → List Nat) (R : World → Prop) (V : Nat → Value → World → Prop) (Stab : Nat → World → World → Prop) {listed0 : Array Bool} (listed1 : Array Bool) (hok : coreOk2 ops listed0 listed1 rem = true) (hkill : killOk ops rem kill = true)
    (stab : ∀ i j v w w', keepsV ops rem kill i j = true → V j v w → Stab i w w' → V j v w')
    {a0 : Act}
    (step : ∀ p ∈ rem, ∀ u w, R w → (∀ j ∈ depsOf ops rem p.1, V j (u j) w) → ∀ K : Act → World → Prop, (∀ v w', V p.1 v w' → R w' → Stab p.1 w w' → K ((putAll a0 rem u).put p.2 v) w') → wpOp P ops Q p.1 K (putAll a0 rem u) w)
    (n : Nat) (done : ∀ u w, R w → (∀ p ∈ rem, kill p.1 = [] → V p.1 (u p.1) w) → wpAny P .any ops Q n listed1 (putAll a0 rem u) w) {w0 : World} (hR : R w0) :
    wpAny P .any ops Q (rem.length + n) listed0 a0 w0 := by
  simp only [coreOk2, Bool.and_eq_true, decide_eq_true_eq] at hok
  obtain ⟨⟨⟨⟨⟨hn, hdn⟩, hsz⟩, hsz1⟩, hall⟩, hcomp⟩ := hok
  have hall := List.all_eq_true.1 hall
  have hcomp := List.all_eq_true.1 hcomp
  have hmem : ∀ i ∈ rem.map (·.1), listed0.getD i true = false ∧ i < ops.size := by
    intro i hi
    obtain ⟨p, hp, rfl⟩ := List.mem_map.1 hi
    have h1 := hall p hp
    have hlt : p.1 < ops.size := by
      rcases Nat.lt_or_ge p.1 ops.size with h | h
      · exact h
      · rw [Array.getElem?_eq_none h] at h1; simp at h1
    have := hcomp p.1 (List.mem_range.2 hlt)
    have hc : (rem.map (·.1)).contains p.1 = true := by simpa using hi
    rw [hc] at this
    simp only [if_true, Bool.and_eq_true, Bool.not_eq_true'] at this
    exact ⟨this.1, hlt⟩
  have hone : ∀ i ∈ rem.map (·.1), listed1.getD i true = true := by
    intro i hi
    have := hcomp i (List.mem_range.2 (hmem i hi).2)
    have hc : (rem.map (·.1)).contains i = true := by simpa using hi
    rw [hc] at this
    simp only [if_true, Bool.and_eq_true] at this
    exact this.2
  have hrest : ∀ i, i < ops.size → i ∉ rem.map (·.1) → listed1.getD i true = listed0.getD i true ∧ ((listed0.getD i true = true ∨ ∀ p ∈ rem, reachN ops (rem.map (·.1)) (rem.length + 1) i p.1 = true) ∨ ∃ o, ops[i]? = some o ∧ ∃ e ∈ o.after.toList, Region.binds .any e = true ∧ e.on < ops.size ∧ listed0.getD e.on true = false ∧ e.on ∉ rem.map (·.1)) := by
    intro i hi hni
    have := hcomp i (List.mem_range.2 hi)
    have hc : (rem.map (·.1)).contains i = false := by
      cases h : (rem.map (·.1)).contains i with
      | false => rfl
      | true => exact absurd (by simpa using h) hni
    rw [hc] at this
    simp only [Bool.false_eq_true, if_false, Bool.and_eq_true, beq_iff_eq, Bool.or_eq_true] at this
    refine ⟨this.1, ?_⟩
    rcases this.2 with (h | h) | h
    · exact .inl (.inl h)
    · exact .inl (.inr fun p hp => List.all_eq_true.1 h p hp)
    · right
      rw [Array.getElem?_eq_getElem hi] at h
      refine ⟨ops[i], Array.getElem?_eq_getElem hi, ?_⟩
      simp only [Array.any_toList.symm, List.any_eq_true, Bool.and_eq_true, decide_eq_true_eq, Bool.not_eq_true'] at h
      obtain ⟨e, he, ⟨⟨h1, h2⟩, h3⟩, h4⟩ := h
      exact ⟨e, he, h1, h2, h3, by simpa using h4⟩
  -- the invariant
  suffices H : ∀ k (listed : Array Bool) (u : Nat → Value) (w : World), listed.size = ops.size → R w → (∀ i, i < ops.size → i ∉ rem.map (·.1) → listed.getD i true = listed0.getD i true) →
      (∀ p ∈ rem, listed.getD p.1 true = true → (∀ k ∈ kill p.1, listed.getD k true = false) → V p.1 (u p.1) w) → (∀ p ∈ rem.map (·.1), listed.getD p true = true → ∀ o, ops[p]? = some o → ∀ e ∈ o.after.toList, Region.binds .any e = true → listed.getD e.on true = true) → openOf listed rem = k → wpAny P .any ops Q (k + n) listed (putAll a0 rem u) w by
    obtain ⟨u, hu⟩ := putAll_self a0 rem hn
    have hopen : openOf listed0 rem = rem.length := by
      unfold openOf
      rw [List.filter_eq_self.2]
      intro p hp
      simp [(hmem p.1 (List.mem_map.2 ⟨p, hp, rfl⟩)).1]
    have h := H rem.length listed0 u w0 hsz hR (fun i hi hni => rfl) (fun p hp hl _ => by
      have := (hmem p.1 (List.mem_map.2 ⟨p, hp, rfl⟩)).1
      rw [this] at hl
      cases hl) (fun p hp hl => by
      rw [(hmem p hp).1] at hl
      cases hl) hopen
    rwa [hu] at h
  intro k
  induction k with
  | zero =>
    intro listed u w hs hRw hout hV hcl hopen
    have hall' : ∀ p ∈ rem, listed.getD p.1 true = true := by
      intro p hp
      simp only [openOf, List.length_eq_zero_iff, List.filter_eq_nil_iff, Bool.not_eq_true', Bool.not_eq_false] at hopen
      exact hopen p hp
    have hl : listed = listed1 := by
      apply Array.ext
      · rw [hs, hsz1]
      · intro i h1 h2
        have : listed.getD i true = listed1.getD i true := by
          by_cases hr : i ∈ rem.map (·.1)
          · rw [hone i hr]
            obtain ⟨p, hp, rfl⟩ := List.mem_map.1 hr
            exact hall' p hp
          · rw [hout i (by omega) hr, (hrest i (by omega) hr).1]
        simpa [Array.getD, h1, h2] using this
    rw [hl, Nat.zero_add]
    exact done u w hRw (fun p hp hk => hV p hp (hall' p hp) (fun k h => by rw [hk] at h; cases h))
  | succ k ih =>
    intro listed u w hs hRw hout hV hcl hopen
    rw [Nat.add_right_comm]
    -- one of the list is not yet listed: none of the others is ready
    have hsome : ∃ p ∈ rem, listed.getD p.1 true = false := by
      have : (rem.filter fun p => !listed.getD p.1 true) ≠ [] := by
        intro h
        simp only [openOf, h, List.length_nil] at hopen
        omega
      obtain ⟨p, hp⟩ := List.exists_mem_of_ne_nil _ this
      obtain ⟨h1, h2⟩ := List.mem_filter.1 hp
      exact ⟨p, h1, by simpa using h2⟩
    have hno : ∀ i, i ∈ Region.ready .any ops listed → i ∈ rem.map (·.1) := by
      intro i hi
      obtain ⟨hi1, hi2⟩ := List.mem_filter.1 hi
      have hilt := List.mem_range.1 hi1
      simp only [Bool.and_eq_true] at hi2
      have hil : listed.getD i true = false := by simpa using hi2.1
      by_cases hr : i ∈ rem.map (·.1)
      · exact hr
      · exfalso
        obtain ⟨h1, h2⟩ := hrest i hilt hr
        rw [hout i hilt hr] at hil
        rcases h2 with (h2 | h2) | h2
        · rw [h2] at hil; cases hil
        rotate_left
        · obtain ⟨o, ho, e, he, hb, hsz2, hl0, hnr⟩ := h2
          have h3 := hi2.2
          rw [ho] at h3
          simp only [Option.map_some, Option.getD_some, Array.all_eq_true_iff_forall_mem] at h3
          have := h3 e (by simpa using he)
          rw [hb] at this
          simp only [Bool.not_true, Bool.false_or] at this
          have hlt : e.on < listed.size := by rw [hs]; exact hsz2
          have e1 : listed.getD e.on false = listed.getD e.on true := by simp only [Array.getD, hlt, dif_pos]
          rw [e1, hout e.on hsz2 hnr, hl0] at this
          cases this
        · obtain ⟨p, hp, hpl⟩ := hsome
          have := reach_listed hcl _ i (ready_deps hi2.2) p.1 (h2 p hp)
          rw [hpl] at this
          cases this
    constructor
    · intro hnil
      -- the least one that is not listed is ready
      exfalso
      have key : ∀ i, i < ops.size → i ∈ rem.map (·.1) → listed.getD i true = true := by
        intro i
        induction i using Nat.strongRecOn with
        | _ i ihi =>
          intro hi hr
          obtain ⟨p, hp, rfl⟩ := List.mem_map.1 hr
          have h1 := hall p hp
          cases hl : listed.getD p.1 true with
          | true => rfl
          | false =>
            exfalso
            have hready : p.1 ∈ Region.ready .any ops listed := by
              refine List.mem_filter.2 ⟨List.mem_range.2 hi, ?_⟩
              rw [Array.getElem?_eq_getElem hi] at h1 ⊢
              simp only [Bool.and_eq_true, beq_iff_eq] at h1
              simp only [hl, Bool.not_false, Option.map_some, Option.getD_some, Bool.true_and]
              rw [Array.all_eq_true_iff_forall_mem] at h1 ⊢
              intro e he
              have := h1.2 e he
              cases hb : Region.binds .any e with
              | false => rfl
              | true =>
                rw [hb] at this
                simp only [Bool.not_true, Bool.false_or, Bool.and_eq_true, decide_eq_true_eq, Bool.or_eq_true] at this
                have hlt : e.on < listed.size := by rw [hs]; omega
                have hh : listed.getD e.on true = true := by
                  rcases this.2 with h | h
                  · exact ihi e.on this.1 (by omega) (by simpa using h)
                  · by_cases hr' : e.on ∈ rem.map (·.1)
                    · exact ihi e.on this.1 (by omega) hr'
                    · rw [hout e.on (by omega) hr']; exact h
                simp only [Array.getD, hlt, dif_pos] at hh ⊢
                simpa using hh
            rw [hnil] at hready
            cases hready
      obtain ⟨p, hp, hpl⟩ := hsome
      have := key p.1 (hmem p.1 (List.mem_map.2 ⟨p, hp, rfl⟩)).2 (List.mem_map.2 ⟨p, hp, rfl⟩)
      rw [this] at hpl
      cases hpl
    · intro i hi
      have hir := hno i hi
      obtain ⟨hi1, hi2⟩ := List.mem_filter.1 hi
      have hilt := List.mem_range.1 hi1
      simp only [Bool.and_eq_true] at hi2
      have hil : listed.getD i true = false := by simpa using hi2.1
      obtain ⟨p, hp, rfl⟩ := List.mem_map.1 hir
      refine step p hp u w hRw ?_ _ ?_
      · intro j hj
        rw [depsOf, Array.getElem?_eq_getElem hilt] at hj
        obtain ⟨e, he, rfl⟩ := List.mem_map.1 hj
        obtain ⟨he1, he2⟩ := List.mem_filter.1 he
        simp only [Bool.and_eq_true] at he2
        have hjr : e.on ∈ rem.map (·.1) := by simpa using he2.2
        obtain ⟨q, hq, hqe⟩ := List.mem_map.1 hjr
        have hjd : e.on ∈ depsOf ops rem p.1 := by
          rw [depsOf, Array.getElem?_eq_getElem hilt]
          exact List.mem_map.2 ⟨e, he, rfl⟩
        have hkj : ∀ k ∈ kill q.1, listed.getD k true = false := by
          intro k hk
          rw [hqe] at hk
          have h9 := List.all_eq_true.1 (List.all_eq_true.1 (List.all_eq_true.1 hkill p hp) e.on hjd) k hk
          obtain rfl : k = p.1 := by simpa using h9
          exact hil
        rw [← hqe]
        refine hV q hq ?_ hkj
        have h3 := hi2.2
        rw [Array.getElem?_eq_getElem hilt] at h3
        simp only [Option.map_some, Option.getD_some, Array.all_eq_true_iff_forall_mem] at h3
        have := h3 e (by simpa using he1)
        rw [he2.1] at this
        simp only [Bool.not_true, Bool.false_or] at this
        rw [hqe]
        have hlt : e.on < listed.size := by rw [hs, ← hqe]; exact (hmem q.1 (List.mem_map.2 ⟨q, hq, rfl⟩)).2
        simp only [Array.getD, hlt, dif_pos] at this ⊢
        simpa using this
      · intro v w' hv hR' hst
        have hpp : (p.1, p.2) ∈ rem := hp
        rw [putAll_upd a0 p.1 p.2 u v rem hn hdn hpp]
        have hset : ∀ j, (listed.setIfInBounds p.1 true).getD j true = if j = p.1 then true else listed.getD j true := by
          intro j
          simp only [Array.getD_eq_getD_getElem?, Array.getElem?_setIfInBounds]
          by_cases hj : p.1 = j
          · subst hj
            simp
            split <;> simp
          · rw [if_neg hj, if_neg (Ne.symm hj)]
        refine ih _ _ _ (by simpa using hs) hR' ?_ ?_ ?_ ?_
        · intro j hj hjr
          have hjp : ¬ j = p.1 := fun e => hjr (by rw [e]; exact List.mem_map.2 ⟨p, hp, rfl⟩)
          rw [hset, if_neg hjp]
          exact hout j hj hjr
        · intro q hq hql hkq
          rw [hset] at hql
          by_cases he : q.1 = p.1
          · rw [he]
            simpa [upd] using hv
          · rw [if_neg he] at hql
            simp only [upd, if_neg he]
            have hk1 : ∀ k ∈ kill q.1, k ≠ p.1 ∧ listed.getD k true = false := by
              intro k hk
              have h9 := hkq k hk
              rw [hset] at h9
              by_cases hkp : k = p.1
              · rw [if_pos hkp] at h9; cases h9
              · rw [if_neg hkp] at h9; exact ⟨hkp, h9⟩
            refine stab p.1 q.1 _ _ _ ?_ (hV q hq hql fun k hk => (hk1 k hk).2) hst
            unfold keepsV
            simp only [Bool.and_eq_true, decide_eq_true_eq, Bool.not_eq_true']
            refine ⟨⟨⟨Ne.symm he, ?_⟩, List.all_eq_true.2 fun k hk => ?_⟩, ?_⟩
            · cases hc : (kill q.1).contains p.1 with
              | false => rfl
              | true => exact absurd rfl (hk1 p.1 (by simpa using hc)).1
            · cases hc : reachN ops (rem.map (·.1)) (rem.length + 1) p.1 k with
              | false => rfl
              | true =>
                have h5 := reach_listed hcl _ p.1 (ready_deps hi2.2) k hc
                rw [(hk1 k hk).2] at h5
                cases h5
            · cases hc : reachN ops (rem.map (·.1)) (rem.length + 1) q.1 p.1 with
              | false => rfl
              | true =>
                have h5 := reach_listed hcl _ q.1 (hcl q.1 (List.mem_map.2 ⟨q, hq, rfl⟩) hql) p.1 hc
                rw [hil] at h5
                cases h5
        · intro q hq hql o ho e he hb
          rw [hset]
          split
          · rfl
          · rw [hset] at hql
            by_cases hqp : q = p.1
            · subst hqp
              exact ready_deps hi2.2 o ho e he hb
            · rw [if_neg hqp] at hql
              exact hcl q hq hql o ho e he hb
        · have hlt : openOf (listed.setIfInBounds p.1 true) rem + 1 = openOf listed rem := by
            unfold openOf
            have h1 : ∀ (qs : List (Nat × Option Tmp)), (qs.map (·.1)).Nodup → p ∈ qs → (qs.filter fun q => !(listed.setIfInBounds p.1 true).getD q.1 true).length + 1 = (qs.filter fun q => !listed.getD q.1 true).length := by
              intro qs hqn hpq
              have heq : ∀ (rs : List (Nat × Option Tmp)), p.1 ∉ rs.map (·.1) → (rs.filter fun q => !(listed.setIfInBounds p.1 true).getD q.1 true) = (rs.filter fun q => !listed.getD q.1 true) := by
                intro rs hrs
                refine List.filter_congr fun q hq => ?_
                have hne : q.1 ≠ p.1 := fun e => hrs (e ▸ List.mem_map.2 ⟨q, hq, rfl⟩)
                rw [hset, if_neg hne]
              induction qs with
              | nil => cases hpq
              | cons r rs ihr =>
                rcases List.mem_cons.1 hpq with rfl | hpq'
                · have := heq rs (List.nodup_cons.1 hqn).1
                  rw [List.filter_cons, List.filter_cons, this, hset, if_pos rfl, hil]
                  simp
                · have ih2 := ihr (List.nodup_cons.1 hqn).2 hpq'
                  have hne : r.1 ≠ p.1 := by
                    intro e
                    exact (List.nodup_cons.1 hqn).1 (List.mem_map.2 ⟨p, hpq', e.symm⟩)
                  rw [List.filter_cons, List.filter_cons, hset, if_neg hne]
                  split <;> (try simp only [List.length_cons]) <;> omega
            exact h1 rem hn hp
          omega
end
theorem VF.stab1 {f : Nat → Option Value} {g : Nat → Value → World → Prop} {j : Nat} {v : Value} {w w' : World} (h : f j = none → g j v w → g j v w') (hv : VF f g j v w) : VF f g j v w' := by
  unfold VF at hv ⊢
  cases hf : f j with
  | none => rw [hf] at hv; exact h hf hv
  | some c => rw [hf] at hv; exact hv
end Go.Proofs.YtleckhbmciiooaaDoor
namespace Go.Proofs.YtleckhbmciiooaaDoor
open Go.RowKit Go.ChangeShapes Go.WideShapes Go.ChangeAt Go.Deep

set_option maxRecDepth 100000 in
set_option maxHeartbeats 2000000 in
theorem small2_any (i : InstP) (us : List Value) (w : World) (H : RInst w us i) (hc : checkP i = 0) (hk : i.kind = 2) :
    Calls Tryd.prog 35 #[.agg (List.toArray us)] w fun e w' => e = .returned (.bool (decide (i.n ≤ 6))) ∧ Ext w w' := by
  have CH := fun (W : World) (x : Ext w W) => rcheck_any i us W (H.ext x)
  rw [hc] at CH
  obtain ⟨kind, nn, cap, xw, xv, co⟩ := i
  obtain ⟨A, a, B, b, D, d, rfl, -, -, -⟩ := H
  simp only at *
  subst hk
  replace CH := Lib.hid CH
  clear hc
  have B1 : Hid (Blk (w.alloc (.cells #[.int .i64 2, .int .i64 nn, .int .i64 cap, .slice A xw.length a, .slice B xv.length b, .slice D co.length d] 25)) w.heap.size 25 #[.int .i64 2, .int .i64 nn, .int .i64 cap, .slice A xw.length a, .slice B xv.length b, .slice D co.length d]) := .new rfl
  obtain ⟨bb, hbb⟩ : ∃ bb, Hid (decide (nn ≤ 6) = bb) := ⟨_, rfl⟩
  rw [hbb.out]
  have hb2 : decide (nn ≤ 6) = bb := hbb.out
  go_enter Tryd.func35, Tryd.ntmps35
  go_wp2_with (fail)
  refine (CH.out _ (by (repeat (first | assumption | exact Ext.rf _ | apply Ext.drew | apply Ext.drewN | apply Ext.alloc)))).mono ?_
  rintro e w1 ⟨rfl, x1⟩
  have X1 := Lib.hid (Ext.tr (a := w) (by (repeat (first | assumption | exact Ext.rf _ | apply Ext.drew | apply Ext.drewN | apply Ext.alloc))) x1)
  have b0 : w1.cell? ⟨w.heap.size, 0, none⟩ = some (.int .i64 2) := (B1.out.ext x1).cell 0
  have b1 : w1.cell? ⟨w.heap.size, 1, none⟩ = some (.int .i64 nn) := (B1.out.ext x1).cell 1
  clear x1 B1
  go_wp2_with (fail)
  go_ret
  exact ⟨by first | rfl | simp [hbb.out], X1.out⟩
theorem count_one {k : Nat} : ∀ {l : List Nat}, l.Nodup → k ∈ l → l.count k = 1
  | [], _, h => by cases h
  | x :: l, hd, h => by
    have hd' := List.nodup_cons.1 hd
    by_cases e : x = k
    · subst e
      rw [List.count_cons_self, List.count_eq_zero.2 hd'.1]
    · rw [List.count_cons_of_ne e]
      rcases List.mem_cons.1 h with h | h
      · exact absurd h.symm e
      · exact count_one hd'.2 h
set_option maxRecDepth 100000 in
set_option maxHeartbeats 2000000 in
theorem perm_yes (P : Option Addr) (c n : Nat) (l : List Nat) (w : World) (hP : RdI w P (intsN l)) (hl : l.Perm (List.range n)) (hn : n ≤ 1000) :
    Calls Tryd.prog 71 #[.slice P n c, .int .i64 n] w fun e w' => e = .returned (.bool true) ∧ Ext w w' := by
  have hlen : Hid (l.length = n) := by
    have h : l.length = n := by rw [hl.length_eq, List.length_range]
    exact h
  have C1 : Hid (∀ k, k < n → l.count k = 1) := fun k hk => by
    rw [hl.count_eq]
    exact count_one List.nodup_range (List.mem_range.2 hk)
  have ne0 : ((n : Int) != (n : Int)) = false := by simp
  replace hP := Lib.hid hP
  clear hl
  go_enter Tryd.func71, Tryd.ntmps71
  go_wp2_with (fail)
  go_loopw [5] (fun v wr => ∃ k : Nat, v = .int .i64 k ∧ k ≤ n ∧ Hid (Ext w wr)) (fun v _ => n - (intOf v).toNat)
  case atStart => exact ⟨0, rfl, by omega, Ext.rf _⟩
  case round =>
    obtain ⟨wo, rfl⟩ : ∃ wo : World, wo = wr := ⟨_, rfl⟩
    obtain ⟨k, rfl, hk, Y⟩ := hrel
    by_cases hkn : k < n
    · have q1 : (k : Int) < (n : Int) := by omega
      have c1 := C1.out k hkn
      replace c1 := Lib.hid c1
      go_wp2_with (fail)
      go_loopw [7, 6] (fun v fv wr => ∃ j : Nat, v = .int .i64 j ∧ fv = .int .i64 ((l.take j).count k : Nat) ∧ j ≤ n ∧ Hid (Ext w wr)) (fun v _ _ => n - (intOf v).toNat)
      case atStart => exact ⟨0, rfl, by rw [List.take_zero, List.count_nil]; rfl, by omega, Y⟩
      case round =>
        obtain ⟨wi, rfl⟩ : ∃ wi : World, wi = wr := ⟨_, rfl⟩
        obtain ⟨j, rfl, rfl, hj, YI⟩ := hrel
        have hcl := List.count_le_length (a := k) (l := l.take j)
        rw [List.length_take] at hcl
        by_cases hjn : j < n
        · have q2 : (j : Int) < (n : Int) := by omega
          have ej : l[j]? = some (l[j]'(by rw [hlen.out]; exact hjn)) := List.getElem?_eq_getElem _
          generalize l[j]'(by rw [hlen.out]; exact hjn) = y at ej
          obtain ⟨pb, po, x, rfl, _, cx, ex, _⟩ := (hP.out.ext YI.out).at (k := j) (by rw [intsN_len, hlen.out]; exact hjn)
          obtain rfl : x = (y : Int) := by
            have h := ex.out
            rw [intsN_get ej] at h
            exact (Option.some.inj h).symm
          have HC : Hid ((l.take (j + 1)).count k = (l.take j).count k + if y = k then 1 else 0) := by
            have h : (l.take (j + 1)).count k = (l.take j).count k + if y = k then 1 else 0 := by
              rw [List.take_add_one, ej, List.count_append]
              simp [List.count_cons]
            exact h
          clear ex ej
          generalize (l.take j).count k = cn at *
          by_cases hyk : y = k
          · subst hyk
            rw [if_pos rfl] at HC
            go_wp2_with (fail)
            go_roundw
            case rel => exact ⟨j + 1, by go_num, by rw [HC.out]; go_num, by omega, YI⟩
            case measure => simp [intOf]; omega
          · have HC2 : Hid ((l.take (j + 1)).count k = cn) := by
              have h := HC.out
              rw [if_neg hyk] at h
              exact h
            clear HC
            have t1 : (y == k) = false := by rw [beq_eq_false_iff_ne]; exact hyk
            have t2 : ((y : Int) == (k : Int)) = false := by rw [beq_eq_false_iff_ne]; omega
            go_wp2_with (fail)
            go_roundw
            case rel => exact ⟨j + 1, by go_num, by rw [HC2.out], by omega, YI⟩
            case measure => simp [intOf]; omega
        · have q2 : ¬ (j : Int) < (n : Int) := by omega
          have e1 : (l.take j).count k = 1 := by
            rw [List.take_of_length_le (by rw [hlen.out]; omega)]
            exact c1.out
          rw [e1]
          clear e1 hcl
          go_wp2_with (fail)
          go_roundw
          case rel => exact ⟨k + 1, by go_num, by omega, YI⟩
          case measure => simp [intOf]; omega
    · have q1 : ¬ (k : Int) < (n : Int) := by omega
      go_wp2_with (fail)
      go_ret
      exact ⟨rfl, Y.out⟩
set_option maxRecDepth 100000 in
set_option maxHeartbeats 4000000 in
theorem cost2_any (i : InstP) (us : List Value) (P : Option Addr) (c : Nat) (l : List Nat) (w : World) (H : RInst w us i) (hc : checkP i = 0) (hk : i.kind = 2) (hP : RdI w P (intsN l)) (hl : l.Perm (List.range i.cost.length)) :
    Calls Tryd.prog 34 #[.agg (List.toArray us), .slice P i.cost.length c] w fun e w' => e = .returned (.tuple #[.int .i64 (costF i.cost (intsN l)), .int .i64 0]) ∧ Ext w w' := by
  have CH := fun (W : World) (x : Ext w W) => rcheck_any i us W (H.ext x)
  rw [hc] at CH
  have sq := square_ok hc (by omega)
  have rok := rows_ok sq
  have hnn : i.n = (i.cost.length : Int) := sq.len.symm
  have PE := fun (W : World) (x : Ext w W) => perm_yes P c i.cost.length l W (hP.ext x) hl (by have := rok.n2; omega)
  have hlt : Hid (∀ x ∈ l, x < i.cost.length) := fun x hx => List.mem_range.1 (hl.mem_iff.1 hx)
  have hlen : Hid (l.length = i.cost.length) := by
    have h : l.length = i.cost.length := by rw [hl.length_eq, List.length_range]
    exact h
  have n24 := rok.n2
  clear hl hc sq
  obtain ⟨kind, nn, cap, xw, xv, co⟩ := i
  obtain ⟨A, a, B, b, D, d, rfl, -, -, ⟨hC, -, -⟩⟩ := H
  simp only at *
  subst hk hnn
  replace CH := Lib.hid CH
  replace PE := Lib.hid PE
  replace hP := Lib.hid hP
  replace hC := Lib.hid hC
  replace rok := Lib.hid rok
  have B1 : Hid (Blk (w.alloc (.cells #[.int .i64 2, .int .i64 co.length, .int .i64 cap, .slice A xw.length a, .slice B xv.length b, .slice D co.length d] 25)) w.heap.size 25 #[.int .i64 2, .int .i64 co.length, .int .i64 cap, .slice A xw.length a, .slice B xv.length b, .slice D co.length d]) := .new rfl
  go_enter Tryd.func34, Tryd.ntmps34
  go_wp2_with (fail)
  refine (CH.out _ (by (repeat (first | assumption | exact Ext.rf _ | apply Ext.drew | apply Ext.drewN | apply Ext.alloc)))).mono ?_
  rintro e w1 ⟨rfl, x1⟩
  have X1 := Lib.hid (Ext.tr (a := w) (by (repeat (first | assumption | exact Ext.rf _ | apply Ext.drew | apply Ext.drewN | apply Ext.alloc))) x1)
  have BB := Lib.hid (B1.out.ext x1)
  have d0 : w1.cell? ⟨w.heap.size, 0, none⟩ = some (.int .i64 2) := BB.out.cell 0
  have d1 : w1.cell? ⟨w.heap.size, 1, none⟩ = some (.int .i64 co.length) := BB.out.cell 1
  clear x1
  go_wp2_with (fail)
  refine (PE.out _ X1.out).mono ?_
  rintro e w2 ⟨rfl, x2⟩
  have X2 := Lib.hid (X1.out.tr x2)
  have BC := Lib.hid (BB.out.ext x2)
  have e0 : w2.cell? ⟨w.heap.size, 0, none⟩ = some (.int .i64 2) := BC.out.cell 0
  clear x2 d0 d1 BB
  go_wp2_with (fail)
  go_loopw [8, 7] (fun v s wr => ∃ (k : Nat) (su : Int), v = .int .i64 k ∧ s = .int .i64 su ∧ k ≤ co.length ∧ Hid (costF co ((intsN l).take k) = su) ∧ Hid (Ext w2 wr)) (fun v _ _ => co.length - (intOf v).toNat)
  case atStart => exact ⟨0, 0, rfl, rfl, by omega, (by cases co <;> rfl : costF co ((intsN l).take 0) = 0), Ext.rf _⟩
  case round =>
    obtain ⟨wo, rfl⟩ : ∃ wo : World, wo = wr := ⟨_, rfl⟩
    obtain ⟨k, su, rfl, rfl, hk, HS, Y⟩ := hrel
    have bdS : Hid (0 ≤ su ∧ su ≤ 2147483647 * 24) := by
      have h1 := costF_bd (B := 2147483647) (rows := co) (p := (intsN l).take k) (by omega) fun row hr c hc => by
        obtain ⟨q, hq, rfl⟩ := List.mem_map.1 (List.mem_of_mem_take hc)
        have := hlt.out q hq
        exact rok.out.get hr (by omega)
      have h2 : ((intsN l).take k).length ≤ 24 := by rw [List.length_take]; omega
      have h : 0 ≤ su ∧ su ≤ 2147483647 * 24 := by
        rw [← HS.out]
        omega
      exact h
    have d0 : wo.cell? ⟨w.heap.size, 0, none⟩ = some (.int .i64 2) := (BC.out.ext Y.out).cell 0
    have d1 : wo.cell? ⟨w.heap.size, 1, none⟩ = some (.int .i64 co.length) := (BC.out.ext Y.out).cell 1
    have d5 : wo.cell? ⟨w.heap.size, 5, none⟩ = some (.slice D co.length d) := (BC.out.ext Y.out).cell 5
    have XW := Lib.hid (X2.out.tr Y.out)
    clear e0
    by_cases hkl : k < co.length
    · obtain ⟨cb, cof, D', row, d', rfl, _, cD, er, _, rD, iD, ld, md⟩ := (hC.out.ext XW.out fun _ _ h => h.ext XW.out).ints hkl
      have hmem := List.mem_of_getElem? er.out
      obtain ⟨pb, po, x, rfl, zp, cp, ep, _⟩ := (hP.out.ext XW.out).at (k := k) (by rw [intsN_len, hlen.out]; exact hkl)
      obtain ⟨q, hq, rfl⟩ := List.mem_map.1 (List.mem_of_getElem? ep.out)
      have hqn := hlt.out q hq
      have lrow := rok.out.row row hmem
      obtain ⟨rb, ro, y, rfl, zy, cy, ey, _⟩ := rD.at (k := q) (by omega)
      have yb := rok.out.get hmem (c := q) (by omega)
      rw [getD_some ey.out] at yb
      have b1 := bdS.out
      have hw : IntKind.i64.wrap (su + y) = su + y := IntWalk.i64_in _ (by omega)
      have HS2 : Hid (costF co ((intsN l).take (k + 1)) = su + y) := by
        have h : costF co ((intsN l).take (k + 1)) = su + y := by
          rw [costF_snoc er.out ep.out, HS.out, Int.toNat_natCast, getD_some ey.out]
        exact h
      have q1 : (k : Int) < (co.length : Int) := by omega
      have q3 : (q : Int) < (row.length : Int) := by omega
      clear er ep ey lrow b1 yb HS hq rD hmem
      go_wp2_with (fail)
      go_quiet (fail)
      go_wp2_with (fail)
      go_roundw
      case rel => exact ⟨k + 1, su + y, by go_num, rfl, by omega, HS2, Y.out.drewN _⟩
      case measure => simp [intOf]; omega
    · have q1 : ¬ (k : Int) < (co.length : Int) := by omega
      have HS2 : Hid (costF co (intsN l) = su) := by
        have h := HS.out
        rw [List.take_of_length_le (by rw [intsN_len, hlen.out]; omega)] at h
        exact h
      go_wp2_with (fail)
      go_ret2
      rw [HS2.out]
      exact ⟨rfl, XW.out⟩
set_option maxRecDepth 100000 in
theorem ibs0_run (u : World) : (Instr.buildSlice 22 0 #[]).run Tryd.prog u = .ok (.slice (some ⟨u.heap.size, 0, none⟩) 0 0) (u.alloc (.cells #[] 3)) := by go_simp
set_option maxRecDepth 100000 in
theorem ibs1_run (u : World) (x : Int) : (Instr.buildSlice 22 1 #[(0, .int .i64 x)]).run Tryd.prog u = .ok (.slice (some ⟨u.heap.size, 0, none⟩) 1 1) (u.alloc (.cells #[.int .i64 x] 3)) := by go_simp
/-- the columns that are left from k on -/
def restF (m n k : Nat) : List Nat := ((List.range n).drop k).filter fun c => m.testBit c
theorem restF_step {m n k : Nat} (h : k < n) : restF m n k = if m.testBit k = true then k :: restF m n (k + 1) else restF m n (k + 1) := by
  unfold restF
  have h' : k < (List.range n).length := by rw [List.length_range]; exact h
  rw [List.drop_eq_getElem_cons h', List.getElem_range, List.filter_cons]
set_option maxRecDepth 100000 in
set_option maxHeartbeats 8000000 in
theorem best2_more (i : InstP) (us : List Value) (P : Option Addr) (c : Nat) (l : List Nat) (w : World) (H : RInst w us i) (hk2 : i.kind = 2) (hP : RdI w P (intsN l)) (n m : Nat) (hn : i.n = n) (hn24 : n ≤ 24) (hlen : l.length < n) (bs : Int) (f : Int → Int)
    (hused : ∀ k, k < n → (m.testBit k = true ↔ k ∉ l)) (e5 : leastF f (-1) (intsN (restF m n 0)) = bs) (fpos : ∀ k, k < n → m.testBit k = true → 0 ≤ f (k : Int))
    (IH3 : ∀ (k : Nat) (A : Option Addr) (d : Nat) (q : List Int), k < n → m.testBit k = true → q = intsN l ++ [(k : Int)] → ∀ W : World, Ext w W → RdI W A q → Calls Tryd.prog 36 #[.agg (List.toArray us), .slice A q.length d] W fun e w' => e = .returned (.int .i64 (f k)) ∧ Ext W w') :
    Calls Tryd.prog 36 #[.agg (List.toArray us), .slice P l.length c] w fun e w' => e = .returned (.int .i64 bs) ∧ Ext w w' := by
  obtain ⟨kind, nn, cap, xw, xv, co⟩ := i
  obtain ⟨A, a, B, b, D, d, rfl, -, -, -⟩ := H
  simp only at *
  subst hk2 hn
  replace IH3 := Lib.hid IH3
  replace e5 := Lib.hid e5
  replace hP := Lib.hid hP
  replace hused := Lib.hid hused
  replace fpos := Lib.hid fpos
  have hne : ((l.length : Int) == (n : Int)) = false := by rw [beq_eq_false_iff_ne]; omega
  have B1 : Hid (Blk (w.alloc (.cells #[.int .i64 2, .int .i64 n, .int .i64 cap, .slice A xw.length a, .slice B xv.length b, .slice D co.length d] 25)) w.heap.size 25 #[.int .i64 2, .int .i64 n, .int .i64 cap, .slice A xw.length a, .slice B xv.length b, .slice D co.length d]) := .new rfl
  have X0 : Hid (Ext w (w.alloc (.cells #[.int .i64 2, .int .i64 n, .int .i64 cap, .slice A xw.length a, .slice B xv.length b, .slice D co.length d] 25))) := (Ext.rf _).alloc _
  obtain ⟨w1, hw1⟩ : ∃ w1, w1 = (w.alloc (.cells #[.int .i64 2, .int .i64 n, .int .i64 cap, .slice A xw.length a, .slice B xv.length b, .slice D co.length d] 25)) := ⟨_, rfl⟩
  have B2 : Hid (Blk w1 w.heap.size 25 #[.int .i64 2, .int .i64 n, .int .i64 cap, .slice A xw.length a, .slice B xv.length b, .slice D co.length d]) := by rw [hw1]; exact B1.out
  have X1 : Hid (Ext w w1) := by rw [hw1]; exact X0.out
  replace hw1 := Lib.hid hw1
  clear B1
  go_enter Tryd.func36, Tryd.ntmps36
  go_wp2_with (fail)
  rw [← hw1.out]
  clear X0
  go_loopw [9, 7] (fun v bv wr => ∃ (k : Nat) (bb : Int), v = .int .i64 k ∧ bv = .int .i64 bb ∧ k ≤ n ∧ Hid (leastF f bb (intsN (restF m n k)) = bs) ∧ Hid (Ext w1 wr)) (fun v _ _ => n - (intOf v).toNat)
  case atStart => exact ⟨0, -1, rfl, rfl, by omega, e5, Ext.rf _⟩
  case round =>
    obtain ⟨wo, rfl⟩ : ∃ wo : World, wo = wr := ⟨_, rfl⟩
    obtain ⟨k, bb, rfl, rfl, hk, HS, Y⟩ := hrel
    by_cases hlt : k < n
    · have HN : Hid (leastF f bb (intsN (if m.testBit k = true then k :: restF m n (k + 1) else restF m n (k + 1))) = bs) := by
        have h := HS.out
        rw [restF_step hlt] at h
        exact h
      have q1 : (k : Int) < (n : Int) := by omega
      have B3 := B2.out.ext Y.out
      have zb3 := B3.lt
      have c0 : wo.cell? ⟨w.heap.size, 0, none⟩ = some (.int .i64 2) := B3.cell 0
      have HU := hused.out k hlt
      replace HU := Lib.hid HU
      replace B3 := Lib.hid B3
      clear HS
      go_wp2_with (fail)
      go_loopw [11, 10] (fun v uv wr => ∃ j : Nat, v = .int .i64 j ∧ uv = .bool ((l.take j).contains k) ∧ j ≤ l.length ∧ wr = wo) (fun v _ _ => l.length - (intOf v).toNat)
      case atStart => exact ⟨0, rfl, rfl, by omega, rfl⟩
      case round =>
        obtain ⟨j, rfl, rfl, hj, hwr⟩ := hrel
        have hwr' : wo = wr := (show wr = wo from hwr).symm
        clear hwr
        subst hwr'
        by_cases hjl : j < l.length
        · have q2 : (j : Int) < (l.length : Int) := by omega
          have ej : l[j]? = some l[j] := List.getElem?_eq_getElem hjl
          generalize l[j] = y at ej
          obtain ⟨pb, po, x, rfl, _, cx, ex, _⟩ := (hP.out.ext (X1.out.tr Y.out)).at (k := j) (by rw [intsN_len]; exact hjl)
          obtain rfl : x = (y : Int) := by
            have h := ex.out
            rw [intsN_get ej] at h
            exact (Option.some.inj h).symm
          have HC : Hid ((l.take (j + 1)).contains k = ((l.take j).contains k || (y == k))) := by
            have h : (l.take (j + 1)).contains k = ((l.take j).contains k || (y == k)) := by
              rw [List.take_add_one, ej, Bool.eq_iff_iff, Bool.or_eq_true, List.contains_iff_mem, List.contains_iff_mem, beq_iff_eq]
              show k ∈ l.take j ++ [y] ↔ _
              rw [List.mem_append, List.mem_singleton]
              exact ⟨fun h => h.imp id Eq.symm, fun h => h.imp id Eq.symm⟩
            exact h
          clear ex ej
          cases hb : (l.take j).contains k with
          | true =>
            have HC2 : Hid ((l.take (j + 1)).contains k = true) := by
              have h := HC.out
              rw [hb, Bool.true_or] at h
              exact h
            clear HC hb
            go_wp2_with (fail)
            go_roundw
            case rel => exact ⟨j + 1, by go_num, by rw [HC2.out], by omega, by first | exact rfl | exact trivial⟩
            case measure => simp [intOf]; omega
          | false =>
            obtain ⟨yk, hyk⟩ : ∃ yk, Hid ((y == k) = yk) := ⟨_, rfl⟩
            have HC2 : Hid ((l.take (j + 1)).contains k = yk) := by
              have h := HC.out
              rw [hb, Bool.false_or, hyk.out] at h
              exact h
            have t1 : (y == k) = yk := hyk.out
            have t2 : ((y : Int) == (k : Int)) = yk := by
              rw [← hyk.out, Bool.eq_iff_iff, beq_iff_eq, beq_iff_eq]
              omega
            clear HC hb
            go_wp2_with (fail)
            go_roundw
            case rel => exact ⟨j + 1, by go_num, by rw [HC2.out], by omega, by first | exact rfl | exact trivial⟩
            case measure => simp [intOf]; omega
        · have q2 : ¬ (j : Int) < (l.length : Int) := by omega
          rw [List.take_of_length_le (by omega)]
          cases hb : m.testBit k with
          | false =>
            have hu : l.contains k = true := by
              rw [List.contains_iff_mem]
              cases hd : decide (k ∈ l) with
              | true => exact of_decide_eq_true hd
              | false =>
                have := HU.out.2 (of_decide_eq_false hd)
                rw [hb] at this
                cases this
            have HN2 : Hid (leastF f bb (intsN (restF m n (k + 1))) = bs) := by
              have h := HN.out
              rw [hb, if_neg (by simp)] at h
              exact h
            rw [hu]
            clear HN hb hu
            go_wp2_with (fail)
            go_roundw
            case rel => exact ⟨k + 1, bb, by go_num, rfl, by omega, HN2, Y⟩
            case measure => simp [intOf]; omega
          | true =>
            have hu : l.contains k = false := by
              cases hd : l.contains k with
              | false => rfl
              | true => exact absurd (List.contains_iff_mem.1 hd) (HU.out.1 hb)
            have HN2 : Hid (leastF f (if bb < 0 then f (k : Int) else if f (k : Int) < bb then f (k : Int) else bb) (intsN (restF m n (k + 1))) = bs) := by
              have h := HN.out
              rw [hb, if_pos rfl] at h
              exact h
            have IHk := Lib.hid (fun (A : Option Addr) (d : Nat) (q : List Int) (hq : q = intsN l ++ [(k : Int)]) => IH3.out k A d q hlt hb hq)
            have fk := fpos.out k hlt hb
            rw [hu]
            generalize f (k : Int) = fv at *
            clear HN hb hu HU
            have c1' : wo.cell? ⟨w.heap.size, 1, none⟩ = some (.int .i64 n) := B3.out.cell 1
            have c2 : wo.cell? ⟨w.heap.size, 2, none⟩ = some (.int .i64 cap) := B3.out.cell 2
            have c3 : wo.cell? ⟨w.heap.size, 3, none⟩ = some (.slice A xw.length a) := B3.out.cell 3
            have c4 : wo.cell? ⟨w.heap.size, 4, none⟩ = some (.slice B xv.length b) := B3.out.cell 4
            have c5 : wo.cell? ⟨w.heap.size, 5, none⟩ = some (.slice D co.length d) := B3.out.cell 5
            obtain ⟨q, hq⟩ : ∃ q, Hid (q = intsN l ++ [(k : Int)]) := ⟨_, rfl⟩
            have lq : q.length = l.length + 1 := by rw [hq.out]; simp [intsN]
            go_upto_region 19 with (fail)
            refine wp_region_any (by kernel_rfl) ?_
            change wpAny _ _ _ _ _ _ _ (World.drew _)
            refine wpAny_T (i := 2) (op := Op.move (Operand.tmp 1)) (t := 22) (d := some 74) (v := ?_) rfl (by decide +kernel) (by decide +kernel) (by decide +kernel) (fun _ _ _ h => h) ?_ ?_
            case refine_2 => (intro _; unfold exec2; go_simp; try with_reducible rfl)
            try simp only [Act.put, List.setIfInBounds_toArray, List.set_cons_zero, List.set_cons_succ]
            refine wpAny_T (i := 4) (op := Op.move (Operand.tmp 9)) (t := 3) (d := some 76) (v := ?_) rfl (by decide +kernel) (by decide +kernel) (by decide +kernel) (fun _ _ _ h => h) ?_ ?_
            case refine_2 => (intro _; unfold exec2; go_simp; try with_reducible rfl)
            try simp only [Act.put, List.setIfInBounds_toArray, List.set_cons_zero, List.set_cons_succ]
            refine wpAny_core3 (n := 2) [(0, some 72), (1, some 73), (3, some 75), (5, some 77), (6, some 78)] (fun | 1 => [3] | 3 => [6] | 5 => [6] | _ => []) (Ext wo)
              (VF (fun | 0 => some (.agg #[.int .i64 2, .int .i64 n, .int .i64 cap, .slice A xw.length a, .slice B xv.length b, .slice D co.length d]) | _ => none)
                (fun j v W => (j = 1 → ∃ g, v = .slice (some ⟨g, 0, none⟩) 0 0 ∧ wo.heap.size ≤ g ∧ Blk W g 3 #[]) ∧ (j = 3 → ∃ A c, v = .slice A (intsN l).length c ∧ OwI W wo.heap.size A c (intsN l)) ∧ (j = 5 → ∃ h, v = .slice (some ⟨h, 0, none⟩) 1 1 ∧ Blk W h 3 #[.int .i64 (k : Int)]) ∧ (j = 6 → ∃ A c, v = .slice A q.length c ∧ OwI W wo.heap.size A c q)))
              (fun i W W' => i ≠ 6 → Ext W W') #[true, true, true, true, true, true, true, false, false] (by kernel_rfl) (by kernel_rfl) ?_ ?_ ?_ ((Ext.rf _).drew)
            · intro i j v W W' hkp hv hs
              refine VF.stab1 (fun _ ⟨g1, g3, g8, g9⟩ => ?_) hv
              by_cases hi : i = 6
              · subst hi
                refine ⟨fun h => ?_, fun h => ?_, fun h => ?_, fun h => ?_⟩
                all_goals (subst h; exact absurd hkp (by decide +kernel))
              · have hx := hs hi
                refine ⟨fun h => ?_, fun h => ?_, fun h => ?_, fun h => ?_⟩
                · obtain ⟨g, q1, q2, q3⟩ := g1 h
                  exact ⟨g, q1, q2, q3.ext hx⟩
                · obtain ⟨A', c', q1, q2⟩ := g3 h
                  exact ⟨A', c', q1, q2.ext hx⟩
                · obtain ⟨h', q1, q2⟩ := g8 h
                  exact ⟨h', q1, q2.ext hx⟩
                · obtain ⟨A', c', q1, q2⟩ := g9 h
                  exact ⟨A', c', q1, q2.ext hx⟩
            · intro pq hpm u W hRW hD K hK
              have z2 := hRW.size
              simp only [List.mem_cons, List.not_mem_nil, or_false] at hpm
              rcases hpm with rfl | rfl | rfl | rfl | rfl
              · have r0 := keepEL hRW zb3 c0
                have r1 := keepEL hRW zb3 c1'
                have r2 := keepEL hRW zb3 c2
                have r3 := keepEL hRW zb3 c3
                have r4 := keepEL hRW zb3 c4
                have r5 := keepEL hRW zb3 c5
                exact op_ld (T := 25) rfl (.pointer (some ⟨w.heap.size, 0, none⟩)) (by kernel_rfl) (.agg #[.int .i64 2, .int .i64 n, .int .i64 cap, .slice A xw.length a, .slice B xv.length b, .slice D co.length d]) (by go_simp) (hK _ _ (VF.mk rfl) hRW (fun _ => Ext.rf _))
              · exact op_bs0 rfl _ (ibs0_run _) (hK _ _ (VF.mg rfl ⟨fun _ => ⟨_, rfl, z2, .new rfl⟩, (fun h => by cases h), (fun h => by cases h), (fun h => by cases h)⟩) (hRW.alloc _) (fun _ => (Ext.rf _).alloc _))
              · obtain ⟨g, h1, zg, bg⟩ := ((hD 1 (depIn (by kernel_rfl))).g rfl).1 rfl
                obtain ⟨A3, c3, w3, hr3, o3, x3⟩ := run_copy_i W wo.heap.size 22 g (intsN l) P c bg zg (hP.out.ext ((X1.out.tr Y.out).tr hRW)) (by rw [intsN_len]; omega)
                exact op_app rfl (.slice (some ⟨g, 0, none⟩) 0 0) (.slice P (intsN l).length c) (Eq.trans (b := u 1) (by kernel_rfl) h1) (by rw [intsN_len]; kernel_rfl) _ hr3 (hK _ _ (VF.mg rfl ⟨(fun h => by cases h), fun _ => ⟨A3, c3, rfl, o3⟩, (fun h => by cases h), (fun h => by cases h)⟩) (hRW.tr x3) (fun _ => x3))
              · exact op_bs1 rfl (.int .i64 (k : Int)) (by kernel_rfl) _ (ibs1_run _ _) (hK _ _ (VF.mg rfl ⟨(fun h => by cases h), (fun h => by cases h), fun _ => ⟨_, rfl, .new rfl⟩, (fun h => by cases h)⟩) (hRW.alloc _) (fun _ => (Ext.rf _).alloc _))
              · obtain ⟨A3, c3', h3, o3⟩ := ((hD 3 (depIn (by kernel_rfl))).g rfl).2.1 rfl
                obtain ⟨g8, h8, b8⟩ := ((hD 5 (depIn (by kernel_rfl))).g rfl).2.2.1 rfl
                obtain ⟨A7, c7, w7, hrun, o7, g7, -⟩ := run_app_i W wo.heap.size 22 A3 (intsN l).length c3' (intsN l) [(k : Int)] (some ⟨g8, 0, none⟩) 1 rfl o3 (.blk b8 rfl) (by rw [intsN_len]; simp; omega) hRW.size
                have x7 : Ext wo w7 := hRW.grow g7 (fun k hk => (o3.lt k hk).1)
                rw [← hq.out] at hrun o7
                exact op_app rfl (.slice A3 (intsN l).length c3') (.slice (some ⟨g8, 0, none⟩) 1 1) (Eq.trans (b := u 3) (by kernel_rfl) h3) (Eq.trans (b := u 5) (by kernel_rfl) h8) _ hrun (hK _ _ (VF.mg rfl ⟨(fun h => by cases h), (fun h => by cases h), (fun h => by cases h), fun _ => ⟨A7, c7, rfl, o7⟩⟩) x7 (fun h => absurd rfl h))
            · intro u w7 hRW hV
              have h0 := (hV (0, some 72) (by simp) rfl).k rfl
              obtain ⟨A7, c7, h9, o7⟩ := ((hV (6, some 78) (by simp) rfl).g rfl).2.2.2 rfl
              simp only [putAll, h0, h9]
              have rq := Lib.hid o7.read
              have x7 := Lib.hid hRW
              clear h0 h9 hV o7 hRW
              try simp only [Act.put, List.setIfInBounds_toArray, List.set_cons_zero, List.set_cons_succ]
              refine wpAny_next 7 (by decide +kernel) (op_call (f := 36) (xs := #[Operand.tmp 72, Operand.tmp 78]) (ts := #[25, 22]) (t := 3) (d := some 79) rfl #[.agg #[.int .i64 2, .int .i64 n, .int .i64 cap, .slice A xw.length a, .slice B xv.length b, .slice D co.length d], .slice A7 q.length c7] (by go_simp) (by kernel_rfl) _ (IHk.out A7 c7 q hq.out w7 (X1.out.tr (Y.out.tr x7.out)) rq.out) ?_)
              rintro e w8 ⟨rfl, x8⟩
              refine ⟨_, rfl, ?_⟩
              try simp only [Act.put, List.setIfInBounds_toArray, List.set_cons_zero, List.set_cons_succ]
              refine wpAny_T (i := 8) (op := Op.assign (Operand.tmp 79)) (t := 3) (d := some 12) (v := ?_) rfl (by decide +kernel) (by decide +kernel) (by decide +kernel) (fun _ _ _ h => h) ?_ ?_
              case refine_2 => (intro _; unfold exec2; go_simp; try with_reducible rfl)
              try simp only [Act.put, List.setIfInBounds_toArray, List.set_cons_zero, List.set_cons_succ]
              refine wpAny_done (by kernel_rfl) ?_ _
              have Y8 := Lib.hid (Y.out.tr (x7.out.tr x8))
              clear x8 x7 rq c0 c1' c2 c3 c4 c5
              go_simp
              by_cases hbb : bb < 0
              · rw [if_pos hbb] at HN2
                go_wp2_with (fail)
                go_roundw
                case rel => exact ⟨k + 1, fv, by go_num, rfl, by omega, HN2, Y8⟩
                case measure => simp [intOf]; omega
              · rw [if_neg hbb] at HN2
                by_cases hfb : fv < bb
                · rw [if_pos hfb] at HN2
                  go_wp2_with (fail)
                  go_roundw
                  case rel => exact ⟨k + 1, fv, by go_num, rfl, by omega, HN2, Y8⟩
                  case measure => simp [intOf]; omega
                · rw [if_neg hfb] at HN2
                  go_wp2_with (fail)
                  go_roundw
                  case rel => exact ⟨k + 1, bb, by go_num, rfl, by omega, HN2, Y8⟩
                  case measure => simp [intOf]; omega
    · obtain rfl : k = n := by omega
      have q1 : ¬ (k : Int) < (k : Int) := by omega
      have HN : Hid (bb = bs) := by
        have h := HS.out
        unfold restF at h
        rw [List.drop_of_length_le (by rw [List.length_range]; omega)] at h
        exact h
      obtain rfl := HN.out
      go_wp2_with (fail)
      go_ret
      exact ⟨rfl, X1.out.tr Y.out⟩
set_option maxRecDepth 100000 in
set_option maxHeartbeats 2000000 in
theorem best2_whole (i : InstP) (us : List Value) (P : Option Addr) (c : Nat) (l : List Nat) (w : World) (H : RInst w us i) (hc : checkP i = 0) (hk : i.kind = 2) (hP : RdI w P (intsN l)) (hl : l.Perm (List.range i.cost.length)) :
    Calls Tryd.prog 36 #[.agg (List.toArray us), .slice P (intsN l).length c] w fun e w' => e = .returned (.int .i64 (costF i.cost (intsN l))) ∧ Ext w w' := by
  have CO := fun (W : World) (x : Ext w W) => cost2_any i us P c l W (H.ext x) hc hk (hP.ext x) hl
  have hll : l.length = i.cost.length := by rw [hl.length_eq, List.length_range]
  have hnn : i.n = (i.cost.length : Int) := (square_ok hc (by omega)).len.symm
  rw [intsN_len, hll]
  generalize costF i.cost (intsN l) = cv at *
  clear hll hl hP hc
  obtain ⟨kind, nn, cap, xw, xv, co⟩ := i
  obtain ⟨A, a, B, b, D, d, rfl, -, -, -⟩ := H
  simp only at *
  subst hk hnn
  replace CO := Lib.hid CO
  have hb : ((co.length : Int) == (co.length : Int)) = true := by simp
  go_enter Tryd.func36, Tryd.ntmps36
  go_wp2_with (fail)
  refine (CO.out _ (by (repeat (first | assumption | exact Ext.rf _ | apply Ext.drew | apply Ext.drewN | apply Ext.alloc)))).mono ?_
  rintro e w1 ⟨rfl, x1⟩
  have X1 := Lib.hid (Ext.tr (a := w) (by (repeat (first | assumption | exact Ext.rf _ | apply Ext.drew | apply Ext.drewN | apply Ext.alloc))) x1)
  clear x1
  go_wp2_with (fail)
  go_ret
  exact ⟨rfl, X1.out⟩
theorem memsM_bits {n m : Nat} (h : SubN n m) (hn : n ≤ 64) {k : Nat} (hk : k < n) : k ∈ memsM m ↔ m.testBit k = true := by
  rw [memsM_mem]
  exact ⟨fun h => h.2, fun h => ⟨by omega, h⟩⟩
theorem best2_any (i : InstP) (us : List Value) (hc : checkP i = 0) (hk : i.kind = 2) : ∀ (f : Nat) (P : Option Addr) (c : Nat) (p : List Int) (m : Nat) (w : World), freeP i.cost.length p = some m → f = i.cost.length - p.length → RInst w us i → RdI w P p →
    Calls Tryd.prog 36 #[.agg (List.toArray us), .slice P p.length c] w fun e w' => e = .returned (.int .i64 (bestA i.cost i.cost.length f p)) ∧ Ext w w'
  | 0, P, c, p, m, w => fun hp hf H hP => by
    have sq := square_ok hc (by omega)
    have rok := rows_ok sq
    have hlen := freeP_len rok.n2 hp
    obtain ⟨l, rfl, hl⟩ := whole_cols rok.n2 hp (by omega)
    have hll : l.length = i.cost.length := by rw [hl.length_eq, List.length_range]
    exact best2_whole i us P c l w H hc hk hP hl
  | f + 1, P, c, p, m, w => fun hp hf H hP => by
    have sq := square_ok hc (by omega)
    have rok := rows_ok sq
    have h24 := rok.n2
    have hlen := freeP_len h24 hp
    obtain ⟨_, _, hsub⟩ := freeP_in h24 hp
    obtain ⟨l, rfl, h1, h2, h3⟩ := freeP_cols h24 hp
    have hmem : ∀ k, k < i.cost.length → (k ∈ memsM m ↔ m.testBit k = true) := fun k hk => memsM_bits hsub (by omega) hk
    rw [intsN_len] at hlen hf ⊢
    refine best2_more i us P c l w H hk hP i.cost.length m sq.len.symm h24 (by omega) _ (fun x => bestA i.cost i.cost.length f (intsN l ++ [x])) (fun k hk => ?_) ?_ (fun k hk hb => ?_) ?_
    · rw [← hmem k hk, h3 k]
      exact ⟨fun h => h.2, fun h => ⟨hk, h⟩⟩
    · have e : restF m i.cost.length 0 = memsM m := by
        unfold restF
        rw [List.drop_zero, ← memsM_range hsub (by omega)]
      rw [e]
      show _ = leastF _ (-1) (match freeP i.cost.length (intsN l) with | none => [] | some m => intsN (memsM m))
      rw [hp]
    · have hs := freeP_snoc h24 hp ((hmem k hk).2 hb)
      have h4 := bounda_below rok hs
      rw [show i.cost.length - (intsN l ++ [(k : Int)]).length = f by rw [List.length_append, intsN_len, List.length_singleton]; omega] at h4
      omega
    · rintro k A d q hkn hb rfl W x hq
      have hs := freeP_snoc h24 hp ((hmem k hkn).2 hb)
      exact best2_any i us hc hk f A d _ _ W hs (by rw [List.length_append, intsN_len, List.length_singleton]; omega) (H.ext x) hq
end Go.Proofs.YtleckhbmciiooaaDoor
namespace Go.Proofs.YtleckhbmciiooaaDoor

section
variable {rows : List (List Int)} {us : List Nat} {last : Nat}
end
/-! the beginnings as a tree -/
section
variable {rows : List (List Int)}
theorem walkP_root : walkP rows [] = some (restM rows.length, 0, 0) := by
  unfold walkP
  rw [if_neg (by simp)]
  rfl
end
end Go.Proofs.YtleckhbmciiooaaDoor
namespace Go.Proofs.YtleckhbmciiooaaDoor
open Go.RowKit Go.ChangeShapes Go.WideShapes Go.ChangeAt Go.Deep

set_option maxRecDepth 100000 in
set_option maxHeartbeats 8000000 in
theorem small3_any (i : InstP) (us : List Value) (w : World) (H : RInst w us i) (hc : checkP i = 0) (hk : i.kind = 3) :
    Calls Tryd.prog 35 #[.agg (List.toArray us)] w fun e w' => e = .returned (.bool (decide (i.n ≤ 6))) ∧ Ext w w' := by
  have CH := fun (W : World) (x : Ext w W) => rcheck_any i us W (H.ext x)
  rw [hc] at CH
  obtain ⟨kind, nn, cap, xw, xv, co⟩ := i
  obtain ⟨A, a, B, b, D, d, rfl, -, -, -⟩ := H
  simp only at *
  subst hk
  replace CH := Lib.hid CH
  clear hc
  have B1 : Hid (Blk (w.alloc (.cells #[.int .i64 3, .int .i64 nn, .int .i64 cap, .slice A xw.length a, .slice B xv.length b, .slice D co.length d] 25)) w.heap.size 25 #[.int .i64 3, .int .i64 nn, .int .i64 cap, .slice A xw.length a, .slice B xv.length b, .slice D co.length d]) := .new rfl
  obtain ⟨bb, hbb⟩ : ∃ bb, Hid (decide (nn ≤ 6) = bb) := ⟨_, rfl⟩
  rw [hbb.out]
  have hb2 : decide (nn ≤ 6) = bb := hbb.out
  go_enter Tryd.func35, Tryd.ntmps35
  go_wp2_with (fail)
  refine (CH.out _ (by (repeat (first | assumption | exact Ext.rf _ | apply Ext.drew | apply Ext.drewN | apply Ext.alloc)))).mono ?_
  rintro e w1 ⟨rfl, x1⟩
  have X1 := Lib.hid (Ext.tr (a := w) (by (repeat (first | assumption | exact Ext.rf _ | apply Ext.drew | apply Ext.drewN | apply Ext.alloc))) x1)
  have b0 : w1.cell? ⟨w.heap.size, 0, none⟩ = some (.int .i64 3) := (B1.out.ext x1).cell 0
  have b1 : w1.cell? ⟨w.heap.size, 1, none⟩ = some (.int .i64 nn) := (B1.out.ext x1).cell 1
  clear x1 B1
  go_wp2_with (fail)
  go_ret
  exact ⟨by first | rfl | simp [hbb.out], X1.out⟩
set_option maxRecDepth 100000 in
set_option maxHeartbeats 8000000 in
theorem cost3_any (i : InstP) (us : List Value) (P : Option Addr) (c : Nat) (q : List Nat) (w : World) (H : RInst w us i) (hc : checkP i = 0) (hk : i.kind = 3) (hP : RdI w P (intsN (0 :: q))) (hl : (0 :: q).Perm (List.range i.cost.length)) :
    Calls Tryd.prog 34 #[.agg (List.toArray us), .slice P i.cost.length c] w fun e w' => e = .returned (.tuple #[.int .i64 (pathT i.cost 0 q), .int .i64 0]) ∧ Ext w w' := by
  have CH := fun (W : World) (x : Ext w W) => rcheck_any i us W (H.ext x)
  rw [hc] at CH
  have sq := square_ok hc (by omega)
  have rok := rows_ok sq
  have hnn : i.n = (i.cost.length : Int) := sq.len.symm
  have PE := fun (W : World) (x : Ext w W) => perm_yes P c i.cost.length (0 :: q) W (hP.ext x) hl (by have := rok.n2; omega)
  have hlt : Hid (∀ x ∈ 0 :: q, x < i.cost.length) := fun x hx => List.mem_range.1 (hl.mem_iff.1 hx)
  have hlen : Hid ((0 :: q).length = i.cost.length) := by
    have h : (0 :: q).length = i.cost.length := by rw [hl.length_eq, List.length_range]
    exact h
  have n24 := rok.n2
  have n1 := rok.n1
  clear hl hc sq
  obtain ⟨kind, nn, cap, xw, xv, co⟩ := i
  obtain ⟨A, a, B, b, D, d, rfl, -, -, ⟨hC, -, -⟩⟩ := H
  simp only at *
  subst hk hnn
  obtain ⟨cb, cof, _, _, _, rfl, _, _⟩ := cost_at rok hC (r := 0) (c := 0) (by omega) (by omega)
  have num := ends_num rok
  have CA := Lib.hid (fun (W : World) (x : Ext w W) (r c : Nat) (hr : r < co.length) (hc : c < co.length) => cost_in rok (hC.ext x fun _ _ h => h.ext x) hr hc)
  obtain ⟨tot, htot⟩ : ∃ tot, Hid (pathT co 0 q = tot) := ⟨_, rfl⟩
  rw [htot.out]
  have bt : 0 ≤ tot ∧ tot ≤ 2147483647 * 24 := by
    have h1 := pathT_bd num q 0 (by omega) fun x hx => hlt.out x (by simp [hx])
    have h2 := hlen.out
    rw [List.length_cons] at h2
    rw [htot.out] at h1
    omega
  have START : Hid ((0 : Int) + restW co ((0 :: q).drop 0) = tot) := by
    have h : (0 : Int) + restW co ((0 :: q).drop 0) = tot := by rw [← htot.out]; simp [restW]
    exact h
  obtain ⟨l, hll⟩ : ∃ l, Hid (0 :: q = l) := ⟨_, rfl⟩
  have h00 : Hid (l[0]? = some 0) := by
    have h : l[0]? = some 0 := by rw [← hll.out]; rfl
    exact h
  rw [hll.out] at hP hlt hlen START
  obtain ⟨pb, po, x0, rfl, zp0, cp0, ep0, _⟩ := hP.at (k := 0) (by rw [intsN_len, hlen.out]; omega)
  obtain rfl : x0 = 0 := by
    have h := ep0.out
    rw [intsN_get h00.out] at h
    exact (Option.some.inj h).symm
  replace cp0 : w.cell? ⟨pb, po, none⟩ = some (.int .i64 0) := cp0
  have DR : Hid (∀ k, k < co.length → ∃ u, l[k]? = some u ∧ u < co.length ∧ l.drop k = u :: l.drop (k + 1)) := fun k hk => by
    have h : k < l.length := by rw [hlen.out]; exact hk
    exact ⟨l[k], List.getElem?_eq_getElem h, hlt.out _ (List.getElem_mem h), List.drop_eq_getElem_cons h⟩
  replace CH := Lib.hid CH
  replace PE := Lib.hid PE
  replace hP := Lib.hid hP
  replace hC := Lib.hid hC
  replace rok := Lib.hid rok
  replace num := Lib.hid num
  have B1 : Hid (Blk (w.alloc (.cells #[.int .i64 3, .int .i64 co.length, .int .i64 cap, .slice A xw.length a, .slice B xv.length b, .slice (some ⟨cb, cof, none⟩) co.length d] 25)) w.heap.size 25 #[.int .i64 3, .int .i64 co.length, .int .i64 cap, .slice A xw.length a, .slice B xv.length b, .slice (some ⟨cb, cof, none⟩) co.length d]) := .new rfl
  have q00 : (0 : Int) < (co.length : Int) := by omega
  clear ep0
  go_enter Tryd.func34, Tryd.ntmps34
  go_wp2_with (fail)
  refine (CH.out _ (by (repeat (first | assumption | exact Ext.rf _ | apply Ext.drew | apply Ext.drewN | apply Ext.alloc)))).mono ?_
  rintro e w1 ⟨rfl, x1⟩
  have X1 := Lib.hid (Ext.tr (a := w) (by (repeat (first | assumption | exact Ext.rf _ | apply Ext.drew | apply Ext.drewN | apply Ext.alloc))) x1)
  have BB := Lib.hid (B1.out.ext x1)
  have d0 : w1.cell? ⟨w.heap.size, 0, none⟩ = some (.int .i64 3) := BB.out.cell 0
  have d1 : w1.cell? ⟨w.heap.size, 1, none⟩ = some (.int .i64 co.length) := BB.out.cell 1
  clear x1
  go_wp2_with (fail)
  refine (PE.out _ X1.out).mono ?_
  rintro e w2 ⟨rfl, x2⟩
  have X2 := Lib.hid (X1.out.tr x2)
  have BC := Lib.hid (BB.out.ext x2)
  have e0 : w2.cell? ⟨w.heap.size, 0, none⟩ = some (.int .i64 3) := BC.out.cell 0
  have e2 : w2.cell? ⟨pb, po, none⟩ = some (.int .i64 0) := keepEL X2.out zp0 cp0
  clear x2 d0 d1 BB
  go_wp2_with (fail)
  go_loopw [8, 7] (fun v s wr => ∃ (k : Nat) (su : Int), v = .int .i64 k ∧ s = .int .i64 su ∧ k ≤ co.length ∧ Hid (0 ≤ su ∧ su + restW co (l.drop k) = tot) ∧ Hid (Ext w2 wr)) (fun v _ _ => co.length - (intOf v).toNat)
  case atStart => exact ⟨0, 0, rfl, rfl, by omega, by exact (show (0 : Int) ≤ 0 ∧ (0 : Int) + restW co (l.drop 0) = tot from ⟨by omega, START.out⟩), Ext.rf _⟩
  case round =>
    obtain ⟨wo, rfl⟩ : ∃ wo : World, wo = wr := ⟨_, rfl⟩
    obtain ⟨k, su, rfl, rfl, hk, HS, Y⟩ := hrel
    have d0 : wo.cell? ⟨w.heap.size, 0, none⟩ = some (.int .i64 3) := (BC.out.ext Y.out).cell 0
    have d1 : wo.cell? ⟨w.heap.size, 1, none⟩ = some (.int .i64 co.length) := (BC.out.ext Y.out).cell 1
    have d5 : wo.cell? ⟨w.heap.size, 5, none⟩ = some (.slice (some ⟨cb, cof, none⟩) co.length d) := (BC.out.ext Y.out).cell 5
    have XW := Lib.hid (X2.out.tr Y.out)
    clear e0 e2 START
    by_cases hkl : k < co.length
    · obtain ⟨u, ek, hun, edr⟩ := DR.out k hkl
      obtain ⟨pb', po', xu, hPq, zpk, cpk, epk, _⟩ := (hP.out.ext XW.out).at (k := k) (by rw [intsN_len, hlen.out]; exact hkl)
      obtain ⟨rfl, rfl⟩ : pb = pb' ∧ po = po' := by simpa using hPq
      obtain rfl : xu = (u : Int) := by
        have h := epk.out
        rw [intsN_get ek] at h
        exact (Option.some.inj h).symm
      have HS1 := HS.out
      rw [edr] at HS1
      have q1 : (k : Int) < (co.length : Int) := by omega
      have q2 : (u : Int) < (co.length : Int) := by omega
      have hw0 : IntKind.i64.wrap ((k : Int) + 1) = (k : Int) + 1 := IntWalk.i64_in _ (by omega)
      clear ek edr hPq epk HS
      by_cases hlast : k + 1 = co.length
      · have e1 : l.drop (k + 1) = [] := List.drop_of_length_le (by rw [hlen.out]; omega)
        rw [e1] at HS1
        obtain ⟨rb, ro, d', c1, c2⟩ := CA.out _ XW.out u 0 hun (by omega)
        have nu := num.out u 0 hun (by omega)
        obtain ⟨y, hy⟩ : ∃ y, Hid (costAt co u 0 = y) := ⟨_, rfl⟩
        simp only [restW, pathT] at HS1
        rw [hy.out] at c2 nu HS1
        replace c2 : wo.cell? ⟨rb, ro, none⟩ = some (.int .i64 y) := c2
        have hrem : ((k : Int) + 1).tmod (co.length : Int) = 0 := by
          have h : (k : Int) + 1 = (co.length : Int) := by omega
          rw [h, Int.tmod_self]
        have hw1 : IntKind.i64.wrap 0 = 0 := IntWalk.i64_in _ (by omega)
        have hw : IntKind.i64.wrap (su + y) = su + y := IntWalk.i64_in _ (by omega)
        have p0 : wo.cell? ⟨pb, po, none⟩ = some (.int .i64 0) := keepEL XW.out zp0 cp0
        have NEW : Hid (0 ≤ su + y ∧ su + y + restW co (l.drop (k + 1)) = tot) := by
          have h : 0 ≤ su + y ∧ su + y + restW co (l.drop (k + 1)) = tot := by
            rw [e1]
            simp only [restW]
            omega
          exact h
        have hnz : ((co.length : Int) == 0) = false := by rw [beq_eq_false_iff_ne]; omega
        clear HS1 e1
        replace hlast := Lib.hid hlast
        go_wp2_with (fail)
        go_quiet (fail)
        go_wp2_with (fail)
        go_roundw
        case rel => exact ⟨k + 1, su + y, by go_num, rfl, by omega, NEW, Y.out.drewN _⟩
        case measure => simp [intOf]; omega
      · have hk1 : k + 1 < co.length := by omega
        obtain ⟨v, ek1, hvn, edr1⟩ := DR.out (k + 1) hk1
        obtain ⟨pb', po', xu, hPq, zpk1, cpk1, epk1, _⟩ := (hP.out.ext XW.out).at (k := k + 1) (by rw [intsN_len, hlen.out]; exact hk1)
        obtain ⟨rfl, rfl⟩ : pb = pb' ∧ po = po' := by simpa using hPq
        obtain rfl : xu = (v : Int) := by
          have h := epk1.out
          rw [intsN_get ek1] at h
          exact (Option.some.inj h).symm
        rw [edr1] at HS1
        obtain ⟨rb, ro, d', c1, c2⟩ := CA.out _ XW.out u v hun hvn
        have nu := num.out u v hun hvn
        obtain ⟨y, hy⟩ : ∃ y, Hid (costAt co u v = y) := ⟨_, rfl⟩
        simp only [restW, pathT] at HS1
        rw [hy.out] at c2 nu HS1
        have hpp := (pathT_bd num.out (l.drop (k + 1 + 1)) v hvn fun x hx => hlt.out x (List.mem_of_mem_drop hx)).1
        have hrem : ((k : Int) + 1).tmod (co.length : Int) = ((k + 1 : Nat) : Int) := by
          rw [Int.tmod_eq_emod_of_nonneg (by omega), Int.emod_eq_of_lt (by omega) (by omega)]
          omega
        have hw1 : IntKind.i64.wrap ((k + 1 : Nat) : Int) = ((k + 1 : Nat) : Int) := IntWalk.i64_in _ (by omega)
        have hw : IntKind.i64.wrap (su + y) = su + y := IntWalk.i64_in _ (by omega)
        have NEW : Hid (0 ≤ su + y ∧ su + y + restW co (l.drop (k + 1)) = tot) := by
          have h : 0 ≤ su + y ∧ su + y + restW co (l.drop (k + 1)) = tot := by
            rw [edr1]
            simp only [restW]
            omega
          exact h
        have q3 : (v : Int) < (co.length : Int) := by omega
        have q4 : ((k + 1 : Nat) : Int) < (co.length : Int) := by omega
        have hnz : ((co.length : Int) == 0) = false := by rw [beq_eq_false_iff_ne]; omega
        clear HS1 edr1 ek1 hPq epk1 hpp
        replace hlast := Lib.hid hlast
        go_wp2_with (fail)
        go_quiet (fail)
        go_wp2_with (fail)
        go_roundw
        case rel => exact ⟨k + 1, su + y, by go_num, rfl, by omega, NEW, Y.out.drewN _⟩
        case measure => simp [intOf]; omega
    · have q1 : ¬ (k : Int) < (co.length : Int) := by omega
      have HS2 : Hid (su = tot) := by
        have h := HS.out.2
        rw [List.drop_of_length_le (by rw [hlen.out]; omega)] at h
        simp only [restW] at h
        have h2 : su = tot := by omega
        exact h2
      go_wp2_with (fail)
      go_ret2
      rw [HS2.out]
      exact ⟨rfl, XW.out⟩
set_option maxRecDepth 100000 in
set_option maxHeartbeats 8000000 in
theorem best3_more (i : InstP) (us : List Value) (P : Option Addr) (c : Nat) (l : List Nat) (w : World) (H : RInst w us i) (hk2 : i.kind = 3) (hP : RdI w P (intsN l)) (n m : Nat) (hn : i.n = n) (hn24 : n ≤ 24) (hlen : l.length < n) (hl0 : 0 < l.length) (bs : Int) (f : Int → Int)
    (hused : ∀ k, k < n → (m.testBit k = true ↔ k ∉ l)) (e5 : leastF f (-1) (intsN (restF m n 0)) = bs) (fpos : ∀ k, k < n → m.testBit k = true → 0 ≤ f (k : Int))
    (IH3 : ∀ (k : Nat) (A : Option Addr) (d : Nat) (q : List Int), k < n → m.testBit k = true → q = intsN l ++ [(k : Int)] → ∀ W : World, Ext w W → RdI W A q → Calls Tryd.prog 36 #[.agg (List.toArray us), .slice A q.length d] W fun e w' => e = .returned (.int .i64 (f k)) ∧ Ext W w') :
    Calls Tryd.prog 36 #[.agg (List.toArray us), .slice P l.length c] w fun e w' => e = .returned (.int .i64 bs) ∧ Ext w w' := by
  obtain ⟨kind, nn, cap, xw, xv, co⟩ := i
  obtain ⟨A, a, B, b, D, d, rfl, -, -, -⟩ := H
  simp only at *
  subst hk2 hn
  replace IH3 := Lib.hid IH3
  replace e5 := Lib.hid e5
  replace hP := Lib.hid hP
  replace hused := Lib.hid hused
  replace fpos := Lib.hid fpos
  have hz0 : ((l.length : Int) == 0) = false := by rw [beq_eq_false_iff_ne]; omega
  have hne : ((l.length : Int) == (n : Int)) = false := by rw [beq_eq_false_iff_ne]; omega
  have B1 : Hid (Blk (w.alloc (.cells #[.int .i64 3, .int .i64 n, .int .i64 cap, .slice A xw.length a, .slice B xv.length b, .slice D co.length d] 25)) w.heap.size 25 #[.int .i64 3, .int .i64 n, .int .i64 cap, .slice A xw.length a, .slice B xv.length b, .slice D co.length d]) := .new rfl
  have X0 : Hid (Ext w (w.alloc (.cells #[.int .i64 3, .int .i64 n, .int .i64 cap, .slice A xw.length a, .slice B xv.length b, .slice D co.length d] 25))) := (Ext.rf _).alloc _
  obtain ⟨w1, hw1⟩ : ∃ w1, w1 = (w.alloc (.cells #[.int .i64 3, .int .i64 n, .int .i64 cap, .slice A xw.length a, .slice B xv.length b, .slice D co.length d] 25)) := ⟨_, rfl⟩
  have B2 : Hid (Blk w1 w.heap.size 25 #[.int .i64 3, .int .i64 n, .int .i64 cap, .slice A xw.length a, .slice B xv.length b, .slice D co.length d]) := by rw [hw1]; exact B1.out
  have X1 : Hid (Ext w w1) := by rw [hw1]; exact X0.out
  replace hw1 := Lib.hid hw1
  clear B1
  go_enter Tryd.func36, Tryd.ntmps36
  go_wp2_with (fail)
  rw [← hw1.out]
  clear X0
  go_loopw [9, 7] (fun v bv wr => ∃ (k : Nat) (bb : Int), v = .int .i64 k ∧ bv = .int .i64 bb ∧ k ≤ n ∧ Hid (leastF f bb (intsN (restF m n k)) = bs) ∧ Hid (Ext w1 wr)) (fun v _ _ => n - (intOf v).toNat)
  case atStart => exact ⟨0, -1, rfl, rfl, by omega, e5, Ext.rf _⟩
  case round =>
    obtain ⟨wo, rfl⟩ : ∃ wo : World, wo = wr := ⟨_, rfl⟩
    obtain ⟨k, bb, rfl, rfl, hk, HS, Y⟩ := hrel
    by_cases hlt : k < n
    · have HN : Hid (leastF f bb (intsN (if m.testBit k = true then k :: restF m n (k + 1) else restF m n (k + 1))) = bs) := by
        have h := HS.out
        rw [restF_step hlt] at h
        exact h
      have q1 : (k : Int) < (n : Int) := by omega
      have B3 := B2.out.ext Y.out
      have zb3 := B3.lt
      have c0 : wo.cell? ⟨w.heap.size, 0, none⟩ = some (.int .i64 3) := B3.cell 0
      have HU := hused.out k hlt
      replace HU := Lib.hid HU
      replace B3 := Lib.hid B3
      clear HS
      go_wp2_with (fail)
      go_loopw [11, 10] (fun v uv wr => ∃ j : Nat, v = .int .i64 j ∧ uv = .bool ((l.take j).contains k) ∧ j ≤ l.length ∧ wr = wo) (fun v _ _ => l.length - (intOf v).toNat)
      case atStart => exact ⟨0, rfl, rfl, by omega, rfl⟩
      case round =>
        obtain ⟨j, rfl, rfl, hj, hwr⟩ := hrel
        have hwr' : wo = wr := (show wr = wo from hwr).symm
        clear hwr
        subst hwr'
        by_cases hjl : j < l.length
        · have q2 : (j : Int) < (l.length : Int) := by omega
          have ej : l[j]? = some l[j] := List.getElem?_eq_getElem hjl
          generalize l[j] = y at ej
          obtain ⟨pb, po, x, rfl, _, cx, ex, _⟩ := (hP.out.ext (X1.out.tr Y.out)).at (k := j) (by rw [intsN_len]; exact hjl)
          obtain rfl : x = (y : Int) := by
            have h := ex.out
            rw [intsN_get ej] at h
            exact (Option.some.inj h).symm
          have HC : Hid ((l.take (j + 1)).contains k = ((l.take j).contains k || (y == k))) := by
            have h : (l.take (j + 1)).contains k = ((l.take j).contains k || (y == k)) := by
              rw [List.take_add_one, ej, Bool.eq_iff_iff, Bool.or_eq_true, List.contains_iff_mem, List.contains_iff_mem, beq_iff_eq]
              show k ∈ l.take j ++ [y] ↔ _
              rw [List.mem_append, List.mem_singleton]
              exact ⟨fun h => h.imp id Eq.symm, fun h => h.imp id Eq.symm⟩
            exact h
          clear ex ej
          cases hb : (l.take j).contains k with
          | true =>
            have HC2 : Hid ((l.take (j + 1)).contains k = true) := by
              have h := HC.out
              rw [hb, Bool.true_or] at h
              exact h
            clear HC hb
            go_wp2_with (fail)
            go_roundw
            case rel => exact ⟨j + 1, by go_num, by rw [HC2.out], by omega, by first | exact rfl | exact trivial⟩
            case measure => simp [intOf]; omega
          | false =>
            obtain ⟨yk, hyk⟩ : ∃ yk, Hid ((y == k) = yk) := ⟨_, rfl⟩
            have HC2 : Hid ((l.take (j + 1)).contains k = yk) := by
              have h := HC.out
              rw [hb, Bool.false_or, hyk.out] at h
              exact h
            have t1 : (y == k) = yk := hyk.out
            have t2 : ((y : Int) == (k : Int)) = yk := by
              rw [← hyk.out, Bool.eq_iff_iff, beq_iff_eq, beq_iff_eq]
              omega
            clear HC hb
            go_wp2_with (fail)
            go_roundw
            case rel => exact ⟨j + 1, by go_num, by rw [HC2.out], by omega, by first | exact rfl | exact trivial⟩
            case measure => simp [intOf]; omega
        · have q2 : ¬ (j : Int) < (l.length : Int) := by omega
          rw [List.take_of_length_le (by omega)]
          cases hb : m.testBit k with
          | false =>
            have hu : l.contains k = true := by
              rw [List.contains_iff_mem]
              cases hd : decide (k ∈ l) with
              | true => exact of_decide_eq_true hd
              | false =>
                have := HU.out.2 (of_decide_eq_false hd)
                rw [hb] at this
                cases this
            have HN2 : Hid (leastF f bb (intsN (restF m n (k + 1))) = bs) := by
              have h := HN.out
              rw [hb, if_neg (by simp)] at h
              exact h
            rw [hu]
            clear HN hb hu
            go_wp2_with (fail)
            go_roundw
            case rel => exact ⟨k + 1, bb, by go_num, rfl, by omega, HN2, Y⟩
            case measure => simp [intOf]; omega
          | true =>
            have hu : l.contains k = false := by
              cases hd : l.contains k with
              | false => rfl
              | true => exact absurd (List.contains_iff_mem.1 hd) (HU.out.1 hb)
            have HN2 : Hid (leastF f (if bb < 0 then f (k : Int) else if f (k : Int) < bb then f (k : Int) else bb) (intsN (restF m n (k + 1))) = bs) := by
              have h := HN.out
              rw [hb, if_pos rfl] at h
              exact h
            have IHk := Lib.hid (fun (A : Option Addr) (d : Nat) (q : List Int) (hq : q = intsN l ++ [(k : Int)]) => IH3.out k A d q hlt hb hq)
            have fk := fpos.out k hlt hb
            rw [hu]
            generalize f (k : Int) = fv at *
            clear HN hb hu HU
            have c1' : wo.cell? ⟨w.heap.size, 1, none⟩ = some (.int .i64 n) := B3.out.cell 1
            have c2 : wo.cell? ⟨w.heap.size, 2, none⟩ = some (.int .i64 cap) := B3.out.cell 2
            have c3 : wo.cell? ⟨w.heap.size, 3, none⟩ = some (.slice A xw.length a) := B3.out.cell 3
            have c4 : wo.cell? ⟨w.heap.size, 4, none⟩ = some (.slice B xv.length b) := B3.out.cell 4
            have c5 : wo.cell? ⟨w.heap.size, 5, none⟩ = some (.slice D co.length d) := B3.out.cell 5
            obtain ⟨q, hq⟩ : ∃ q, Hid (q = intsN l ++ [(k : Int)]) := ⟨_, rfl⟩
            have lq : q.length = l.length + 1 := by rw [hq.out]; simp [intsN]
            go_upto_region 19 with (fail)
            refine wp_region_any (by kernel_rfl) ?_
            change wpAny _ _ _ _ _ _ _ (World.drew _)
            refine wpAny_T (i := 2) (op := Op.move (Operand.tmp 1)) (t := 22) (d := some 74) (v := ?_) rfl (by decide +kernel) (by decide +kernel) (by decide +kernel) (fun _ _ _ h => h) ?_ ?_
            case refine_2 => (intro _; unfold exec2; go_simp; try with_reducible rfl)
            try simp only [Act.put, List.setIfInBounds_toArray, List.set_cons_zero, List.set_cons_succ]
            refine wpAny_T (i := 4) (op := Op.move (Operand.tmp 9)) (t := 3) (d := some 76) (v := ?_) rfl (by decide +kernel) (by decide +kernel) (by decide +kernel) (fun _ _ _ h => h) ?_ ?_
            case refine_2 => (intro _; unfold exec2; go_simp; try with_reducible rfl)
            try simp only [Act.put, List.setIfInBounds_toArray, List.set_cons_zero, List.set_cons_succ]
            refine wpAny_core3 (n := 2) [(0, some 72), (1, some 73), (3, some 75), (5, some 77), (6, some 78)] (fun | 1 => [3] | 3 => [6] | 5 => [6] | _ => []) (Ext wo)
              (VF (fun | 0 => some (.agg #[.int .i64 3, .int .i64 n, .int .i64 cap, .slice A xw.length a, .slice B xv.length b, .slice D co.length d]) | _ => none)
                (fun j v W => (j = 1 → ∃ g, v = .slice (some ⟨g, 0, none⟩) 0 0 ∧ wo.heap.size ≤ g ∧ Blk W g 3 #[]) ∧ (j = 3 → ∃ A c, v = .slice A (intsN l).length c ∧ OwI W wo.heap.size A c (intsN l)) ∧ (j = 5 → ∃ h, v = .slice (some ⟨h, 0, none⟩) 1 1 ∧ Blk W h 3 #[.int .i64 (k : Int)]) ∧ (j = 6 → ∃ A c, v = .slice A q.length c ∧ OwI W wo.heap.size A c q)))
              (fun i W W' => i ≠ 6 → Ext W W') #[true, true, true, true, true, true, true, false, false] (by kernel_rfl) (by kernel_rfl) ?_ ?_ ?_ ((Ext.rf _).drew)
            · intro i j v W W' hkp hv hs
              refine VF.stab1 (fun _ ⟨g1, g3, g8, g9⟩ => ?_) hv
              by_cases hi : i = 6
              · subst hi
                refine ⟨fun h => ?_, fun h => ?_, fun h => ?_, fun h => ?_⟩
                all_goals (subst h; exact absurd hkp (by decide +kernel))
              · have hx := hs hi
                refine ⟨fun h => ?_, fun h => ?_, fun h => ?_, fun h => ?_⟩
                · obtain ⟨g, q1, q2, q3⟩ := g1 h
                  exact ⟨g, q1, q2, q3.ext hx⟩
                · obtain ⟨A', c', q1, q2⟩ := g3 h
                  exact ⟨A', c', q1, q2.ext hx⟩
                · obtain ⟨h', q1, q2⟩ := g8 h
                  exact ⟨h', q1, q2.ext hx⟩
                · obtain ⟨A', c', q1, q2⟩ := g9 h
                  exact ⟨A', c', q1, q2.ext hx⟩
            · intro pq hpm u W hRW hD K hK
              have z2 := hRW.size
              simp only [List.mem_cons, List.not_mem_nil, or_false] at hpm
              rcases hpm with rfl | rfl | rfl | rfl | rfl
              · have r0 := keepEL hRW zb3 c0
                have r1 := keepEL hRW zb3 c1'
                have r2 := keepEL hRW zb3 c2
                have r3 := keepEL hRW zb3 c3
                have r4 := keepEL hRW zb3 c4
                have r5 := keepEL hRW zb3 c5
                exact op_ld (T := 25) rfl (.pointer (some ⟨w.heap.size, 0, none⟩)) (by kernel_rfl) (.agg #[.int .i64 3, .int .i64 n, .int .i64 cap, .slice A xw.length a, .slice B xv.length b, .slice D co.length d]) (by go_simp) (hK _ _ (VF.mk rfl) hRW (fun _ => Ext.rf _))
              · exact op_bs0 rfl _ (ibs0_run _) (hK _ _ (VF.mg rfl ⟨fun _ => ⟨_, rfl, z2, .new rfl⟩, (fun h => by cases h), (fun h => by cases h), (fun h => by cases h)⟩) (hRW.alloc _) (fun _ => (Ext.rf _).alloc _))
              · obtain ⟨g, h1, zg, bg⟩ := ((hD 1 (depIn (by kernel_rfl))).g rfl).1 rfl
                obtain ⟨A3, c3, w3, hr3, o3, x3⟩ := run_copy_i W wo.heap.size 22 g (intsN l) P c bg zg (hP.out.ext ((X1.out.tr Y.out).tr hRW)) (by rw [intsN_len]; omega)
                exact op_app rfl (.slice (some ⟨g, 0, none⟩) 0 0) (.slice P (intsN l).length c) (Eq.trans (b := u 1) (by kernel_rfl) h1) (by rw [intsN_len]; kernel_rfl) _ hr3 (hK _ _ (VF.mg rfl ⟨(fun h => by cases h), fun _ => ⟨A3, c3, rfl, o3⟩, (fun h => by cases h), (fun h => by cases h)⟩) (hRW.tr x3) (fun _ => x3))
              · exact op_bs1 rfl (.int .i64 (k : Int)) (by kernel_rfl) _ (ibs1_run _ _) (hK _ _ (VF.mg rfl ⟨(fun h => by cases h), (fun h => by cases h), fun _ => ⟨_, rfl, .new rfl⟩, (fun h => by cases h)⟩) (hRW.alloc _) (fun _ => (Ext.rf _).alloc _))
              · obtain ⟨A3, c3', h3, o3⟩ := ((hD 3 (depIn (by kernel_rfl))).g rfl).2.1 rfl
                obtain ⟨g8, h8, b8⟩ := ((hD 5 (depIn (by kernel_rfl))).g rfl).2.2.1 rfl
                obtain ⟨A7, c7, w7, hrun, o7, g7, -⟩ := run_app_i W wo.heap.size 22 A3 (intsN l).length c3' (intsN l) [(k : Int)] (some ⟨g8, 0, none⟩) 1 rfl o3 (.blk b8 rfl) (by rw [intsN_len]; simp; omega) hRW.size
                have x7 : Ext wo w7 := hRW.grow g7 (fun k hk => (o3.lt k hk).1)
                rw [← hq.out] at hrun o7
                exact op_app rfl (.slice A3 (intsN l).length c3') (.slice (some ⟨g8, 0, none⟩) 1 1) (Eq.trans (b := u 3) (by kernel_rfl) h3) (Eq.trans (b := u 5) (by kernel_rfl) h8) _ hrun (hK _ _ (VF.mg rfl ⟨(fun h => by cases h), (fun h => by cases h), (fun h => by cases h), fun _ => ⟨A7, c7, rfl, o7⟩⟩) x7 (fun h => absurd rfl h))
            · intro u w7 hRW hV
              have h0 := (hV (0, some 72) (by simp) rfl).k rfl
              obtain ⟨A7, c7, h9, o7⟩ := ((hV (6, some 78) (by simp) rfl).g rfl).2.2.2 rfl
              simp only [putAll, h0, h9]
              have rq := Lib.hid o7.read
              have x7 := Lib.hid hRW
              clear h0 h9 hV o7 hRW
              try simp only [Act.put, List.setIfInBounds_toArray, List.set_cons_zero, List.set_cons_succ]
              refine wpAny_next 7 (by decide +kernel) (op_call (f := 36) (xs := #[Operand.tmp 72, Operand.tmp 78]) (ts := #[25, 22]) (t := 3) (d := some 79) rfl #[.agg #[.int .i64 3, .int .i64 n, .int .i64 cap, .slice A xw.length a, .slice B xv.length b, .slice D co.length d], .slice A7 q.length c7] (by go_simp) (by kernel_rfl) _ (IHk.out A7 c7 q hq.out w7 (X1.out.tr (Y.out.tr x7.out)) rq.out) ?_)
              rintro e w8 ⟨rfl, x8⟩
              refine ⟨_, rfl, ?_⟩
              try simp only [Act.put, List.setIfInBounds_toArray, List.set_cons_zero, List.set_cons_succ]
              refine wpAny_T (i := 8) (op := Op.assign (Operand.tmp 79)) (t := 3) (d := some 12) (v := ?_) rfl (by decide +kernel) (by decide +kernel) (by decide +kernel) (fun _ _ _ h => h) ?_ ?_
              case refine_2 => (intro _; unfold exec2; go_simp; try with_reducible rfl)
              try simp only [Act.put, List.setIfInBounds_toArray, List.set_cons_zero, List.set_cons_succ]
              refine wpAny_done (by kernel_rfl) ?_ _
              have Y8 := Lib.hid (Y.out.tr (x7.out.tr x8))
              clear x8 x7 rq c0 c1' c2 c3 c4 c5
              go_simp
              by_cases hbb : bb < 0
              · rw [if_pos hbb] at HN2
                go_wp2_with (fail)
                go_roundw
                case rel => exact ⟨k + 1, fv, by go_num, rfl, by omega, HN2, Y8⟩
                case measure => simp [intOf]; omega
              · rw [if_neg hbb] at HN2
                by_cases hfb : fv < bb
                · rw [if_pos hfb] at HN2
                  go_wp2_with (fail)
                  go_roundw
                  case rel => exact ⟨k + 1, fv, by go_num, rfl, by omega, HN2, Y8⟩
                  case measure => simp [intOf]; omega
                · rw [if_neg hfb] at HN2
                  go_wp2_with (fail)
                  go_roundw
                  case rel => exact ⟨k + 1, bb, by go_num, rfl, by omega, HN2, Y8⟩
                  case measure => simp [intOf]; omega
    · obtain rfl : k = n := by omega
      have q1 : ¬ (k : Int) < (k : Int) := by omega
      have HN : Hid (bb = bs) := by
        have h := HS.out
        unfold restF at h
        rw [List.drop_of_length_le (by rw [List.length_range]; omega)] at h
        exact h
      obtain rfl := HN.out
      go_wp2_with (fail)
      go_ret
      exact ⟨rfl, X1.out.tr Y.out⟩
set_option maxRecDepth 100000 in
set_option maxHeartbeats 8000000 in
theorem best3_whole (i : InstP) (us : List Value) (P : Option Addr) (c : Nat) (q : List Nat) (w : World) (H : RInst w us i) (hc : checkP i = 0) (hk : i.kind = 3) (hP : RdI w P (intsN (0 :: q))) (hl : (0 :: q).Perm (List.range i.cost.length)) :
    Calls Tryd.prog 36 #[.agg (List.toArray us), .slice P i.cost.length c] w fun e w' => e = .returned (.int .i64 (pathT i.cost 0 q)) ∧ Ext w w' := by
  have CO := fun (W : World) (x : Ext w W) => cost3_any i us P c q W (H.ext x) hc hk (hP.ext x) hl
  have hnn : i.n = (i.cost.length : Int) := (square_ok hc (by omega)).len.symm
  generalize pathT i.cost 0 q = cv at *
  clear hl hP hc
  obtain ⟨kind, nn, cap, xw, xv, co⟩ := i
  obtain ⟨A, a, B, b, D, d, rfl, -, -, -⟩ := H
  simp only at *
  subst hk hnn
  replace CO := Lib.hid CO
  have hb : ((co.length : Int) == (co.length : Int)) = true := by simp
  go_enter Tryd.func36, Tryd.ntmps36
  go_wp2_with (fail)
  refine (CO.out _ (by (repeat (first | assumption | exact Ext.rf _ | apply Ext.drew | apply Ext.drewN | apply Ext.alloc)))).mono ?_
  rintro e w1 ⟨rfl, x1⟩
  have X1 := Lib.hid (Ext.tr (a := w) (by (repeat (first | assumption | exact Ext.rf _ | apply Ext.drew | apply Ext.drewN | apply Ext.alloc))) x1)
  clear x1
  go_wp2_with (fail)
  go_ret
  exact ⟨rfl, X1.out⟩
theorem whole_perm {rows : List (List Int)} {p : List Int} {m last : Nat} {cost : Int} {l : List Nat} (h1 : 1 ≤ rows.length) (W : WalkOk rows p m last cost l) (hlen : l.length = rows.length - 1) : (0 :: l).Perm (List.range rows.length) := by
  have hm := W.len
  have he : memsM m = [] := List.eq_nil_of_length_eq_zero (by omega)
  refine (List.perm_ext_iff_of_nodup (List.nodup_cons.2 ⟨fun h => (W.inn 0 h).2 rfl, W.nodup⟩) List.nodup_range).2 fun x => ?_
  rw [List.mem_range]
  constructor
  · intro hx
    rcases List.mem_cons.1 hx with rfl | hx
    · omega
    · exact (W.inn x hx).1
  · intro hx
    by_cases h0 : x = 0
    · simp [h0]
    · by_cases hl : x ∈ l
      · exact List.mem_cons_of_mem _ hl
      · have := (W.rest x).2 ⟨⟨hx, h0⟩, hl⟩
        rw [he] at this
        cases this
theorem best3_any (i : InstP) (us : List Value) (hc : checkP i = 0) (hk : i.kind = 3) : ∀ (f : Nat) (P : Option Addr) (c : Nat) (p : List Int) (m last : Nat) (cost : Int) (w : World), walkP i.cost p = some (m, last, cost) → f = i.cost.length - 1 - p.length → RInst w us i → RdI w P (0 :: p) →
    Calls Tryd.prog 36 #[.agg (List.toArray us), .slice P (0 :: p).length c] w fun e w' => e = .returned (.int .i64 (bestT i.cost f p)) ∧ Ext w w'
  | 0, P, c, p, m, last, cost, w => fun hp hf H hP => by
    have sq := square_ok hc (by omega)
    have rok := rows_ok sq
    obtain ⟨l, W⟩ := walk_ok rok.n1 rok.n2 hp
    have hlen := W.len
    have h1 := rok.n1
    have hpl : p.length = l.length := by rw [W.eq, intsN_len]
    have e : bestT i.cost 0 p = pathT i.cost 0 l := by
      show pathT i.cost 0 (p.map Int.toNat) = _
      rw [W.eq, toNat_ints]
    have hpm := whole_perm h1 W (by omega)
    rw [e, show (0 :: p).length = i.cost.length by simp; omega]
    have hP' : RdI w P (intsN (0 :: l)) := by
      have e2 : intsN (0 :: l) = 0 :: p := by rw [W.eq]; rfl
      rw [e2]
      exact hP
    exact best3_whole i us P c l w H hc hk hP' hpm
  | f + 1, P, c, p, m, last, cost, w => fun hp hf H hP => by
    have sq := square_ok hc (by omega)
    have rok := rows_ok sq
    have h24 := rok.n2
    have h1 := rok.n1
    obtain ⟨l, W⟩ := walk_ok h1 h24 hp
    have hlen := W.len
    have hsub := W.sub
    have hpl : p.length = l.length := by rw [W.eq, intsN_len]
    have hmem : ∀ k, k < i.cost.length → (k ∈ memsM m ↔ m.testBit k = true) := fun k hk => memsM_bits hsub (by omega) hk
    have e2 : intsN (0 :: l) = 0 :: p := by rw [W.eq]; rfl
    have hP' : RdI w P (intsN (0 :: l)) := by
      rw [e2]
      exact hP
    have elen : (0 :: p).length = (0 :: l).length := by simp [hpl]
    rw [elen]
    refine best3_more i us P c (0 :: l) w H hk hP' i.cost.length m sq.len.symm h24 (by simp; omega) (by simp) _ (fun x => bestT i.cost f (p ++ [x])) (fun k hk => ?_) ?_ (fun k hk hb => ?_) ?_
    · rw [← hmem k hk, W.rest k, List.mem_cons]
      constructor
      · rintro ⟨⟨_, a⟩, b⟩ (h | h)
        · exact a h
        · exact b h
      · intro h
        exact ⟨⟨hk, fun a => h (.inl a)⟩, fun b => h (.inr b)⟩
    · have e : restF m i.cost.length 0 = memsM m := by
        unfold restF
        rw [List.drop_zero, ← memsM_range hsub (by omega)]
      rw [e]
      show _ = leastF _ (-1) (match walkP i.cost p with | none => [] | some (m, _, _) => intsN (memsM m))
      rw [hp]
    · have hs := walkP_snoc h1 h24 hp ((hmem k hk).2 hb)
      have h4 := boundT_below (mirror := false) h1 h24 (ends_num rok) (fun h => by cases h) hs
      rw [show i.cost.length - 1 - (p ++ [(k : Int)]).length = f by rw [List.length_append, List.length_singleton]; omega] at h4
      omega
    · rintro k A d q hkn hb rfl W' x hq
      have hs := walkP_snoc h1 h24 hp ((hmem k hkn).2 hb)
      have e3 : intsN (0 :: l) ++ [(k : Int)] = 0 :: (p ++ [(k : Int)]) := by rw [e2]; rfl
      rw [e3] at hq ⊢
      exact best3_any i us hc hk f A d _ _ _ _ W' hs (by rw [List.length_append, List.length_singleton]; omega) (H.ext x) hq
end Go.Proofs.YtleckhbmciiooaaDoor
namespace Go.Proofs.YtleckhbmciiooaaDoor
open Go.RowKit Go.ChangeShapes Go.WideShapes Go.ChangeAt Go.Deep

theorem check_kind {i : InstP} (h : checkP i = 0) : i.kind = 1 ∨ i.kind = 2 ∨ i.kind = 3 := by
  unfold checkP at h
  by_cases hs : sizeP i.kind i.n = 0
  · exact sizeP_kind hs
  · rw [if_neg hs] at h
    exact absurd h hs
theorem rtakes_kind {i : InstP} : rtakesP i 0 = if i.kind = 2 then takesP i 2 else if i.kind = 3 then takesP i 3 else if checkP i ≠ 0 then checkP i else takesP i 1 := by
  unfold rtakesP takesP
  by_cases hc : checkP i = 0
  · rcases check_kind hc with h | h | h <;> simp [hc, h]
  · by_cases h2 : i.kind = 2
    · simp [hc, h2]
    · by_cases h3 : i.kind = 3 <;> simp [hc, h2, h3]
set_option maxRecDepth 100000 in
set_option maxHeartbeats 1000000 in
theorem best_ex (i : InstP) (us : List Value) (w : World) (H : RInst w us i) (lw : i.weight.length ≤ 1000000000) (lv : i.value.length ≤ 1000000000) (hT : Tab w) :
    Calls Tryd.prog 12 #[.agg (List.toArray us)] w (ExPost i (rtakesP i 0) w) := by
  have CH := fun (W : World) (x : Ext w W) => check_any i us W (H.ext x) lw lv
  have KX := fun (W : World) (x : Ext w W) => knap_ex i us W (H.ext x) lw lv (hT.ext x)
  have AX := fun (W : World) (x : Ext w W) => asg_ex i us W (H.ext x) lw lv
  have TX := fun (W : World) (x : Ext w W) => tour_ex i us W (H.ext x) lw lv
  have RK := rtakes_kind (i := i)
  have PK : ∀ (t : Int) (W W' : World) (e : Ending), Ext w W → ExPost i t W e W' → ∃ A n c v r, e = .returned (.tuple #[.slice A n c, .int .i64 v, .int .i64 r]) ∧ (∀ W2, Ext W' W2 → ExPost i t w e W2) := by
    rintro t W W' e X (⟨h, rfl, x⟩ | ⟨h, A, xs, c, v, rfl, h1, h2, h3, h4, x⟩)
    · exact ⟨none, 0, 0, 0, t, rfl, fun W2 y => .inl ⟨h, rfl, (X.tr x).tr y⟩⟩
    · exact ⟨A, xs.length, c, v, 0, rfl, fun W2 y => .inr ⟨h, A, xs, c, v, rfl, h1.ext y, h2, h3, h4, (X.tr x).tr y⟩⟩
  generalize rtakesP i 0 = t0 at *
  obtain ⟨t1, ht1⟩ : ∃ t1, Hid (takesP i 1 = t1) := ⟨_, rfl⟩
  obtain ⟨t2, ht2⟩ : ∃ t2, Hid (takesP i 2 = t2) := ⟨_, rfl⟩
  obtain ⟨t3, ht3⟩ : ∃ t3, Hid (takesP i 3 = t3) := ⟨_, rfl⟩
  obtain ⟨cc, hcc⟩ : ∃ cc, Hid (checkP i = cc) := ⟨_, rfl⟩
  rw [ht1.out] at KX
  rw [ht2.out] at AX
  rw [ht3.out] at TX
  rw [hcc.out] at CH
  rw [ht1.out, ht2.out, ht3.out, hcc.out] at RK
  obtain ⟨P, hP⟩ : ∃ P : Int → World → Ending → World → Prop, P = ExPost i := ⟨_, rfl⟩
  rw [← hP] at KX AX TX PK ⊢
  have BAD : Hid (∀ t W, t ≠ 0 → Ext w W → P t w (.returned (.tuple #[.slice none 0 0, .int .i64 0, .int .i64 t])) W) := fun t W h x => by rw [hP]; exact .inl ⟨h, rfl, x⟩
  clear ht1 ht2 ht3 hcc hP lw lv hT
  obtain ⟨kind, nn, cap, xw, xv, co⟩ := i
  obtain ⟨A, a, B, b, D, d, rfl, -, -, -⟩ := H
  simp only at *
  have B1 : Hid (Blk (w.alloc (.cells #[.int .i64 kind, .int .i64 nn, .int .i64 cap, .slice A xw.length a, .slice B xv.length b, .slice D co.length d] 25)) w.heap.size 25 #[.int .i64 kind, .int .i64 nn, .int .i64 cap, .slice A xw.length a, .slice B xv.length b, .slice D co.length d]) := .new rfl
  replace CH := Lib.hid CH
  replace KX := Lib.hid KX
  replace AX := Lib.hid AX
  replace TX := Lib.hid TX
  replace PK := Lib.hid PK
  go_enter Tryd.func12, Tryd.ntmps12
  by_cases h2 : kind = 2
  · rw [if_pos h2] at RK
    subst RK
    have e2 : (kind == 2) = true := by simpa using h2
    clear h2
    go_wp2_with (fail)
    refine (AX.out _ (by (repeat (first | assumption | exact Ext.rf _ | apply Ext.drew | apply Ext.drewN | apply Ext.alloc)))).mono ?_
    intro e w1 hp
    obtain ⟨A9, n9, c9, v9, r9, rfl, hq⟩ := PK.out _ _ _ _ (by (repeat (first | assumption | exact Ext.rf _ | apply Ext.drew | apply Ext.drewN | apply Ext.alloc))) hp
    replace hq := Lib.hid hq
    clear hp
    go_wp2_with (fail)
    go_ret3
    exact hq.out _ (by (repeat (first | assumption | exact Ext.rf _ | apply Ext.drew | apply Ext.drewN | apply Ext.alloc)))
  · rw [if_neg h2] at RK
    have e2 : (kind == 2) = false := by simpa using h2
    clear h2
    by_cases h3 : kind = 3
    · rw [if_pos h3] at RK
      subst RK
      have e3 : (kind == 3) = true := by simpa using h3
      clear h3
      go_wp2_with (fail)
      refine (TX.out _ (by (repeat (first | assumption | exact Ext.rf _ | apply Ext.drew | apply Ext.drewN | apply Ext.alloc)))).mono ?_
      intro e w1 hp
      obtain ⟨A9, n9, c9, v9, r9, rfl, hq⟩ := PK.out _ _ _ _ (by (repeat (first | assumption | exact Ext.rf _ | apply Ext.drew | apply Ext.drewN | apply Ext.alloc))) hp
      replace hq := Lib.hid hq
      clear hp
      go_wp2_with (fail)
      go_ret3
      exact hq.out _ (by (repeat (first | assumption | exact Ext.rf _ | apply Ext.drew | apply Ext.drewN | apply Ext.alloc)))
    · rw [if_neg h3] at RK
      have e3 : (kind == 3) = false := by simpa using h3
      clear h3
      replace RK := Lib.hid RK
      go_wp2_with (fail)
      refine (CH.out _ (by (repeat (first | assumption | exact Ext.rf _ | apply Ext.drew | apply Ext.drewN | apply Ext.alloc)))).mono ?_
      rintro e w1 ⟨rfl, x1⟩
      replace RK := RK.out
      have X1 := Lib.hid (Ext.tr (a := w) (by (repeat (first | assumption | exact Ext.rf _ | apply Ext.drew | apply Ext.drewN | apply Ext.alloc))) x1)
      have b1 := Lib.hid (B1.out.ext x1)
      by_cases hc : cc = 0
      · rw [if_neg (by simpa using hc)] at RK
        subst RK hc
        have y0 : w1.cell? ⟨w.heap.size, 0, none⟩ = some (.int .i64 kind) := b1.out.cell 0
        have y1 : w1.cell? ⟨w.heap.size, 1, none⟩ = some (.int .i64 nn) := b1.out.cell 1
        have y2 : w1.cell? ⟨w.heap.size, 2, none⟩ = some (.int .i64 cap) := b1.out.cell 2
        have y3 : w1.cell? ⟨w.heap.size, 3, none⟩ = some (.slice A xw.length a) := b1.out.cell 3
        have y4 : w1.cell? ⟨w.heap.size, 4, none⟩ = some (.slice B xv.length b) := b1.out.cell 4
        have y5 : w1.cell? ⟨w.heap.size, 5, none⟩ = some (.slice D co.length d) := b1.out.cell 5
        clear x1 B1
        go_wp2_with (fail)
        refine (KX.out _ (X1.out.tr (by (repeat (first | assumption | exact Ext.rf _ | apply Ext.drew | apply Ext.drewN | apply Ext.alloc))))).mono ?_
        intro e w2 hp
        obtain ⟨A9, n9, c9, v9, r9, rfl, hq⟩ := PK.out _ _ _ _ (X1.out.tr (by (repeat (first | assumption | exact Ext.rf _ | apply Ext.drew | apply Ext.drewN | apply Ext.alloc)))) hp
        replace hq := Lib.hid hq
        clear hp y0 y1 y2 y3 y4 y5
        go_wp2_with (fail)
        go_ret3
        exact hq.out _ (by (repeat (first | assumption | exact Ext.rf _ | apply Ext.drew | apply Ext.drewN | apply Ext.alloc)))
      · rw [if_pos hc] at RK
        subst RK
        have e4 : (t0 != 0) = true := by simpa using hc
        clear x1 B1
        replace hc := Lib.hid hc
        go_wp2_with (fail)
        go_ret3
        exact BAD.out _ _ hc.out (X1.out.tr (by (repeat (first | assumption | exact Ext.rf _ | apply Ext.drew | apply Ext.drewN | apply Ext.alloc))))
/-- what the document's Cost says to a best answer -/
theorem takenL_xB (n m : Nat) (ws : List Int) (h : ws.length = n) : takenL (xB m n) ws = sumB (atF ws) n m := by
  unfold takenL
  rw [sumZip_range _ _ _ (by rw [xB_len, h]), xB_len]
  unfold sumB
  congr 1
  refine List.map_congr_left fun j hj => ?_
  have hj' := List.mem_range.1 hj
  rw [getD_some (xB_get hj')]
  unfold atF
  by_cases hb : m.testBit j = true <;> simp [hb]
theorem leftL_xB (n m : Nat) (vs : List Int) (h : vs.length = n) : leftL (xB m n) vs = sumN (atF vs) n m := by
  unfold leftL
  rw [sumZip_range _ _ _ (by rw [xB_len, h]), xB_len]
  unfold sumN
  congr 1
  refine List.map_congr_left fun j hj => ?_
  have hj' := List.mem_range.1 hj
  rw [getD_some (xB_get hj')]
  unfold atF
  by_cases hb : m.testBit j = true <;> simp [hb]
end Go.Proofs.YtleckhbmciiooaaDoor
namespace Go.Proofs.YtleckhbmciiooaaDoor
open Go.RowKit Go.ChangeShapes Go.WideShapes Go.ChangeAt Go.Deep

def foldB (f : Int → Int) : Int → List Nat → Int
  | b, [] => b
  | b, k :: l => foldB f (pkB b (f (k : Int))) l
def rest1 (k : Nat) : List Nat := (List.range 2).drop k
set_option maxRecDepth 100000 in
set_option maxHeartbeats 4000000 in
theorem best1_more (i : InstP) (us : List Value) (P : Option Addr) (c : Nat) (x : List Int) (w : World) (H : RInst w us i) (hk2 : i.kind = 1) (hP : RdI w P x) (lx : x.length ≤ 1000) (n : Nat) (hn : i.n = n) (n1 : 1 ≤ n) (n64 : n ≤ 64) (hlen : x.length < n) (f : Int → Int)
    (IH : ∀ (k : Nat) (A : Option Addr) (d : Nat) (q : List Int), k < 2 → q = x ++ [(k : Int)] → ∀ W, Ext w W → RdI W A q → Calls Tryd.prog 36 #[.agg (List.toArray us), .slice A q.length d] W fun e w' => e = .returned (.int .i64 (f (k : Int))) ∧ Ext W w') :
    Calls Tryd.prog 36 #[.agg (List.toArray us), .slice P x.length c] w fun e w' => e = .returned (.int .i64 (pkB (pkB (-1) (f 0)) (f 1))) ∧ Ext w w' := by
  have e5 : foldB f (-1) (rest1 0) = pkB (pkB (-1) (f 0)) (f 1) := by first | rfl | simp [rest1, foldB]
  generalize pkB (pkB (-1) (f 0)) (f 1) = bs at *
  have ST : ∀ k, k < 2 → rest1 k = k :: rest1 (k + 1) := fun k hk => by
    unfold rest1; rw [List.drop_eq_getElem_cons (by rw [List.length_range]; exact hk), List.getElem_range]
  have EN : ∀ k, 2 ≤ k → rest1 k = [] := fun k hk => by
    unfold rest1; exact List.drop_of_length_le (by rw [List.length_range]; exact hk)
  obtain ⟨kind, nn, cap, xw, xv, co⟩ := i
  obtain ⟨A, a, B, b, D, d, rfl, -, -, -⟩ := H
  simp only at *
  subst hk2 hn
  have hne : ((x.length : Int) == (n : Int)) = false := by rw [beq_eq_false_iff_ne]; omega
  replace IH := Lib.hid IH
  replace ST := Lib.hid ST
  replace EN := Lib.hid EN
  replace e5 := Lib.hid e5
  replace hP := Lib.hid hP
  have B1 : Hid (Blk (w.alloc (.cells #[.int .i64 1, .int .i64 n, .int .i64 cap, .slice A xw.length a, .slice B xv.length b, .slice D co.length d] 25)) w.heap.size 25 #[.int .i64 1, .int .i64 n, .int .i64 cap, .slice A xw.length a, .slice B xv.length b, .slice D co.length d]) := .new rfl
  have X0 : Hid (Ext w (w.alloc (.cells #[.int .i64 1, .int .i64 n, .int .i64 cap, .slice A xw.length a, .slice B xv.length b, .slice D co.length d] 25))) := (Ext.rf _).alloc _
  obtain ⟨w1, hw1⟩ : ∃ w1, w1 = (w.alloc (.cells #[.int .i64 1, .int .i64 n, .int .i64 cap, .slice A xw.length a, .slice B xv.length b, .slice D co.length d] 25)) := ⟨_, rfl⟩
  have B2 : Hid (Blk w1 w.heap.size 25 #[.int .i64 1, .int .i64 n, .int .i64 cap, .slice A xw.length a, .slice B xv.length b, .slice D co.length d]) := by rw [hw1]; exact B1.out
  have X1 : Hid (Ext w w1) := by rw [hw1]; exact X0.out
  replace hw1 := Lib.hid hw1
  clear B1
  go_enter Tryd.func36, Tryd.ntmps36
  go_wp2_with (fail)
  rw [← hw1.out]
  clear X0
  go_loopw [9, 7] (fun v bv wr => ∃ (k : Nat) (bb : Int), v = .int .i64 k ∧ bv = .int .i64 bb ∧ k ≤ 2 ∧ Hid (foldB f bb (rest1 k) = bs) ∧ Hid (Ext w1 wr)) (fun v _ _ => 2 - (intOf v).toNat)
  case atStart => exact ⟨0, -1, rfl, rfl, by omega, e5, Ext.rf _⟩
  case round =>
    obtain ⟨wo, rfl⟩ : ∃ wo : World, wo = wr := ⟨_, rfl⟩
    obtain ⟨k, bb, rfl, rfl, hk, HS, Y⟩ := hrel
    by_cases hlt : k < 2
    · have HN : Hid (foldB f bb (k :: rest1 (k + 1)) = bs) := by
        have h := HS.out
        rw [ST.out k hlt] at h
        exact h
      have q1 : (k : Int) < 2 := by omega
      have B3 := B2.out.ext Y.out
      have zb3 := B3.lt
      have c0 : wo.cell? ⟨w.heap.size, 0, none⟩ = some (.int .i64 1) := B3.cell 0
      replace B3 := Lib.hid B3
      clear HS
      go_wp2_with (fail)
      go_loopw [11, 10] (fun v uv wr => v = .int .i64 0 ∧ uv = .bool false ∧ wr = wo) (fun _ _ _ => 0)
      case atStart => exact ⟨rfl, rfl, rfl⟩
      case round =>
        obtain ⟨rfl, rfl, hwr⟩ := hrel
        have hwr' : wo = wr := (show wr = wo from hwr).symm
        clear hwr
        subst hwr'
        have HN2 : Hid ((0 ≤ f (k : Int) ∧ (bb < 0 ∨ f (k : Int) < bb) → Hid (foldB f (f (k : Int)) (rest1 (k + 1)) = bs)) ∧ (¬ (0 ≤ f (k : Int) ∧ (bb < 0 ∨ f (k : Int) < bb)) → Hid (foldB f bb (rest1 (k + 1)) = bs))) := by
          have h : foldB f (pkB bb (f (k : Int))) (rest1 (k + 1)) = bs := HN.out
          unfold pkB at h
          exact ⟨fun hh => by rw [if_pos hh] at h; exact h, fun hh => by rw [if_neg hh] at h; exact h⟩
        by_cases hx0 : (0 : Int) < (x.length : Int)
        · have IHk := Lib.hid (fun (A : Option Addr) (d : Nat) (q : List Int) (hq : q = x ++ [(k : Int)]) => IH.out k A d q hlt hq)
          generalize f (k : Int) = fv at *
          clear HN
          have c1' : wo.cell? ⟨w.heap.size, 1, none⟩ = some (.int .i64 n) := B3.out.cell 1
          have c2 : wo.cell? ⟨w.heap.size, 2, none⟩ = some (.int .i64 cap) := B3.out.cell 2
          have c3 : wo.cell? ⟨w.heap.size, 3, none⟩ = some (.slice A xw.length a) := B3.out.cell 3
          have c4 : wo.cell? ⟨w.heap.size, 4, none⟩ = some (.slice B xv.length b) := B3.out.cell 4
          have c5 : wo.cell? ⟨w.heap.size, 5, none⟩ = some (.slice D co.length d) := B3.out.cell 5
          obtain ⟨q, hq⟩ : ∃ q, Hid (q = x ++ [(k : Int)]) := ⟨_, rfl⟩
          have lq : q.length = x.length + 1 := by rw [hq.out]; simp
          replace lq := Lib.hid lq
          go_upto_region 19 with (fail)
          refine wp_region_any (by kernel_rfl) ?_
          change wpAny _ _ _ _ _ _ _ (World.drew _)
          refine wpAny_T (i := 2) (op := Op.move (Operand.tmp 1)) (t := 22) (d := some 74) (v := ?_) rfl (by decide +kernel) (by decide +kernel) (by decide +kernel) (fun _ _ _ h => h) ?_ ?_
          case refine_2 => (intro _; unfold exec2; go_simp; try with_reducible rfl)
          try simp only [Act.put, List.setIfInBounds_toArray, List.set_cons_zero, List.set_cons_succ]
          refine wpAny_T (i := 4) (op := Op.move (Operand.tmp 9)) (t := 3) (d := some 76) (v := ?_) rfl (by decide +kernel) (by decide +kernel) (by decide +kernel) (fun _ _ _ h => h) ?_ ?_
          case refine_2 => (intro _; unfold exec2; go_simp; try with_reducible rfl)
          try simp only [Act.put, List.setIfInBounds_toArray, List.set_cons_zero, List.set_cons_succ]
          refine wpAny_core3 (n := 2) [(0, some 72), (1, some 73), (3, some 75), (5, some 77), (6, some 78)] (fun | 1 => [3] | 3 => [6] | 5 => [6] | _ => []) (Ext wo)
            (VF (fun | 0 => some (.agg #[.int .i64 1, .int .i64 n, .int .i64 cap, .slice A xw.length a, .slice B xv.length b, .slice D co.length d]) | _ => none)
              (fun j v W => (j = 1 → ∃ g, v = .slice (some ⟨g, 0, none⟩) 0 0 ∧ wo.heap.size ≤ g ∧ Blk W g 3 #[]) ∧ (j = 3 → ∃ A c, v = .slice A x.length c ∧ OwI W wo.heap.size A c x) ∧ (j = 5 → ∃ h, v = .slice (some ⟨h, 0, none⟩) 1 1 ∧ Blk W h 3 #[.int .i64 (k : Int)]) ∧ (j = 6 → ∃ A c, v = .slice A q.length c ∧ OwI W wo.heap.size A c q)))
            (fun i W W' => i ≠ 6 → Ext W W') #[true, true, true, true, true, true, true, false, false] (by kernel_rfl) (by kernel_rfl) ?_ ?_ ?_ ((Ext.rf _).drew)
          · intro i j v W W' hkp hv hs
            refine VF.stab1 (fun _ ⟨g1, g3, g8, g9⟩ => ?_) hv
            by_cases hi : i = 6
            · subst hi
              refine ⟨fun h => ?_, fun h => ?_, fun h => ?_, fun h => ?_⟩
              all_goals (subst h; exact absurd hkp (by decide +kernel))
            · have hx := hs hi
              refine ⟨fun h => ?_, fun h => ?_, fun h => ?_, fun h => ?_⟩
              · obtain ⟨g, q1, q2, q3⟩ := g1 h
                exact ⟨g, q1, q2, q3.ext hx⟩
              · obtain ⟨A', c', q1, q2⟩ := g3 h
                exact ⟨A', c', q1, q2.ext hx⟩
              · obtain ⟨h', q1, q2⟩ := g8 h
                exact ⟨h', q1, q2.ext hx⟩
              · obtain ⟨A', c', q1, q2⟩ := g9 h
                exact ⟨A', c', q1, q2.ext hx⟩
          · intro pq hpm u W hRW hD K hK
            have z2 := hRW.size
            simp only [List.mem_cons, List.not_mem_nil, or_false] at hpm
            rcases hpm with rfl | rfl | rfl | rfl | rfl
            · have r0 := keepEL hRW zb3 c0
              have r1 := keepEL hRW zb3 c1'
              have r2 := keepEL hRW zb3 c2
              have r3 := keepEL hRW zb3 c3
              have r4 := keepEL hRW zb3 c4
              have r5 := keepEL hRW zb3 c5
              exact op_ld (T := 25) rfl (.pointer (some ⟨w.heap.size, 0, none⟩)) (by kernel_rfl) (.agg #[.int .i64 1, .int .i64 n, .int .i64 cap, .slice A xw.length a, .slice B xv.length b, .slice D co.length d]) (by go_simp) (hK _ _ (VF.mk rfl) hRW (fun _ => Ext.rf _))
            · exact op_bs0 rfl _ (ibs0_run _) (hK _ _ (VF.mg rfl ⟨fun _ => ⟨_, rfl, z2, .new rfl⟩, (fun h => by cases h), (fun h => by cases h), (fun h => by cases h)⟩) (hRW.alloc _) (fun _ => (Ext.rf _).alloc _))
            · obtain ⟨g, h1, zg, bg⟩ := ((hD 1 (depIn (by kernel_rfl))).g rfl).1 rfl
              obtain ⟨A3, c3, w3, hr3, o3, x3⟩ := run_copy_i W wo.heap.size 22 g x P c bg zg (hP.out.ext ((X1.out.tr Y.out).tr hRW)) (by omega)
              exact op_app rfl (.slice (some ⟨g, 0, none⟩) 0 0) (.slice P x.length c) (Eq.trans (b := u 1) (by kernel_rfl) h1) (by kernel_rfl) _ hr3 (hK _ _ (VF.mg rfl ⟨(fun h => by cases h), fun _ => ⟨A3, c3, rfl, o3⟩, (fun h => by cases h), (fun h => by cases h)⟩) (hRW.tr x3) (fun _ => x3))
            · exact op_bs1 rfl (.int .i64 (k : Int)) (by kernel_rfl) _ (ibs1_run _ _) (hK _ _ (VF.mg rfl ⟨(fun h => by cases h), (fun h => by cases h), fun _ => ⟨_, rfl, .new rfl⟩, (fun h => by cases h)⟩) (hRW.alloc _) (fun _ => (Ext.rf _).alloc _))
            · obtain ⟨A3, c3', h3, o3⟩ := ((hD 3 (depIn (by kernel_rfl))).g rfl).2.1 rfl
              obtain ⟨g8, h8, b8⟩ := ((hD 5 (depIn (by kernel_rfl))).g rfl).2.2.1 rfl
              obtain ⟨A7, c7, w7, hrun, o7, g7, -⟩ := run_app_i W wo.heap.size 22 A3 x.length c3' x [(k : Int)] (some ⟨g8, 0, none⟩) 1 rfl o3 (.blk b8 rfl) (by simp; omega) hRW.size
              have x7 : Ext wo w7 := hRW.grow g7 (fun k hk => (o3.lt k hk).1)
              rw [← hq.out] at hrun o7
              exact op_app rfl (.slice A3 x.length c3') (.slice (some ⟨g8, 0, none⟩) 1 1) (Eq.trans (b := u 3) (by kernel_rfl) h3) (Eq.trans (b := u 5) (by kernel_rfl) h8) _ hrun (hK _ _ (VF.mg rfl ⟨(fun h => by cases h), (fun h => by cases h), (fun h => by cases h), fun _ => ⟨A7, c7, rfl, o7⟩⟩) x7 (fun h => absurd rfl h))
          · intro u w7 hRW hV
            have h0 := (hV (0, some 72) (by simp) rfl).k rfl
            obtain ⟨A7, c7, h9, o7⟩ := ((hV (6, some 78) (by simp) rfl).g rfl).2.2.2 rfl
            simp only [putAll, h0, h9]
            have rq := Lib.hid o7.read
            have x7 := Lib.hid hRW
            clear h0 h9 hV o7 hRW
            try simp only [Act.put, List.setIfInBounds_toArray, List.set_cons_zero, List.set_cons_succ]
            refine wpAny_next 7 (by decide +kernel) (op_call (f := 36) (xs := #[Operand.tmp 72, Operand.tmp 78]) (ts := #[25, 22]) (t := 3) (d := some 79) rfl #[.agg #[.int .i64 1, .int .i64 n, .int .i64 cap, .slice A xw.length a, .slice B xv.length b, .slice D co.length d], .slice A7 q.length c7] (by go_simp) (by kernel_rfl) _ (IHk.out A7 c7 q hq.out w7 (X1.out.tr (Y.out.tr x7.out)) rq.out) ?_)
            rintro e w8 ⟨rfl, x8⟩
            refine ⟨_, rfl, ?_⟩
            try simp only [Act.put, List.setIfInBounds_toArray, List.set_cons_zero, List.set_cons_succ]
            refine wpAny_T (i := 8) (op := Op.assign (Operand.tmp 79)) (t := 3) (d := some 12) (v := ?_) rfl (by decide +kernel) (by decide +kernel) (by decide +kernel) (fun _ _ _ h => h) ?_ ?_
            case refine_2 => (intro _; unfold exec2; go_simp; try with_reducible rfl)
            try simp only [Act.put, List.setIfInBounds_toArray, List.set_cons_zero, List.set_cons_succ]
            refine wpAny_done (by kernel_rfl) ?_ _
            have Y8 := Lib.hid (Y.out.tr (x7.out.tr x8))
            clear x8 x7 rq c0 c1' c2 c3 c4 c5
            go_simp
            by_cases hfv : 0 ≤ fv
            · by_cases hbb : bb < 0
              · have HN3 := HN2.out.1 ⟨hfv, .inl hbb⟩
                clear HN2
                go_wp2_with (fail)
                go_roundw
                case rel => exact ⟨k + 1, fv, by go_num, rfl, by omega, HN3, Y8⟩
                case measure => simp [intOf]; omega
              · by_cases hfb : fv < bb
                · have HN3 := HN2.out.1 ⟨hfv, .inr hfb⟩
                  clear HN2
                  go_wp2_with (fail)
                  go_roundw
                  case rel => exact ⟨k + 1, fv, by go_num, rfl, by omega, HN3, Y8⟩
                  case measure => simp [intOf]; omega
                · have HN3 := HN2.out.2 (by omega)
                  clear HN2
                  go_wp2_with (fail)
                  go_roundw
                  case rel => exact ⟨k + 1, bb, by go_num, rfl, by omega, HN3, Y8⟩
                  case measure => simp [intOf]; omega
            · have HN3 := HN2.out.2 (by omega)
              clear HN2
              go_wp2_with (fail)
              go_roundw
              case rel => exact ⟨k + 1, bb, by go_num, rfl, by omega, HN3, Y8⟩
              case measure => simp [intOf]; omega
        · have IHk := Lib.hid (fun (A : Option Addr) (d : Nat) (q : List Int) (hq : q = x ++ [(k : Int)]) => IH.out k A d q hlt hq)
          generalize f (k : Int) = fv at *
          clear HN
          have c1' : wo.cell? ⟨w.heap.size, 1, none⟩ = some (.int .i64 n) := B3.out.cell 1
          have c2 : wo.cell? ⟨w.heap.size, 2, none⟩ = some (.int .i64 cap) := B3.out.cell 2
          have c3 : wo.cell? ⟨w.heap.size, 3, none⟩ = some (.slice A xw.length a) := B3.out.cell 3
          have c4 : wo.cell? ⟨w.heap.size, 4, none⟩ = some (.slice B xv.length b) := B3.out.cell 4
          have c5 : wo.cell? ⟨w.heap.size, 5, none⟩ = some (.slice D co.length d) := B3.out.cell 5
          obtain ⟨q, hq⟩ : ∃ q, Hid (q = x ++ [(k : Int)]) := ⟨_, rfl⟩
          have lq : q.length = x.length + 1 := by rw [hq.out]; simp
          replace lq := Lib.hid lq
          go_upto_region 19 with (fail)
          refine wp_region_any (by kernel_rfl) ?_
          change wpAny _ _ _ _ _ _ _ (World.drew _)
          refine wpAny_T (i := 2) (op := Op.move (Operand.tmp 1)) (t := 22) (d := some 74) (v := ?_) rfl (by decide +kernel) (by decide +kernel) (by decide +kernel) (fun _ _ _ h => h) ?_ ?_
          case refine_2 => (intro _; unfold exec2; go_simp; try with_reducible rfl)
          try simp only [Act.put, List.setIfInBounds_toArray, List.set_cons_zero, List.set_cons_succ]
          refine wpAny_T (i := 4) (op := Op.move (Operand.tmp 9)) (t := 3) (d := some 76) (v := ?_) rfl (by decide +kernel) (by decide +kernel) (by decide +kernel) (fun _ _ _ h => h) ?_ ?_
          case refine_2 => (intro _; unfold exec2; go_simp; try with_reducible rfl)
          try simp only [Act.put, List.setIfInBounds_toArray, List.set_cons_zero, List.set_cons_succ]
          refine wpAny_core3 (n := 2) [(0, some 72), (1, some 73), (3, some 75), (5, some 77), (6, some 78)] (fun | 1 => [3] | 3 => [6] | 5 => [6] | _ => []) (Ext wo)
            (VF (fun | 0 => some (.agg #[.int .i64 1, .int .i64 n, .int .i64 cap, .slice A xw.length a, .slice B xv.length b, .slice D co.length d]) | _ => none)
              (fun j v W => (j = 1 → ∃ g, v = .slice (some ⟨g, 0, none⟩) 0 0 ∧ wo.heap.size ≤ g ∧ Blk W g 3 #[]) ∧ (j = 3 → ∃ A c, v = .slice A x.length c ∧ OwI W wo.heap.size A c x) ∧ (j = 5 → ∃ h, v = .slice (some ⟨h, 0, none⟩) 1 1 ∧ Blk W h 3 #[.int .i64 (k : Int)]) ∧ (j = 6 → ∃ A c, v = .slice A q.length c ∧ OwI W wo.heap.size A c q)))
            (fun i W W' => i ≠ 6 → Ext W W') #[true, true, true, true, true, true, true, false, false] (by kernel_rfl) (by kernel_rfl) ?_ ?_ ?_ ((Ext.rf _).drew)
          · intro i j v W W' hkp hv hs
            refine VF.stab1 (fun _ ⟨g1, g3, g8, g9⟩ => ?_) hv
            by_cases hi : i = 6
            · subst hi
              refine ⟨fun h => ?_, fun h => ?_, fun h => ?_, fun h => ?_⟩
              all_goals (subst h; exact absurd hkp (by decide +kernel))
            · have hx := hs hi
              refine ⟨fun h => ?_, fun h => ?_, fun h => ?_, fun h => ?_⟩
              · obtain ⟨g, q1, q2, q3⟩ := g1 h
                exact ⟨g, q1, q2, q3.ext hx⟩
              · obtain ⟨A', c', q1, q2⟩ := g3 h
                exact ⟨A', c', q1, q2.ext hx⟩
              · obtain ⟨h', q1, q2⟩ := g8 h
                exact ⟨h', q1, q2.ext hx⟩
              · obtain ⟨A', c', q1, q2⟩ := g9 h
                exact ⟨A', c', q1, q2.ext hx⟩
          · intro pq hpm u W hRW hD K hK
            have z2 := hRW.size
            simp only [List.mem_cons, List.not_mem_nil, or_false] at hpm
            rcases hpm with rfl | rfl | rfl | rfl | rfl
            · have r0 := keepEL hRW zb3 c0
              have r1 := keepEL hRW zb3 c1'
              have r2 := keepEL hRW zb3 c2
              have r3 := keepEL hRW zb3 c3
              have r4 := keepEL hRW zb3 c4
              have r5 := keepEL hRW zb3 c5
              exact op_ld (T := 25) rfl (.pointer (some ⟨w.heap.size, 0, none⟩)) (by kernel_rfl) (.agg #[.int .i64 1, .int .i64 n, .int .i64 cap, .slice A xw.length a, .slice B xv.length b, .slice D co.length d]) (by go_simp) (hK _ _ (VF.mk rfl) hRW (fun _ => Ext.rf _))
            · exact op_bs0 rfl _ (ibs0_run _) (hK _ _ (VF.mg rfl ⟨fun _ => ⟨_, rfl, z2, .new rfl⟩, (fun h => by cases h), (fun h => by cases h), (fun h => by cases h)⟩) (hRW.alloc _) (fun _ => (Ext.rf _).alloc _))
            · obtain ⟨g, h1, zg, bg⟩ := ((hD 1 (depIn (by kernel_rfl))).g rfl).1 rfl
              obtain ⟨A3, c3, w3, hr3, o3, x3⟩ := run_copy_i W wo.heap.size 22 g x P c bg zg (hP.out.ext ((X1.out.tr Y.out).tr hRW)) (by omega)
              exact op_app rfl (.slice (some ⟨g, 0, none⟩) 0 0) (.slice P x.length c) (Eq.trans (b := u 1) (by kernel_rfl) h1) (by kernel_rfl) _ hr3 (hK _ _ (VF.mg rfl ⟨(fun h => by cases h), fun _ => ⟨A3, c3, rfl, o3⟩, (fun h => by cases h), (fun h => by cases h)⟩) (hRW.tr x3) (fun _ => x3))
            · exact op_bs1 rfl (.int .i64 (k : Int)) (by kernel_rfl) _ (ibs1_run _ _) (hK _ _ (VF.mg rfl ⟨(fun h => by cases h), (fun h => by cases h), fun _ => ⟨_, rfl, .new rfl⟩, (fun h => by cases h)⟩) (hRW.alloc _) (fun _ => (Ext.rf _).alloc _))
            · obtain ⟨A3, c3', h3, o3⟩ := ((hD 3 (depIn (by kernel_rfl))).g rfl).2.1 rfl
              obtain ⟨g8, h8, b8⟩ := ((hD 5 (depIn (by kernel_rfl))).g rfl).2.2.1 rfl
              obtain ⟨A7, c7, w7, hrun, o7, g7, -⟩ := run_app_i W wo.heap.size 22 A3 x.length c3' x [(k : Int)] (some ⟨g8, 0, none⟩) 1 rfl o3 (.blk b8 rfl) (by simp; omega) hRW.size
              have x7 : Ext wo w7 := hRW.grow g7 (fun k hk => (o3.lt k hk).1)
              rw [← hq.out] at hrun o7
              exact op_app rfl (.slice A3 x.length c3') (.slice (some ⟨g8, 0, none⟩) 1 1) (Eq.trans (b := u 3) (by kernel_rfl) h3) (Eq.trans (b := u 5) (by kernel_rfl) h8) _ hrun (hK _ _ (VF.mg rfl ⟨(fun h => by cases h), (fun h => by cases h), (fun h => by cases h), fun _ => ⟨A7, c7, rfl, o7⟩⟩) x7 (fun h => absurd rfl h))
          · intro u w7 hRW hV
            have h0 := (hV (0, some 72) (by simp) rfl).k rfl
            obtain ⟨A7, c7, h9, o7⟩ := ((hV (6, some 78) (by simp) rfl).g rfl).2.2.2 rfl
            simp only [putAll, h0, h9]
            have rq := Lib.hid o7.read
            have x7 := Lib.hid hRW
            clear h0 h9 hV o7 hRW
            try simp only [Act.put, List.setIfInBounds_toArray, List.set_cons_zero, List.set_cons_succ]
            refine wpAny_next 7 (by decide +kernel) (op_call (f := 36) (xs := #[Operand.tmp 72, Operand.tmp 78]) (ts := #[25, 22]) (t := 3) (d := some 79) rfl #[.agg #[.int .i64 1, .int .i64 n, .int .i64 cap, .slice A xw.length a, .slice B xv.length b, .slice D co.length d], .slice A7 q.length c7] (by go_simp) (by kernel_rfl) _ (IHk.out A7 c7 q hq.out w7 (X1.out.tr (Y.out.tr x7.out)) rq.out) ?_)
            rintro e w8 ⟨rfl, x8⟩
            refine ⟨_, rfl, ?_⟩
            try simp only [Act.put, List.setIfInBounds_toArray, List.set_cons_zero, List.set_cons_succ]
            refine wpAny_T (i := 8) (op := Op.assign (Operand.tmp 79)) (t := 3) (d := some 12) (v := ?_) rfl (by decide +kernel) (by decide +kernel) (by decide +kernel) (fun _ _ _ h => h) ?_ ?_
            case refine_2 => (intro _; unfold exec2; go_simp; try with_reducible rfl)
            try simp only [Act.put, List.setIfInBounds_toArray, List.set_cons_zero, List.set_cons_succ]
            refine wpAny_done (by kernel_rfl) ?_ _
            have Y8 := Lib.hid (Y.out.tr (x7.out.tr x8))
            clear x8 x7 rq c0 c1' c2 c3 c4 c5
            go_simp
            by_cases hfv : 0 ≤ fv
            · by_cases hbb : bb < 0
              · have HN3 := HN2.out.1 ⟨hfv, .inl hbb⟩
                clear HN2
                go_wp2_with (fail)
                go_roundw
                case rel => exact ⟨k + 1, fv, by go_num, rfl, by omega, HN3, Y8⟩
                case measure => simp [intOf]; omega
              · by_cases hfb : fv < bb
                · have HN3 := HN2.out.1 ⟨hfv, .inr hfb⟩
                  clear HN2
                  go_wp2_with (fail)
                  go_roundw
                  case rel => exact ⟨k + 1, fv, by go_num, rfl, by omega, HN3, Y8⟩
                  case measure => simp [intOf]; omega
                · have HN3 := HN2.out.2 (by omega)
                  clear HN2
                  go_wp2_with (fail)
                  go_roundw
                  case rel => exact ⟨k + 1, bb, by go_num, rfl, by omega, HN3, Y8⟩
                  case measure => simp [intOf]; omega
            · have HN3 := HN2.out.2 (by omega)
              clear HN2
              go_wp2_with (fail)
              go_roundw
              case rel => exact ⟨k + 1, bb, by go_num, rfl, by omega, HN3, Y8⟩
              case measure => simp [intOf]; omega
    · have hkm : k = 2 := by omega
      have q1 : ¬ (k : Int) < 2 := by omega
      have HN : Hid (bb = bs) := by
        have h := HS.out
        rw [EN.out k (by omega)] at h
        exact h
      obtain rfl := HN.out
      replace hkm := Lib.hid hkm
      go_wp2_with (fail)
      go_ret
      exact ⟨rfl, X1.out.tr Y.out⟩
def rest3 (k : Nat) : List Nat := if k = 0 then [0] else []
set_option maxRecDepth 100000 in
set_option maxHeartbeats 4000000 in
theorem best3_root (i : InstP) (us : List Value) (P : Option Addr) (c : Nat) (x : List Int) (w : World) (H : RInst w us i) (hk2 : i.kind = 3) (hP : RdI w P x) (lx : x.length ≤ 1000) (hx0 : x = []) (n : Nat) (hn : i.n = n) (n1 : 1 ≤ n) (n64 : n ≤ 64) (hlen : x.length < n) (f : Int → Int)
    (IH : ∀ (k : Nat) (A : Option Addr) (d : Nat) (q : List Int), k = 0 → q = x ++ [(k : Int)] → ∀ W, Ext w W → RdI W A q → Calls Tryd.prog 36 #[.agg (List.toArray us), .slice A q.length d] W fun e w' => e = .returned (.int .i64 (f (k : Int))) ∧ Ext W w') :
    Calls Tryd.prog 36 #[.agg (List.toArray us), .slice P x.length c] w fun e w' => e = .returned (.int .i64 (pkB (-1) (f 0))) ∧ Ext w w' := by
  have e5 : foldB f (-1) (rest3 0) = pkB (-1) (f 0) := by first | rfl | simp [rest3, foldB]
  generalize pkB (-1) (f 0) = bs at *
  have ST : ∀ k, k < n → rest3 k = (if k = 0 then 0 :: rest3 1 else rest3 (k + 1)) := fun k hk => by
    unfold rest3; by_cases e : k = 0 <;> simp [e]
  have EN : ∀ k, n ≤ k → rest3 k = [] := fun k hk => by
    unfold rest3; rw [if_neg (by omega)]
  obtain ⟨kind, nn, cap, xw, xv, co⟩ := i
  obtain ⟨A, a, B, b, D, d, rfl, -, -, -⟩ := H
  simp only at *
  subst hk2 hn
  have hne : ((x.length : Int) == (n : Int)) = false := by rw [beq_eq_false_iff_ne]; omega
  have hx1 : x.length = 0 := by rw [hx0]; rfl
  have hz0 : ((x.length : Int) == 0) = true := by rw [hx1]; rfl
  have hz1 : ¬ (0 : Int) < (x.length : Int) := by omega
  replace hx1 := Lib.hid hx1
  replace IH := Lib.hid IH
  replace ST := Lib.hid ST
  replace EN := Lib.hid EN
  replace e5 := Lib.hid e5
  replace hP := Lib.hid hP
  replace hx0 := Lib.hid hx0
  have B1 : Hid (Blk (w.alloc (.cells #[.int .i64 3, .int .i64 n, .int .i64 cap, .slice A xw.length a, .slice B xv.length b, .slice D co.length d] 25)) w.heap.size 25 #[.int .i64 3, .int .i64 n, .int .i64 cap, .slice A xw.length a, .slice B xv.length b, .slice D co.length d]) := .new rfl
  have X0 : Hid (Ext w (w.alloc (.cells #[.int .i64 3, .int .i64 n, .int .i64 cap, .slice A xw.length a, .slice B xv.length b, .slice D co.length d] 25))) := (Ext.rf _).alloc _
  obtain ⟨w1, hw1⟩ : ∃ w1, w1 = (w.alloc (.cells #[.int .i64 3, .int .i64 n, .int .i64 cap, .slice A xw.length a, .slice B xv.length b, .slice D co.length d] 25)) := ⟨_, rfl⟩
  have B2 : Hid (Blk w1 w.heap.size 25 #[.int .i64 3, .int .i64 n, .int .i64 cap, .slice A xw.length a, .slice B xv.length b, .slice D co.length d]) := by rw [hw1]; exact B1.out
  have X1 : Hid (Ext w w1) := by rw [hw1]; exact X0.out
  replace hw1 := Lib.hid hw1
  clear B1
  go_enter Tryd.func36, Tryd.ntmps36
  go_wp2_with (fail)
  rw [← hw1.out]
  clear X0
  go_loopw [9, 7] (fun v bv wr => ∃ (k : Nat) (bb : Int), v = .int .i64 k ∧ bv = .int .i64 bb ∧ k ≤ n ∧ Hid (foldB f bb (rest3 k) = bs) ∧ Hid (Ext w1 wr)) (fun v _ _ => n - (intOf v).toNat)
  case atStart => exact ⟨0, -1, rfl, rfl, by omega, e5, Ext.rf _⟩
  case round =>
    obtain ⟨wo, rfl⟩ : ∃ wo : World, wo = wr := ⟨_, rfl⟩
    obtain ⟨k, bb, rfl, rfl, hk, HS, Y⟩ := hrel
    by_cases hlt : k < n
    · have HN : Hid (foldB f bb (if k = 0 then 0 :: rest3 1 else rest3 (k + 1)) = bs) := by
        have h := HS.out
        rw [ST.out k hlt] at h
        exact h
      have q1 : (k : Int) < (n : Int) := by omega
      have B3 := B2.out.ext Y.out
      have zb3 := B3.lt
      have c0 : wo.cell? ⟨w.heap.size, 0, none⟩ = some (.int .i64 3) := B3.cell 0
      replace B3 := Lib.hid B3
      clear HS
      go_wp2_with (fail)
      go_loopw [11, 10] (fun v uv wr => v = .int .i64 0 ∧ uv = .bool false ∧ wr = wo) (fun _ _ _ => 0)
      case atStart => exact ⟨rfl, rfl, rfl⟩
      case round =>
        obtain ⟨rfl, rfl, hwr⟩ := hrel
        have hwr' : wo = wr := (show wr = wo from hwr).symm
        clear hwr
        subst hwr'
        by_cases hk0 : k = 0
        · have HM : Hid (foldB f bb (0 :: rest3 1) = bs) := by
            have h := HN.out
            rw [if_pos hk0] at h
            exact h
          have ek : (k : Int) = 0 := by omega
          have k1 : k + 1 = 1 := by omega
          have HN2 : Hid ((0 ≤ f (k : Int) ∧ (bb < 0 ∨ f (k : Int) < bb) → Hid (foldB f (f (k : Int)) (rest3 (k + 1)) = bs)) ∧ (¬ (0 ≤ f (k : Int) ∧ (bb < 0 ∨ f (k : Int) < bb)) → Hid (foldB f bb (rest3 (k + 1)) = bs))) := by
            have h : foldB f (pkB bb (f (k : Int))) (rest3 (k + 1)) = bs := by rw [ek, k1]; exact HM.out
            unfold pkB at h
            exact ⟨fun hh => by rw [if_pos hh] at h; exact h, fun hh => by rw [if_neg hh] at h; exact h⟩
          replace k1 := Lib.hid k1
          clear HM
          have IHk := Lib.hid (fun (A : Option Addr) (d : Nat) (q : List Int) (hq : q = x ++ [(k : Int)]) => IH.out k A d q hk0 hq)
          generalize f (k : Int) = fv at *
          clear HN
          have c1' : wo.cell? ⟨w.heap.size, 1, none⟩ = some (.int .i64 n) := B3.out.cell 1
          have c2 : wo.cell? ⟨w.heap.size, 2, none⟩ = some (.int .i64 cap) := B3.out.cell 2
          have c3 : wo.cell? ⟨w.heap.size, 3, none⟩ = some (.slice A xw.length a) := B3.out.cell 3
          have c4 : wo.cell? ⟨w.heap.size, 4, none⟩ = some (.slice B xv.length b) := B3.out.cell 4
          have c5 : wo.cell? ⟨w.heap.size, 5, none⟩ = some (.slice D co.length d) := B3.out.cell 5
          obtain ⟨q, hq⟩ : ∃ q, Hid (q = x ++ [(k : Int)]) := ⟨_, rfl⟩
          have lq : q.length = x.length + 1 := by rw [hq.out]; simp
          replace lq := Lib.hid lq
          have ekn : ((k : Int) != 0) = false := by simp [ek]
          replace ek := Lib.hid ek
          replace hk0 := Lib.hid hk0
          go_upto_region 19 with (fail)
          refine wp_region_any (by kernel_rfl) ?_
          change wpAny _ _ _ _ _ _ _ (World.drew _)
          refine wpAny_T (i := 2) (op := Op.move (Operand.tmp 1)) (t := 22) (d := some 74) (v := ?_) rfl (by decide +kernel) (by decide +kernel) (by decide +kernel) (fun _ _ _ h => h) ?_ ?_
          case refine_2 => (intro _; unfold exec2; go_simp; try with_reducible rfl)
          try simp only [Act.put, List.setIfInBounds_toArray, List.set_cons_zero, List.set_cons_succ]
          refine wpAny_T (i := 4) (op := Op.move (Operand.tmp 9)) (t := 3) (d := some 76) (v := ?_) rfl (by decide +kernel) (by decide +kernel) (by decide +kernel) (fun _ _ _ h => h) ?_ ?_
          case refine_2 => (intro _; unfold exec2; go_simp; try with_reducible rfl)
          try simp only [Act.put, List.setIfInBounds_toArray, List.set_cons_zero, List.set_cons_succ]
          refine wpAny_core3 (n := 2) [(0, some 72), (1, some 73), (3, some 75), (5, some 77), (6, some 78)] (fun | 1 => [3] | 3 => [6] | 5 => [6] | _ => []) (Ext wo)
            (VF (fun | 0 => some (.agg #[.int .i64 3, .int .i64 n, .int .i64 cap, .slice A xw.length a, .slice B xv.length b, .slice D co.length d]) | _ => none)
              (fun j v W => (j = 1 → ∃ g, v = .slice (some ⟨g, 0, none⟩) 0 0 ∧ wo.heap.size ≤ g ∧ Blk W g 3 #[]) ∧ (j = 3 → ∃ A c, v = .slice A x.length c ∧ OwI W wo.heap.size A c x) ∧ (j = 5 → ∃ h, v = .slice (some ⟨h, 0, none⟩) 1 1 ∧ Blk W h 3 #[.int .i64 (k : Int)]) ∧ (j = 6 → ∃ A c, v = .slice A q.length c ∧ OwI W wo.heap.size A c q)))
            (fun i W W' => i ≠ 6 → Ext W W') #[true, true, true, true, true, true, true, false, false] (by kernel_rfl) (by kernel_rfl) ?_ ?_ ?_ ((Ext.rf _).drew)
          · intro i j v W W' hkp hv hs
            refine VF.stab1 (fun _ ⟨g1, g3, g8, g9⟩ => ?_) hv
            by_cases hi : i = 6
            · subst hi
              refine ⟨fun h => ?_, fun h => ?_, fun h => ?_, fun h => ?_⟩
              all_goals (subst h; exact absurd hkp (by decide +kernel))
            · have hx := hs hi
              refine ⟨fun h => ?_, fun h => ?_, fun h => ?_, fun h => ?_⟩
              · obtain ⟨g, q1, q2, q3⟩ := g1 h
                exact ⟨g, q1, q2, q3.ext hx⟩
              · obtain ⟨A', c', q1, q2⟩ := g3 h
                exact ⟨A', c', q1, q2.ext hx⟩
              · obtain ⟨h', q1, q2⟩ := g8 h
                exact ⟨h', q1, q2.ext hx⟩
              · obtain ⟨A', c', q1, q2⟩ := g9 h
                exact ⟨A', c', q1, q2.ext hx⟩
          · intro pq hpm u W hRW hD K hK
            have z2 := hRW.size
            simp only [List.mem_cons, List.not_mem_nil, or_false] at hpm
            rcases hpm with rfl | rfl | rfl | rfl | rfl
            · have r0 := keepEL hRW zb3 c0
              have r1 := keepEL hRW zb3 c1'
              have r2 := keepEL hRW zb3 c2
              have r3 := keepEL hRW zb3 c3
              have r4 := keepEL hRW zb3 c4
              have r5 := keepEL hRW zb3 c5
              exact op_ld (T := 25) rfl (.pointer (some ⟨w.heap.size, 0, none⟩)) (by kernel_rfl) (.agg #[.int .i64 3, .int .i64 n, .int .i64 cap, .slice A xw.length a, .slice B xv.length b, .slice D co.length d]) (by go_simp) (hK _ _ (VF.mk rfl) hRW (fun _ => Ext.rf _))
            · exact op_bs0 rfl _ (ibs0_run _) (hK _ _ (VF.mg rfl ⟨fun _ => ⟨_, rfl, z2, .new rfl⟩, (fun h => by cases h), (fun h => by cases h), (fun h => by cases h)⟩) (hRW.alloc _) (fun _ => (Ext.rf _).alloc _))
            · obtain ⟨g, h1, zg, bg⟩ := ((hD 1 (depIn (by kernel_rfl))).g rfl).1 rfl
              obtain ⟨A3, c3, w3, hr3, o3, x3⟩ := run_copy_i W wo.heap.size 22 g x P c bg zg (hP.out.ext ((X1.out.tr Y.out).tr hRW)) (by omega)
              exact op_app rfl (.slice (some ⟨g, 0, none⟩) 0 0) (.slice P x.length c) (Eq.trans (b := u 1) (by kernel_rfl) h1) (by kernel_rfl) _ hr3 (hK _ _ (VF.mg rfl ⟨(fun h => by cases h), fun _ => ⟨A3, c3, rfl, o3⟩, (fun h => by cases h), (fun h => by cases h)⟩) (hRW.tr x3) (fun _ => x3))
            · exact op_bs1 rfl (.int .i64 (k : Int)) (by kernel_rfl) _ (ibs1_run _ _) (hK _ _ (VF.mg rfl ⟨(fun h => by cases h), (fun h => by cases h), fun _ => ⟨_, rfl, .new rfl⟩, (fun h => by cases h)⟩) (hRW.alloc _) (fun _ => (Ext.rf _).alloc _))
            · obtain ⟨A3, c3', h3, o3⟩ := ((hD 3 (depIn (by kernel_rfl))).g rfl).2.1 rfl
              obtain ⟨g8, h8, b8⟩ := ((hD 5 (depIn (by kernel_rfl))).g rfl).2.2.1 rfl
              obtain ⟨A7, c7, w7, hrun, o7, g7, -⟩ := run_app_i W wo.heap.size 22 A3 x.length c3' x [(k : Int)] (some ⟨g8, 0, none⟩) 1 rfl o3 (.blk b8 rfl) (by simp; omega) hRW.size
              have x7 : Ext wo w7 := hRW.grow g7 (fun k hk => (o3.lt k hk).1)
              rw [← hq.out] at hrun o7
              exact op_app rfl (.slice A3 x.length c3') (.slice (some ⟨g8, 0, none⟩) 1 1) (Eq.trans (b := u 3) (by kernel_rfl) h3) (Eq.trans (b := u 5) (by kernel_rfl) h8) _ hrun (hK _ _ (VF.mg rfl ⟨(fun h => by cases h), (fun h => by cases h), (fun h => by cases h), fun _ => ⟨A7, c7, rfl, o7⟩⟩) x7 (fun h => absurd rfl h))
          · intro u w7 hRW hV
            have h0 := (hV (0, some 72) (by simp) rfl).k rfl
            obtain ⟨A7, c7, h9, o7⟩ := ((hV (6, some 78) (by simp) rfl).g rfl).2.2.2 rfl
            simp only [putAll, h0, h9]
            have rq := Lib.hid o7.read
            have x7 := Lib.hid hRW
            clear h0 h9 hV o7 hRW
            try simp only [Act.put, List.setIfInBounds_toArray, List.set_cons_zero, List.set_cons_succ]
            refine wpAny_next 7 (by decide +kernel) (op_call (f := 36) (xs := #[Operand.tmp 72, Operand.tmp 78]) (ts := #[25, 22]) (t := 3) (d := some 79) rfl #[.agg #[.int .i64 3, .int .i64 n, .int .i64 cap, .slice A xw.length a, .slice B xv.length b, .slice D co.length d], .slice A7 q.length c7] (by go_simp) (by kernel_rfl) _ (IHk.out A7 c7 q hq.out w7 (X1.out.tr (Y.out.tr x7.out)) rq.out) ?_)
            rintro e w8 ⟨rfl, x8⟩
            refine ⟨_, rfl, ?_⟩
            try simp only [Act.put, List.setIfInBounds_toArray, List.set_cons_zero, List.set_cons_succ]
            refine wpAny_T (i := 8) (op := Op.assign (Operand.tmp 79)) (t := 3) (d := some 12) (v := ?_) rfl (by decide +kernel) (by decide +kernel) (by decide +kernel) (fun _ _ _ h => h) ?_ ?_
            case refine_2 => (intro _; unfold exec2; go_simp; try with_reducible rfl)
            try simp only [Act.put, List.setIfInBounds_toArray, List.set_cons_zero, List.set_cons_succ]
            refine wpAny_done (by kernel_rfl) ?_ _
            have Y8 := Lib.hid (Y.out.tr (x7.out.tr x8))
            clear x8 x7 rq c0 c1' c2 c3 c4 c5
            go_simp
            by_cases hfv : 0 ≤ fv
            · by_cases hbb : bb < 0
              · have HN3 := HN2.out.1 ⟨hfv, .inl hbb⟩
                clear HN2
                go_wp2_with (fail)
                go_roundw
                case rel => exact ⟨k + 1, fv, by go_num, rfl, by omega, HN3, Y8⟩
                case measure => simp [intOf]; omega
              · by_cases hfb : fv < bb
                · have HN3 := HN2.out.1 ⟨hfv, .inr hfb⟩
                  clear HN2
                  go_wp2_with (fail)
                  go_roundw
                  case rel => exact ⟨k + 1, fv, by go_num, rfl, by omega, HN3, Y8⟩
                  case measure => simp [intOf]; omega
                · have HN3 := HN2.out.2 (by omega)
                  clear HN2
                  go_wp2_with (fail)
                  go_roundw
                  case rel => exact ⟨k + 1, bb, by go_num, rfl, by omega, HN3, Y8⟩
                  case measure => simp [intOf]; omega
            · have HN3 := HN2.out.2 (by omega)
              clear HN2
              go_wp2_with (fail)
              go_roundw
              case rel => exact ⟨k + 1, bb, by go_num, rfl, by omega, HN3, Y8⟩
              case measure => simp [intOf]; omega
        · have ekn : ((k : Int) != 0) = true := by simp; omega
          have HM : Hid (foldB f bb (rest3 (k + 1)) = bs) := by
            have h := HN.out
            rw [if_neg hk0] at h
            exact h
          clear HN
          go_wp2_with (fail)
          go_roundw
          case rel => exact ⟨k + 1, bb, by go_num, rfl, by omega, HM, Y⟩
          case measure => simp [intOf]; omega
    · have hkm : k = n := by omega
      have q1 : ¬ (k : Int) < (n : Int) := by omega
      have HN : Hid (bb = bs) := by
        have h := HS.out
        rw [EN.out k (by omega)] at h
        exact h
      obtain rfl := HN.out
      replace hkm := Lib.hid hkm
      go_wp2_with (fail)
      go_ret
      exact ⟨rfl, X1.out.tr Y.out⟩
end Go.Proofs.YtleckhbmciiooaaDoor
namespace Go.Proofs.YtleckhbmciiooaaDoor
open Go.RowKit Go.ChangeShapes Go.WideShapes Go.ChangeAt Go.Deep

set_option maxRecDepth 100000 in
set_option maxHeartbeats 1000000 in
theorem best1_whole (i : InstP) (us : List Value) (P : Option Addr) (c : Nat) (x : List Int) (w : World) (H : RInst w us i) (hc : checkP i = 0) (hk : i.kind = 1) (hP : RdI w P x) (lx : (x.length : Int) = i.n) (h01 : ∀ v ∈ x, v = 0 ∨ v = 1) :
    Calls Tryd.prog 36 #[.agg (List.toArray us), .slice P x.length c] w fun e w' => e = .returned (.int .i64 (best1 i.cap i.weight i.value 0 x)) ∧ Ext w w' := by
  have CO := fun (W : World) (y : Ext w W) => rcost_any i us P c x W (H.ext y) hc hk (hP.ext y) lx h01
  unfold best1
  unfold costP at CO
  by_cases hcap : i.cap < takenL x i.weight
  · rw [if_pos hcap]
    rw [if_pos hcap] at CO
    unfold BoundVal at CO
    clear hcap hP hc h01
    obtain ⟨kind, nn, cap, xw, xv, co⟩ := i
    obtain ⟨A, a, B, b, D, d, rfl, -, -, -⟩ := H
    simp only at *
    subst lx hk
    have hb : ((x.length : Int) == (x.length : Int)) = true := by simp
    replace CO := Lib.hid CO
    go_enter Tryd.func36, Tryd.ntmps36
    go_wp2_with (fail)
    refine (CO.out _ (by (repeat (first | assumption | exact Ext.rf _ | apply Ext.drew | apply Ext.drewN | apply Ext.alloc)))).mono ?_
    rintro e w1 ⟨rfl, x1⟩
    have X1 := Lib.hid (Ext.tr (a := w) (by (repeat (first | assumption | exact Ext.rf _ | apply Ext.drew | apply Ext.drewN | apply Ext.alloc))) x1)
    clear x1
    go_wp2_with (fail)
    go_ret
    exact ⟨rfl, X1.out⟩
  · rw [if_neg hcap]
    rw [if_neg hcap] at CO
    unfold BoundVal at CO
    generalize leftL x i.value = lv at *
    clear hcap hP hc h01
    obtain ⟨kind, nn, cap, xw, xv, co⟩ := i
    obtain ⟨A, a, B, b, D, d, rfl, -, -, -⟩ := H
    simp only at *
    subst lx hk
    have hb : ((x.length : Int) == (x.length : Int)) = true := by simp
    replace CO := Lib.hid CO
    go_enter Tryd.func36, Tryd.ntmps36
    go_wp2_with (fail)
    refine (CO.out _ (by (repeat (first | assumption | exact Ext.rf _ | apply Ext.drew | apply Ext.drewN | apply Ext.alloc)))).mono ?_
    rintro e w1 ⟨rfl, x1⟩
    have X1 := Lib.hid (Ext.tr (a := w) (by (repeat (first | assumption | exact Ext.rf _ | apply Ext.drew | apply Ext.drewN | apply Ext.alloc))) x1)
    clear x1
    go_wp2_with (fail)
    go_ret
    exact ⟨rfl, X1.out⟩
theorem best1_any (i : InstP) (us : List Value) (hc : checkP i = 0) (hk : i.kind = 1) (n : Nat) (hn : i.n = n) : ∀ (f : Nat) (P : Option Addr) (c : Nat) (x : List Int) (w : World), x.length + f = n → (∀ v ∈ x, v = 0 ∨ v = 1) → RInst w us i → RdI w P x →
    Calls Tryd.prog 36 #[.agg (List.toArray us), .slice P x.length c] w fun e w' => e = .returned (.int .i64 (best1 i.cap i.weight i.value f x)) ∧ Ext w w'
  | 0, P, c, x, w => fun hl h01 H hP => best1_whole i us P c x w H hc hk hP (by omega) h01
  | f + 1, P, c, x, w => fun hl h01 H hP => by
    have ok := knap_ok hc hk
    have k1 := ok.n1
    have k2 := ok.n2
    refine best1_more i us P c x w H hk hP (by omega) n hn (by omega) (by omega) (by omega) (fun b => best1 i.cap i.weight i.value f (x ++ [b])) ?_
    rintro k A d q hk2 rfl W y hq
    refine best1_any i us hc hk n hn f A d _ W (by simp; omega) (fun v hv => ?_) (H.ext y) hq
    rcases List.mem_append.1 hv with h | h
    · exact h01 v h
    · have := List.mem_singleton.1 h
      omega
theorem best1_ans {i : InstP} (hc : checkP i = 0) (hk : i.kind = 1) {x : List Int} {v : Int} (ha : AnsOk i x v) : ∃ n : Nat, i.n = n ∧ best1 i.cap i.weight i.value n [] = v := by
  rcases ha with ⟨-, n, m, hn, rfl, h1, h2, rfl, h3⟩ | ⟨hk2, _⟩ | ⟨hk2, _⟩
  · have ok := knap_ok hc hk
    have hw : i.weight.length = n := by have := ok.w; omega
    have hv : i.value.length = n := by have := ok.v; omega
    refine ⟨n, hn, ?_⟩
    obtain ⟨b1, b2⟩ := best1_law (cap := i.cap) (ws := i.weight) (vs := i.value) (n := n) (fun z hz => (ok.sv z hz).1) n [] (by simp) (by simp)
    have hx01 : ∀ m', ∀ y ∈ xB m' n, y = 0 ∨ y = 1 := fun m' y hy => by
      unfold xB at hy
      obtain ⟨j, _, rfl⟩ := List.mem_map.1 hy
      split <;> simp
    have h4 := b2 (xB m n) ⟨⟨xB m n, rfl⟩, xB_len m n, hx01 m⟩ (by rw [takenL_xB n m _ hw]; exact h2)
    rw [leftL_xB n m _ hv] at h4
    rcases b1 with h5 | ⟨y, ⟨_, hy1, hy2⟩, h6, h7⟩
    · omega
    · obtain ⟨s, hs, rfl⟩ := list_xB n y hy1 hy2
      rw [takenL_xB n s _ hw] at h6
      rw [leftL_xB n s _ hv] at h7
      have := h3 s hs h6
      omega
  · omega
  · omega
theorem root_perm {n : Nat} (h24 : n ≤ 24) {m : Nat} (h : freeP n [] = some m) : ∀ q : List Nat, q.Perm (memsM m) ↔ q.Perm (List.range n) := by
  obtain ⟨l, e, h1, h2, h3⟩ := freeP_cols h24 h
  have e0 : l = [] := List.eq_nil_of_length_eq_zero (by have := congrArg List.length e; rw [intsN_len] at this; exact this.symm)
  subst e0
  have hp : (memsM m).Perm (List.range n) := (List.perm_ext_iff_of_nodup ((memsM_sorted m).imp fun h => Nat.ne_of_lt h) List.nodup_range).2 fun x => by rw [h3, List.mem_range]; simp
  exact fun q => ⟨fun hq => hq.trans hp, fun hq => hq.trans hp.symm⟩
theorem best2_ans {i : InstP} (hc : checkP i = 0) (hk : i.kind = 2) {x : List Int} {v : Int} (ha : AnsOk i x v) : bestA i.cost i.cost.length i.cost.length [] = v := by
  have rok := rows_ok (square_ok hc (by omega))
  have h24 := rok.n2
  have num : ∀ row ∈ i.cost, ∀ c, c < i.cost.length → 0 ≤ row.getD c 0 := fun row hr c hc => (rok.get hr hc).1
  rcases ha with ⟨hk2, _⟩ | ⟨-, l, -, -, -, hL⟩ | ⟨hk2, _⟩
  · omega
  · obtain ⟨q, h1, h2⟩ := best_some h24 num i.cost.length [] _ freeP_root (by simp)
    rw [root_perm h24 freeP_root] at h1
    refine Least.one (n := i.cost.length) ⟨⟨q, h1, by rw [h2]; rfl⟩, fun q' hq' => ?_⟩ hL
    exact bestA_le h24 num i.cost.length [] _ freeP_root (by simp) q' ((root_perm h24 freeP_root q').2 hq')
  · omega
theorem LeastT.one {rows : List (List Int)} {n : Nat} {c d : Int} (h : LeastT rows n c) (k : LeastT rows n d) : c = d := by
  obtain ⟨x, h1, h2⟩ := h.1
  obtain ⟨y, k1, k2⟩ := k.1
  have a := h.2 y k1
  have b := k.2 x h1
  omega
theorem root_tour {n : Nat} (h1 : 1 ≤ n) (h24 : n ≤ 24) (q : List Nat) : q.Perm (memsM (restM n)) ↔ (0 :: q).Perm (List.range n) := by
  have hp : (0 :: memsM (restM n)).Perm (List.range n) := by
    refine (List.perm_ext_iff_of_nodup (List.nodup_cons.2 ⟨fun h => ((restM_mem h24).1 h).2 rfl, (memsM_sorted _).imp fun h => Nat.ne_of_lt h⟩) List.nodup_range).2 fun x => ?_
    rw [List.mem_cons, restM_mem h24, List.mem_range]
    by_cases e : x = 0
    · subst e
      simp
      omega
    · simp [e]
  exact ⟨fun h => (h.cons 0).trans hp, fun h => ((List.perm_cons 0).1 (h.trans hp.symm))⟩
theorem best3_ans {i : InstP} (hc : checkP i = 0) (hk : i.kind = 3) {x : List Int} {v : Int} (ha : AnsOk i x v) : bestT i.cost (i.cost.length - 1) [] = v ∧ 0 ≤ v := by
  have rok := rows_ok (square_ok hc (by omega))
  have h24 := rok.n2
  have h1 := rok.n1
  have num : ∀ a b, a < i.cost.length → b < i.cost.length → 0 ≤ costAt i.cost a b := fun a b ha hb => (ends_num rok a b ha hb).1
  obtain ⟨l, W⟩ := walk_ok h1 h24 (walkP_root (rows := i.cost))
  have hl : l = [] := List.eq_nil_of_length_eq_zero (by have := congrArg List.length W.eq; rw [intsN_len] at this; exact this.symm)
  subst hl
  rcases ha with ⟨hk2, _⟩ | ⟨hk2, _⟩ | ⟨-, q0, -, h3, h4, hL⟩
  · omega
  · omega
  · obtain ⟨q, a1, a2⟩ := bestT_some h1 h24 num (i.cost.length - 1) [] _ _ _ [] walkP_root W (by simp)
    rw [root_tour h1 h24] at a1
    refine ⟨LeastT.one (n := i.cost.length) ⟨⟨q, a1, by rw [a2]; rfl⟩, fun q' hq' => ?_⟩ hL, ?_⟩
    · exact bestT_le h1 h24 num (i.cost.length - 1) [] _ _ _ [] walkP_root W (by simp) q' ((root_tour h1 h24 q').2 hq')
    · rw [h4]
      exact pathT_pos num _ _ (by omega) fun y hy => List.mem_range.1 (h3.mem_iff.1 (by simp [hy]))
/-- the document's least cost is a best answer's -/
theorem rbest8 (i : InstP) (us : List Value) (x : List Int) (v : Int) (w : World) (H : RInst w us i) (hc : checkP i = 0) (ha : AnsOk i x v) :
    Calls Tryd.prog 36 #[.agg (List.toArray us), .slice none 0 0] w fun e w' => e = .returned (.int .i64 v) ∧ Ext w w' := by
  rcases check_kind hc with hk | hk | hk
  · obtain ⟨n, hn, e⟩ := best1_ans hc hk ha
    have h := best1_any i us hc hk n hn n none 0 [] w (by simp) (by simp) H (.inl rfl)
    rw [e] at h
    exact h
  · have e := best2_ans hc hk ha
    have h := best2_any i us hc hk i.cost.length none 0 [] _ w freeP_root (by simp) H (.inl rfl)
    rw [e] at h
    exact h
  · obtain ⟨e, e0⟩ := best3_ans hc hk ha
    have sq := square_ok hc (by omega)
    have rok := rows_ok sq
    have h1 := rok.n1
    have h2 := rok.n2
    have h := best3_root i us none 0 [] w H hk (.inl rfl) (by simp) rfl i.cost.length sq.len.symm h1 (by omega) (by simp; omega) (fun _ => v) (fun k A d q hk0 hq W y hr => by
      subst hk0 hq
      have h := best3_any i us hc hk (i.cost.length - 1) A d [] _ _ _ W walkP_root (by simp) (H.ext y) hr
      rw [e] at h
      exact h)
    have e2 : pkB (-1) v = v := by
      unfold pkB
      split <;> omega
    rw [e2] at h
    exact h
set_option maxRecDepth 100000 in
set_option maxHeartbeats 1000000 in
theorem small_bad (i : InstP) (us : List Value) (w : World) (H : RInst w us i) (hc : checkP i ≠ 0) :
    Calls Tryd.prog 35 #[.agg (List.toArray us)] w fun e w' => e = .returned (.bool false) ∧ Ext w w' := by
  have CH := fun (W : World) (x : Ext w W) => rcheck_any i us W (H.ext x)
  generalize checkP i = cc at *
  have e1 : (cc == 0) = false := by simpa using hc
  obtain ⟨kind, nn, cap, xw, xv, co⟩ := i
  obtain ⟨A, a, B, b, D, d, rfl, -, -, -⟩ := H
  simp only at *
  replace CH := Lib.hid CH
  clear hc
  go_enter Tryd.func35, Tryd.ntmps35
  go_wp2_with (fail)
  refine (CH.out _ (by (repeat (first | assumption | exact Ext.rf _ | apply Ext.drew | apply Ext.drewN | apply Ext.alloc)))).mono ?_
  rintro e w1 ⟨rfl, x1⟩
  have X1 := Lib.hid (Ext.tr (a := w) (by (repeat (first | assumption | exact Ext.rf _ | apply Ext.drew | apply Ext.drewN | apply Ext.alloc))) x1)
  clear x1
  go_wp2_with (fail)
  go_ret
  exact ⟨rfl, X1.out⟩
/-- few items -/
def smallP (i : InstP) : Bool := decide (checkP i = 0) && decide (i.n ≤ if i.kind = 1 then 9 else 6)
theorem rsmall (i : InstP) (us : List Value) (w : World) (H : RInst w us i) :
    Calls Tryd.prog 35 #[.agg (List.toArray us)] w fun e w' => e = .returned (.bool (smallP i)) ∧ Ext w w' := by
  by_cases hc : checkP i = 0
  · rcases check_kind hc with hk | hk | hk
    · have h := small_any i us w H hc hk
      unfold smallP
      rw [hk, if_pos rfl, decide_eq_true hc, Bool.true_and]
      exact h
    · have h := small2_any i us w H hc hk
      unfold smallP
      rw [hk, if_neg (by decide), decide_eq_true hc, Bool.true_and]
      exact h
    · have h := small3_any i us w H hc hk
      unfold smallP
      rw [hk, if_neg (by decide), decide_eq_true hc, Bool.true_and]
      exact h
  · have h := small_bad i us w H hc
    unfold smallP
    rw [decide_eq_false hc, Bool.false_and]
    exact h
theorem small_takes {i : InstP} (h : smallP i = true) : checkP i = 0 ∧ rtakesP i 0 = 0 := by
  unfold smallP at h
  simp only [Bool.and_eq_true, decide_eq_true_eq] at h
  obtain ⟨h1, h2⟩ := h
  refine ⟨h1, ?_⟩
  unfold rtakesP
  rw [if_neg (by simpa using h1), if_neg (by simp), if_neg]
  rintro (⟨h3, h4⟩ | ⟨h3, h4⟩)
  · rw [if_pos h3] at h2; omega
  · rw [if_neg (by omega)] at h2; omega
end Go.Proofs.YtleckhbmciiooaaDoor
namespace Go.Proofs.YtleckhbmciiooaaDoor
open Go.RowKit Go.ChangeShapes Go.WideShapes Go.ChangeAt Go.Deep

def exA : InstP := ⟨2, 2, 0, [], [], [[1, 2], [3, 9]]⟩
theorem exA_check : checkP exA = 0 := by decide
theorem row_blk {w : World} {b : Nat} {x y : Int} {c : Nat} (h : Blk w b 3 #[.int .i64 x, .int .i64 y]) (hx : -9223372036854775808 ≤ x ∧ x ≤ 9223372036854775807) (hy : -9223372036854775808 ≤ y ∧ y ≤ 9223372036854775807) (hc : 2 ≤ c) (hm : c ≤ maxLen) : RInts w [.slice (some ⟨b, 0, none⟩) 2 c] [x, y] :=
  ⟨some ⟨b, 0, none⟩, c, rfl, .blk h rfl, by intro z hz; simp at hz; rcases hz with rfl | rfl <;> assumption, hc, hm⟩
theorem exA_rinst (w : World) : RInst (((w.alloc (.cells #[.int .i64 1, .int .i64 2] 3)).alloc (.cells #[.int .i64 3, .int .i64 9] 3)).alloc (.cells #[.slice (some ⟨w.heap.size, 0, none⟩) 2 2, .slice (some ⟨w.heap.size + 1, 0, none⟩) 2 2] 22)) [.int .i64 2, .int .i64 2, .int .i64 0, .slice none 0 0, .slice none 0 0, .slice (some ⟨w.heap.size + 1 + 1, 0, none⟩) 2 2] exA := by
  have hz : 2 ≤ maxLen := by simp [maxLen]
  have b0 : Blk (((w.alloc (.cells #[.int .i64 1, .int .i64 2] 3)).alloc (.cells #[.int .i64 3, .int .i64 9] 3)).alloc (.cells #[.slice (some ⟨w.heap.size, 0, none⟩) 2 2, .slice (some ⟨w.heap.size + 1, 0, none⟩) 2 2] 22)) w.heap.size 3 #[.int .i64 1, .int .i64 2] := .alloc (.alloc (.new rfl) _) _
  have b1 : Blk (((w.alloc (.cells #[.int .i64 1, .int .i64 2] 3)).alloc (.cells #[.int .i64 3, .int .i64 9] 3)).alloc (.cells #[.slice (some ⟨w.heap.size, 0, none⟩) 2 2, .slice (some ⟨w.heap.size + 1, 0, none⟩) 2 2] 22)) (w.heap.size + 1) 3 #[.int .i64 3, .int .i64 9] := .alloc (.new (by simp)) _
  have b2 : Blk (((w.alloc (.cells #[.int .i64 1, .int .i64 2] 3)).alloc (.cells #[.int .i64 3, .int .i64 9] 3)).alloc (.cells #[.slice (some ⟨w.heap.size, 0, none⟩) 2 2, .slice (some ⟨w.heap.size + 1, 0, none⟩) 2 2] 22)) (w.heap.size + 1 + 1) 22 #[.slice (some ⟨w.heap.size, 0, none⟩) 2 2, .slice (some ⟨w.heap.size + 1, 0, none⟩) 2 2] := .new (by simp)
  refine ⟨none, 0, none, 0, some ⟨w.heap.size + 1 + 1, 0, none⟩, 2, rfl, ⟨.inl rfl, Ints.nil, by simp [exA], zero_le_maxLen⟩, ⟨.inl rfl, Ints.nil, by simp [exA], zero_le_maxLen⟩, ⟨.inr ⟨_, 0, rfl, b2.lt, ?_⟩, by simp [exA], hz⟩⟩
  intro i x hi
  match i, hi with
  | 0, hi =>
    simp [exA] at hi
    subst hi
    refine ⟨_, row_blk b0 (by omega) (by omega) (Nat.le_refl 2) hz, rfl, fun j v hj => ?_⟩
    match j, hj with
    | 0, hj => rw [b2.cell]; simp at hj; subst hj; rfl
  | 1, hi =>
    simp [exA] at hi
    subst hi
    refine ⟨_, row_blk b1 (by omega) (by omega) (Nat.le_refl 2) hz, rfl, fun j v hj => ?_⟩
    match j, hj with
    | 0, hj => rw [b2.cell]; simp at hj; subst hj; rfl
  | i + 2, hi => simp [exA] at hi
end Go.Proofs.YtleckhbmciiooaaDoor
namespace Go.Proofs.YtleckhbmciiooaaDoor
open Go.RowKit Go.ChangeShapes Go.WideShapes Go.ChangeAt Go.Deep

theorem exA_least {l : List Nat} (hp : l.Perm (List.range 2)) (h : Least [[1, 2], [3, 9]] 2 (costF [[1, 2], [3, 9]] (intsN l))) : l = [1, 0] := by
  have hl := perm_len hp
  match l, hl with
  | [a, b], _ =>
    have ha : a < 2 := List.mem_range.1 (hp.mem_iff.1 (by simp))
    have hb : b < 2 := List.mem_range.1 (hp.mem_iff.1 (by simp))
    have hn : [a, b].Nodup := hp.symm.nodup List.nodup_range
    have hab : a ≠ b := by simpa using hn
    have h2 := h.2 [1, 0] (by decide)
    match a, b, ha, hb with
    | 0, 0, _, _ => exact absurd rfl hab
    | 1, 1, _, _ => exact absurd rfl hab
    | 1, 0, _, _ => rfl
    | 0, 1, _, _ => exact absurd h2 (by decide)
set_option maxRecDepth 100000 in
set_option maxHeartbeats 2000000 in
theorem exacts_any (w : World) : Calls Tryd.prog 28 #[] w fun e w' => e = .returned (.bool true) ∧ Ext w w' := by
  have N := fun (vs : List Value) (W : World) (H : RInst W vs exA) => asg_any exA vs W H exA_check rfl
  unfold AsgPost at N
  simp only [show exA.cost = [[1, 2], [3, 9]] from rfl, List.length_cons, List.length_nil, Nat.zero_add, Nat.reduceAdd] at N
  replace N := Lib.hid N
  go_enter Tryd.func28, Tryd.ntmps28
  go_wp2_with (fail)
  refine (N.out _ _ (exA_rinst w)).mono ?_
  rintro e w2 ⟨A, c, l, rfl, rd, pm, lc, mc, LE, x2⟩
  obtain rfl := exA_least pm LE
  have X2 := Lib.hid (Ext.tr (a := w) (by (repeat (first | assumption | exact Ext.rf _ | apply Ext.drew | apply Ext.drewN | apply Ext.alloc))) x2)
  obtain ⟨b, off, y0, rfl, _, c0, e0, _⟩ := rd.at (k := 0) (by simp [intsN])
  obtain ⟨b', off', y1, hA, _, c1, e1, _⟩ := rd.at (k := 1) (by simp [intsN])
  obtain ⟨rfl, rfl⟩ : b = b' ∧ off = off' := by simpa using hA
  obtain rfl : y0 = 1 := by have h := e0.out; simp [intsN] at h; exact h.symm
  obtain rfl : y1 = 0 := by have h := e1.out; simp [intsN] at h; exact h.symm
  rw [show costF [[1, 2], [3, 9]] (intsN [1, 0]) = 5 from by decide]
  rw [Nat.add_zero] at c0
  clear rd pm LE x2 e0 e1 hA N
  go_wp2_with (fail)
  go_ret
  exact ⟨rfl, X2.out⟩
end Go.Proofs.YtleckhbmciiooaaDoor
