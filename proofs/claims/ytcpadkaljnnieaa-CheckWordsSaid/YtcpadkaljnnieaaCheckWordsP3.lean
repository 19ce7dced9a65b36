/-
  A tour, plainly: where a beginning has come to; what may follow; what the rest must cost at least, by rows and columns and by what meets at each city.
    A tour, plainly: the bound is no number below nought and none above the least cost by trying; the beginnings as a tree.
  The document's least cost of all answers, plainly: it is the cost of an answer, and no answer's is less.
  Ways from city to city: what is left of a way, and how much it may cost at most.
  A tour's kernel: Mirror, New, Depth.
  The document's Reduce, of squares that miss some numbers.
  A tour, plainly: the document's square of what is left costs at least what the kernel reckons; the beginnings as a tree.
  A tour's kernel: where a beginning has come to.
  Operations that only read, in whatever order; what is left may wait for them through others.
  A tour's kernel: where one may go to from a city; the two least numbers.
    A tour's kernel: the two least numbers.
    A tour's kernel: what rows cost at least, then columns.
  A tour's kernel: what meets at each city, at least.
  A tour's kernel: what may follow a beginning.
    A tour's kernel: no kernel; the answer of a whole list.
  A tour's kernel: what no answer that begins so is below.
  One number of the costs in memory.
  The document's tour: mirror, rest.
    The document's tour: where a beginning has come to.
    The document's tour: the answer of a whole list.
    The document's tour: what may follow.
    The law's own example of a tour, plainly.
  The document's tour: what meets at each city, at least.
-/
import Derived.Test.YtcpadkaljnnieaaCheckWordsP2
namespace Go.Proofs.Ytcpadkaljnnieaa

/-- the ways of a beginning; none: it is none -/
def walkT (rows : List (List Int)) (m last : Nat) (cost : Int) : List Int → Option (Nat × Nat × Int)
  | [] => some (m, last, cost)
  | c :: p => if 0 ≤ c ∧ c < 64 ∧ m.testBit c.toNat = true then walkT rows (clrM m c.toNat) c.toNat (cost + costAt rows last c.toNat) p else none
def walkP (rows : List (List Int)) (p : List Int) : Option (Nat × Nat × Int) := if rows.length - 1 < p.length then none else walkT rows (clrM (2 ^ rows.length - 1) 0) 0 0 p
def kidsT (rows : List (List Int)) (p : List Int) : List Int × Int :=
  match walkP rows p with
  | none => ([], 1)
  | some (m, last, _) => (intsN (sortP (ltC (cfR (rows.getD last []))) (memsM m)), 0)
/-- where one may go to from a city -/
def colsT (us : List Nat) (last src : Nat) : List Nat := if src = last then us else 0 :: us.filter fun x => decide (src ≠ x)
def offT (rows : List (List Int)) (us : List Nat) (last src : Nat) : Int := max (leastN (fun dst => costAt rows src dst) (-1) (colsT us last src)) 0
/-- the least that a city may be come to by, beyond what the cities must cost -/
def colT (rows : List (List Int)) (us : List Nat) (last dst : Nat) : Int := leastN (fun src => costAt rows src dst - offT rows us last src) (-1) ((last :: us).filter fun src => decide (dst ∈ colsT us last src))
def reduceT (rows : List (List Int)) (us : List Nat) (last : Nat) : Int := sumL ((last :: us).map fun src => offT rows us last src) + sumL ((0 :: us).map fun dst => max (colT rows us last dst) 0)
/-- one more number beside the two least ones -/
def putP (p : Int × Int) (n : Int) : Int × Int := if n < p.1 then (n, p.1) else if n < p.2 then (p.1, n) else p
def pairT (rows : List (List Int)) (us : List Nat) (last u : Nat) : Int × Int :=
  (us.filter fun x => decide (u ≠ x)).foldl (fun p v => putP p (costAt rows u v)) (min (costAt rows u last) (costAt rows u 0), max (costAt rows u last) (costAt rows u 0))
def endsT (rows : List (List Int)) (us : List Nat) (last : Nat) : Int :=
  sumL (us.map fun u => (pairT rows us last u).1 + (pairT rows us last u).2) + leastN (fun u => costAt rows last u) (-1) us + leastN (fun u => costAt rows u 0) (-1) us
def boundT (rows : List (List Int)) (mirror : Bool) (p : List Int) : Int × Int :=
  match walkP rows p with
  | none => (0, 1)
  | some (m, last, c) => (c + (if memsM m = [] then costAt rows last 0 else if mirror = true then max (reduceT rows (memsM m) last) ((endsT rows (memsM m) last + 1) / 2) else reduceT rows (memsM m) last), 0)
theorem leastN_le {f : Nat → Int} : ∀ {l : List Nat} {b : Int}, (∀ x ∈ l, 0 ≤ f x) → (∀ x ∈ l, leastN f b l ≤ f x) ∧ (0 ≤ b → leastN f b l ≤ b) := fun {l b} h => by
  have h1 := leastL_le (l := l.map f) (b := b) fun y hy => by
    obtain ⟨x, hx, rfl⟩ := List.mem_map.1 hy
    exact h x hx
  rw [leastL_map] at h1
  exact ⟨fun x hx => h1.1 (f x) (List.mem_map.2 ⟨x, hx, rfl⟩), h1.2⟩
theorem leastN_pos {f : Nat → Int} {B : Int} {l : List Nat} (h : ∀ x ∈ l, 0 ≤ f x ∧ f x ≤ B) (hl : l ≠ []) (hB : 0 ≤ B) : 0 ≤ leastN f (-1) l ∧ leastN f (-1) l ≤ B := by
  rw [← leastL_map]
  refine leastL_bd (fun y hy => ?_) (by omega) (.inr (by simpa using hl))
  obtain ⟨x, hx, rfl⟩ := List.mem_map.1 hy
  exact h x hx
section
variable {rows : List (List Int)} {us : List Nat} {last : Nat}
/-- each way of what is left costs no less than its row and its column -/
theorem way_ge {B : Int} (num : ∀ a b, (a = last ∨ a ∈ us) → (b = 0 ∨ b ∈ us) → 0 ≤ costAt rows a b ∧ costAt rows a b ≤ B) {src dst : Nat} (hs : src ∈ last :: us) (hd : dst ∈ colsT us last src) : offT rows us last src + max (colT rows us last dst) 0 ≤ costAt rows src dst := by
  have hcol : ∀ {s d : Nat}, d ∈ colsT us last s → d = 0 ∨ d ∈ us := fun {s d} h => by
    unfold colsT at h
    split at h
    · exact .inr h
    · rcases List.mem_cons.1 h with h | h
      · exact .inl h
      · exact .inr (List.mem_filter.1 h).1
  have hsrc : ∀ {s : Nat}, s ∈ last :: us → s = last ∨ s ∈ us := fun {s} h => List.mem_cons.1 h
  have hoff : ∀ s ∈ last :: us, ∀ d ∈ colsT us last s, offT rows us last s ≤ costAt rows s d ∧ 0 ≤ offT rows us last s := fun s h1 d h2 => by
    have h3 := (leastN_le (f := fun dst => costAt rows s dst) (l := colsT us last s) (b := -1) fun x hx => (num s x (hsrc h1) (hcol hx)).1).1 d h2
    have h4 := (num s d (hsrc h1) (hcol h2)).1
    unfold offT
    omega
  have h1 := hoff src hs dst hd
  have h2 := (leastN_le (f := fun src => costAt rows src dst - offT rows us last src) (l := (last :: us).filter fun src => decide (dst ∈ colsT us last src)) (b := -1) fun x hx => by
    have h3 := List.mem_filter.1 hx
    have h4 := hoff x h3.1 dst (of_decide_eq_true h3.2)
    omega).1 src (List.mem_filter.2 ⟨hs, decide_eq_true hd⟩)
  unfold colT
  omega
/-- the ways of a path, one by one -/
theorem path_ge {F G : Nat → Int} : ∀ (q : List Nat) (s : Nat), (∀ a b, (a, b) ∈ (s :: q).zip (q ++ [0]) → F a + G b ≤ costAt rows a b) → sumL ((s :: q).map F) + sumL ((q ++ [0]).map G) ≤ pathT rows s q
  | [], s, h => by
    have := h s 0 (by simp)
    simp only [List.map_cons, List.map_nil, List.nil_append, sumL, pathT]
    omega
  | u :: q, s, h => by
    have h1 := h s u (by simp)
    have h2 := path_ge q u fun a b hab => h a b (by
      simp only [List.cons_append, List.zip_cons_cons, List.mem_cons]
      exact .inr hab)
    simp only [List.map_cons, List.cons_append, sumL, pathT] at h2 ⊢
    omega
theorem zip_mem : ∀ (q : List Nat) (s a b : Nat), (a, b) ∈ (s :: q).zip (q ++ [0]) → (s :: q).Nodup → a ∈ s :: q ∧ (b = 0 ∨ b ∈ q) ∧ (a = s → q = [] ∨ b ∈ q) ∧ (b ∈ q → a ≠ b ∨ b = 0)
  | [], s, a, b, h, _ => by
    simp at h
    obtain ⟨rfl, rfl⟩ := h
    exact ⟨by simp, .inl rfl, fun _ => .inl rfl, fun h => by cases h⟩
  | u :: q, s, a, b, h, hn => by
    have hn' := List.nodup_cons.1 hn
    simp only [List.cons_append, List.zip_cons_cons, List.mem_cons, Prod.mk.injEq] at h
    rcases h with ⟨rfl, rfl⟩ | h
    · exact ⟨by simp, .inr (by simp), fun _ => .inr (by simp), fun _ => .inl fun e => hn'.1 (by simp [e])⟩
    · have ih := zip_mem q u a b h hn'.2
      refine ⟨List.mem_cons_of_mem _ ih.1, ?_, fun e => ?_, fun hb => ?_⟩
      · rcases ih.2.1 with h | h
        · exact .inl h
        · exact .inr (by simp [h])
      · subst e
        exact absurd ih.1 hn'.1
      · rcases List.mem_cons.1 hb with rfl | hb
        · rcases ih.2.1 with h0 | h0
          · exact .inr h0
          · exact absurd h0 (List.nodup_cons.1 hn'.2).1
        · exact ih.2.2.2 hb
theorem reduceT_le {B : Int} (num : ∀ a b, (a = last ∨ a ∈ us) → (b = 0 ∨ b ∈ us) → 0 ≤ costAt rows a b ∧ costAt rows a b ≤ B) (hn : (last :: us).Nodup) (hu : us ≠ []) (h0 : 0 ∉ us) {q : List Nat} (hq : q.Perm us) : reduceT rows us last ≤ pathT rows last q := by
  have hnq : (last :: q).Nodup := (hq.cons last).nodup_iff.2 hn
  have h := path_ge (rows := rows) (F := fun src => offT rows us last src) (G := fun dst => max (colT rows us last dst) 0) q last fun a b hab => by
    obtain ⟨z1, z2, z3, z4⟩ := zip_mem q last a b hab hnq
    refine way_ge num ((hq.cons last).mem_iff.1 z1) ?_
    unfold colsT
    by_cases e : a = last
    · rw [if_pos e]
      rcases z3 e with h | h
      · exfalso
        rw [h] at hq
        exact hu (List.Perm.eq_nil (hq.symm))
      · exact hq.mem_iff.1 h
    · rw [if_neg e]
      rcases z2 with rfl | h
      · simp
      · refine List.mem_cons_of_mem _ (List.mem_filter.2 ⟨hq.mem_iff.1 h, decide_eq_true ?_⟩)
        rcases z4 h with h' | h'
        · exact h'
        · subst h'
          exact absurd (hq.mem_iff.1 h) h0
  have e1 := sumL_perm (((hq.cons last)).map fun src => offT rows us last src)
  have e2 : sumL ((q ++ [0]).map fun dst => max (colT rows us last dst) 0) = sumL ((0 :: us).map fun dst => max (colT rows us last dst) 0) :=
    sumL_perm (((List.perm_append_comm (l₁ := q) (l₂ := [0])).trans (hq.cons 0)).map _)
  unfold reduceT
  rw [← e1, ← e2]
  exact h
/-- the two least ones of some -/
def Two (p : Int × Int) (l : List Int) : Prop := p.1 ≤ p.2 ∧ (∀ x ∈ l, p.1 ≤ x) ∧ l.Pairwise fun x y => p.1 + p.2 ≤ x + y
theorem Two.put {p : Int × Int} {l : List Int} (h : Two p l) (n : Int) : Two (putP p n) (l ++ [n]) := by
  obtain ⟨h1, h2, h3⟩ := h
  have key : ∀ {q : Int × Int}, q.1 ≤ q.2 → q.1 ≤ p.1 → q.1 ≤ n → q.1 + q.2 ≤ p.1 + p.2 → (∀ x ∈ l, q.1 + q.2 ≤ x + n) → Two q (l ++ [n]) := by
    intro q k1 k2 k3 k4 k5
    refine ⟨k1, fun x hx => ?_, List.pairwise_append.2 ⟨h3.imp fun hxy => by omega, List.pairwise_singleton _ _, fun x hx y hy => ?_⟩⟩
    · rcases List.mem_append.1 hx with hx | hx
      · have := h2 x hx; omega
      · obtain rfl := List.mem_singleton.1 hx; exact k3
    · obtain rfl := List.mem_singleton.1 hy
      exact k5 x hx
  unfold putP
  split
  · exact key (by simp only; omega) (by simp only; omega) (by simp only; omega) (by simp only; omega) fun x hx => by have := h2 x hx; simp only; omega
  · split
    · exact key (by simp only; omega) (by simp only; omega) (by simp only; omega) (by simp only; omega) fun x hx => by have := h2 x hx; simp only; omega
    · exact key (by omega) (by omega) (by omega) (by omega) fun x hx => by have := h2 x hx; omega
theorem two_fold (f : Nat → Int) : ∀ (vs : List Nat) (p : Int × Int) (l : List Int), Two p l → Two (vs.foldl (fun p v => putP p (f v)) p) (l ++ vs.map f)
  | [], p, l, h => by simpa using h
  | v :: vs, p, l, h => by
    have := two_fold f vs (putP p (f v)) (l ++ [f v]) (h.put (f v))
    simpa using this
theorem pairT_two (rows : List (List Int)) (us : List Nat) (last u : Nat) : Two (pairT rows us last u) ([costAt rows u last, costAt rows u 0] ++ (us.filter fun x => decide (u ≠ x)).map fun v => costAt rows u v) := by
  refine two_fold (fun v => costAt rows u v) _ _ _ ⟨by simp only; omega, fun x hx => ?_, ?_⟩
  · simp at hx
    rcases hx with rfl | rfl <;> (simp only; omega)
  · simp only [List.pairwise_cons, List.mem_singleton, forall_eq, List.not_mem_nil, false_imp_iff, implies_true, List.Pairwise.nil, and_true]
    omega
/-- at a city the two that meet cost no less than the two least ones -/
theorem meet_ge {u a b : Nat} (hu : us.Nodup) (ha : a = last ∨ (a ∈ us ∧ u ≠ a)) (hb : b = 0 ∨ (b ∈ us ∧ u ≠ b)) (hab : a ∈ us → b ∈ us → a ≠ b) (hl : last ∉ us) (h0 : 0 ∉ us) : (pairT rows us last u).1 + (pairT rows us last u).2 ≤ costAt rows u a + costAt rows u b := by
  obtain ⟨_, _, h3⟩ := pairT_two rows us last u
  rw [List.pairwise_append] at h3
  obtain ⟨k1, k2, k3⟩ := h3
  have m : ∀ {x : Nat}, x ∈ us → u ≠ x → costAt rows u x ∈ (us.filter fun x => decide (u ≠ x)).map fun v => costAt rows u v := fun {x} h1 h2 => List.mem_map.2 ⟨x, List.mem_filter.2 ⟨h1, decide_eq_true h2⟩, rfl⟩
  rcases ha with rfl | ⟨a1, a2⟩
  · rcases hb with rfl | ⟨b1, b2⟩
    · simp only [List.pairwise_cons, List.mem_singleton, forall_eq] at k1
      exact k1.1
    · exact k3 _ (by simp) _ (m b1 b2)
  · rcases hb with rfl | ⟨b1, b2⟩
    · have := k3 (costAt rows u 0) (by simp) _ (m a1 a2)
      omega
    · have hne := hab a1 b1
      rw [List.pairwise_map] at k2
      have hfn : (us.filter fun x => decide (u ≠ x)).Nodup := List.Pairwise.filter _ hu
      obtain ⟨i, hi, ei⟩ := List.mem_iff_getElem.1 (List.mem_filter.2 ⟨a1, decide_eq_true a2⟩ : a ∈ us.filter fun x => decide (u ≠ x))
      obtain ⟨j, hj, ej⟩ := List.mem_iff_getElem.1 (List.mem_filter.2 ⟨b1, decide_eq_true b2⟩ : b ∈ us.filter fun x => decide (u ≠ x))
      rcases Nat.lt_trichotomy i j with h | h | h
      · have := List.pairwise_iff_getElem.1 k2 i j hi hj h
        rw [ei, ej] at this
        exact this
      · subst h
        exact absurd (ei.symm.trans ej) hne
      · have := List.pairwise_iff_getElem.1 k2 j i hj hi h
        rw [ei, ej] at this
        omega
end
end Go.Proofs.Ytcpadkaljnnieaa
namespace Go.Proofs.Ytcpadkaljnnieaa

section
variable {rows : List (List Int)} {us : List Nat} {last : Nat}
def pairS (rows : List (List Int)) (us : List Nat) (last u : Nat) : Int := (pairT rows us last u).1 + (pairT rows us last u).2
/-- of each three in a row the middle's two least ones cost no more than its two ways -/
def Trip (rows : List (List Int)) (us : List Nat) (last : Nat) : Nat → List Nat → Prop
  | _, [] => True
  | s, [u] => pairS rows us last u ≤ costAt rows s u + costAt rows u 0
  | s, u :: v :: q => pairS rows us last u ≤ costAt rows s u + costAt rows u v ∧ Trip rows us last u (v :: q)
theorem trip_ends : ∀ (q : List Nat) (s u : Nat), Trip rows us last s (u :: q) → sumL ((u :: q).map (pairS rows us last)) + costAt rows s u + costAt rows ((u :: q).getLast (by simp)) 0 ≤ 2 * pathT rows s (u :: q)
  | [], s, u, h => by
    simp only [Trip] at h
    simp only [List.map_cons, List.map_nil, sumL, List.getLast_singleton, pathT]
    omega
  | v :: q, s, u, h => by
    simp only [Trip] at h
    have ih := trip_ends q u v h.2
    have e : (u :: v :: q).getLast (by simp) = (v :: q).getLast (by simp) := List.getLast_cons (by simp)
    rw [e]
    simp only [List.map_cons, sumL, pathT] at ih ⊢
    omega
theorem trip_of (sym : ∀ a b, (a = last ∨ a ∈ us) → (b = last ∨ b ∈ us) → costAt rows a b = costAt rows b a) (hu : us.Nodup) (hl : last ∉ us) (h0 : 0 ∉ us) : ∀ (q : List Nat) (s : Nat), q.Nodup → (∀ x ∈ q, x ∈ us) → s ∉ q → (s = last ∨ s ∈ us) → Trip rows us last s q
  | [], _, _, _, _, _ => trivial
  | [u], s, _, hq, hs, hsl => by
    have huu := hq u (by simp)
    have hne : u ≠ s := fun e => hs (by simp [e])
    have := meet_ge (rows := rows) (us := us) (last := last) (u := u) (a := s) (b := 0) hu (hsl.imp id fun h => ⟨h, hne⟩) (.inl rfl) (fun _ h => absurd h h0) hl h0
    rw [sym u s (.inr huu) hsl] at this
    exact this
  | u :: v :: q, s, hn, hq, hs, hsl => by
    have huu := hq u (by simp)
    have hvv := hq v (by simp)
    have hne : u ≠ s := fun e => hs (by simp [e])
    have hn' := List.nodup_cons.1 hn
    have huv : u ≠ v := fun e => hn'.1 (by simp [e])
    have hsv : s ≠ v := fun e => hs (by simp [e])
    have := meet_ge (rows := rows) (us := us) (last := last) (u := u) (a := s) (b := v) hu (hsl.imp id fun h => ⟨h, hne⟩) (.inr ⟨hvv, huv⟩) (fun _ _ => hsv) hl h0
    rw [sym u s (.inr huu) hsl] at this
    exact ⟨this, trip_of sym hu hl h0 (v :: q) u hn'.2 (fun x hx => hq x (by simp [hx])) hn'.1 (.inr huu)⟩
theorem endsT_le (num : ∀ a b, (a = last ∨ a ∈ us) → (b = 0 ∨ b ∈ us) → 0 ≤ costAt rows a b) (sym : ∀ a b, (a = last ∨ a ∈ us) → (b = last ∨ b ∈ us) → costAt rows a b = costAt rows b a) (hu : us.Nodup) (hl : last ∉ us) (h0 : 0 ∉ us) {q : List Nat} (hq : q.Perm us) (hne : us ≠ []) : endsT rows us last ≤ 2 * pathT rows last q := by
  match q, hq with
  | [], hq => exact absurd (List.Perm.eq_nil hq.symm) hne
  | u :: q, hq =>
    have hsub : ∀ x ∈ u :: q, x ∈ us := fun x hx => hq.mem_iff.1 hx
    have h1 := trip_ends q last u (trip_of sym hu hl h0 (u :: q) last (hq.nodup_iff.2 hu) hsub (fun h => hl (hsub _ h)) (.inl rfl))
    have h2 := (leastN_le (f := fun u => costAt rows last u) (l := us) (b := -1) fun x hx => num last x (.inl rfl) (.inr hx)).1 u (hsub u (by simp))
    have h3 := (leastN_le (f := fun u => costAt rows u 0) (l := us) (b := -1) fun x hx => num x 0 (.inr hx) (.inl rfl)).1 _ (hsub _ (List.getLast_mem (l := u :: q) (by simp)))
    have e := sumL_perm (hq.map (pairS rows us last))
    have e2 : sumL (us.map (pairS rows us last)) = sumL (us.map fun u => (pairT rows us last u).1 + (pairT rows us last u).2) := rfl
    unfold endsT
    rw [← e2, ← e]
    omega
end
/-- where a beginning has come to, and what its ways cost -/
def lastT : Nat → List Int → Nat
  | s, [] => s
  | _, c :: p => lastT c.toNat p
def wayC (rows : List (List Int)) : Nat → List Int → Int
  | _, [] => 0
  | s, c :: p => costAt rows s c.toNat + wayC rows c.toNat p
theorem walkT_eq (rows : List (List Int)) : ∀ (p : List Int) (m last : Nat) (cost : Int), walkT rows m last cost p = (freeM m p).map fun q => (q, lastT last p, cost + wayC rows last p)
  | [], m, last, cost => by simp [walkT, freeM, lastT, wayC]
  | c :: p, m, last, cost => by
    unfold walkT freeM
    split
    · rw [walkT_eq rows p]
      cases freeM (clrM m c.toNat) p with
      | none => rfl
      | some q =>
        simp only [Option.map_some, lastT, wayC, Option.some.injEq, Prod.mk.injEq, true_and]
        omega
    · rfl
theorem lastT_mem : ∀ (l : List Nat) (s : Nat), lastT s (intsN l) = s ∨ lastT s (intsN l) ∈ l
  | [], s => .inl rfl
  | c :: l, s => by
    have ih := lastT_mem l c
    simp only [intsN, List.map_cons, lastT, Int.toNat_natCast] at ih ⊢
    rcases ih with h | h
    · right; rw [h]; simp
    · right; simp [h]
theorem pathT_app (rows : List (List Int)) : ∀ (l q : List Nat) (s : Nat), pathT rows s (l ++ q) = wayC rows s (intsN l) + pathT rows (lastT s (intsN l)) q
  | [], q, s => by simp [wayC, intsN, lastT]
  | c :: l, q, s => by
    have := pathT_app rows l q c
    simp only [List.cons_append, pathT, intsN, List.map_cons, wayC, lastT, Int.toNat_natCast] at this ⊢
    omega
/-- the tour's first city is not among what is left -/
def restM (n : Nat) : Nat := clrM (2 ^ n - 1) 0
theorem restM_sub {n : Nat} (h : n ≤ 24) : SubN n (restM n) := (subN_full h).clr 0
theorem restM_mem {n : Nat} (h : n ≤ 24) {x : Nat} : x ∈ memsM (restM n) ↔ x < n ∧ x ≠ 0 := by
  unfold restM
  rw [clr_mem (subN_full h).1, memsM_full (by omega), List.mem_range]
theorem restM_len {n : Nat} (h1 : 1 ≤ n) (h : n ≤ 24) : (memsM (restM n)).length = n - 1 := by
  have h2 := filter_ne_len (memsM_sorted (2 ^ n - 1)) (i := 0) (by rw [memsM_full (by omega)]; simp; omega)
  rw [← memsM_clr (subN_full h).1, memsM_full (by omega), List.length_range] at h2
  unfold restM
  omega
structure WalkOk (rows : List (List Int)) (p : List Int) (m last : Nat) (cost : Int) (l : List Nat) : Prop where
  eq : p = intsN l
  nodup : l.Nodup
  inn : ∀ x ∈ l, x < rows.length ∧ x ≠ 0
  rest : ∀ x, x ∈ memsM m ↔ (x < rows.length ∧ x ≠ 0) ∧ x ∉ l
  len : (memsM m).length + l.length = rows.length - 1
  sub : SubN rows.length m
  last : last = lastT 0 (intsN l)
  cost : cost = wayC rows 0 (intsN l)
theorem walk_ok {rows : List (List Int)} (h1 : 1 ≤ rows.length) (h24 : rows.length ≤ 24) {p : List Int} {m last : Nat} {cost : Int} (h : walkP rows p = some (m, last, cost)) : ∃ l, WalkOk rows p m last cost l := by
  unfold walkP at h
  split at h
  · cases h
  · rw [walkT_eq] at h
    cases hf : freeM (clrM (2 ^ rows.length - 1) 0) p with
    | none => rw [hf] at h; cases h
    | some q =>
      rw [hf] at h
      simp only [Option.map_some, Option.some.injEq, Prod.mk.injEq] at h
      obtain ⟨rfl, rfl, rfl⟩ := h
      have hs := restM_sub h24
      obtain ⟨l, rfl, a1, a2, a3⟩ := freeM_cols hs hf
      have a4 := freeM_len hs hf
      rw [restM_len h1 h24, intsN_len] at a4
      exact ⟨l, rfl, a1, fun x hx => (restM_mem h24).1 (a2 x hx), fun x => by rw [a3 x, restM_mem h24], a4, freeM_sub hs hf, rfl, by omega⟩
theorem walkT_snoc (rows : List (List Int)) {c : Nat} (hc64 : c < 64) : ∀ {p : List Int} {m0 m s last : Nat} {c0 cost : Int}, walkT rows m0 s c0 p = some (m, last, cost) → m.testBit c = true → walkT rows m0 s c0 (p ++ [(c : Int)]) = some (clrM m c, c, cost + costAt rows last c)
  | [], m0, m, s, last, c0, cost, h, hb => by
    simp only [walkT, Option.some.injEq, Prod.mk.injEq] at h
    obtain ⟨rfl, rfl, rfl⟩ := h
    show walkT rows m0 s c0 ((c : Int) :: []) = _
    unfold walkT
    rw [if_pos ⟨by omega, by omega, by rw [Int.toNat_natCast]; exact hb⟩, Int.toNat_natCast]
    rfl
  | d :: p, m0, m, s, last, c0, cost, h, hb => by
    show walkT rows m0 s c0 (d :: (p ++ [(c : Int)])) = _
    unfold walkT at h ⊢
    split at h
    · rename_i hd
      rw [if_pos hd]
      exact walkT_snoc rows hc64 h hb
    · cases h
theorem walkP_snoc {rows : List (List Int)} (h1 : 1 ≤ rows.length) (h24 : rows.length ≤ 24) {p : List Int} {m last : Nat} {cost : Int} (h : walkP rows p = some (m, last, cost)) {c : Nat} (hc : c ∈ memsM m) : walkP rows (p ++ [(c : Int)]) = some (clrM m c, c, cost + costAt rows last c) := by
  obtain ⟨l, W⟩ := walk_ok h1 h24 h
  have hpos : 0 < (memsM m).length := List.length_pos_of_mem hc
  have hlen := W.len
  have hpl : p.length = l.length := by rw [W.eq, intsN_len]
  have hb := memsM_mem.1 hc
  unfold walkP at h ⊢
  rw [if_neg (by omega)] at h
  rw [if_neg (by rw [List.length_append, List.length_singleton]; omega)]
  exact walkT_snoc rows hb.1 h hb.2
/-- the least cost of all tours that begin so, by trying -/
def bestT (rows : List (List Int)) : Nat → List Int → Int
  | 0, p => pathT rows 0 (p.map Int.toNat)
  | f + 1, p => leastF (fun x => bestT rows f (p ++ [x])) (-1) (match walkP rows p with | none => [] | some (m, _, _) => intsN (memsM m))
theorem toNat_ints : ∀ l : List Nat, (intsN l).map Int.toNat = l
  | [] => rfl
  | c :: l => by
    have := toNat_ints l
    simp only [intsN, List.map_cons, Int.toNat_natCast] at this ⊢
    rw [this]
theorem pathT_pos {rows : List (List Int)} (num : ∀ a b, a < rows.length → b < rows.length → 0 ≤ costAt rows a b) : ∀ (q : List Nat) (s : Nat), s < rows.length → (∀ x ∈ q, x < rows.length) → 0 ≤ pathT rows s q
  | [], s, hs, _ => num s 0 hs (by omega)
  | u :: q, s, hs, h => by
    have h1 := num s u hs (h u (by simp))
    have h2 := pathT_pos num q u (h u (by simp)) fun x hx => h x (by simp [hx])
    simp only [pathT]
    omega
theorem bestT_some {rows : List (List Int)} (h1 : 1 ≤ rows.length) (h24 : rows.length ≤ 24) (num : ∀ a b, a < rows.length → b < rows.length → 0 ≤ costAt rows a b) : ∀ (f : Nat) (p : List Int) (m last : Nat) (cost : Int) (l : List Nat), walkP rows p = some (m, last, cost) → WalkOk rows p m last cost l → f = rows.length - 1 - p.length → ∃ q : List Nat, q.Perm (memsM m) ∧ bestT rows f p = pathT rows 0 (l ++ q)
  | 0, p, m, last, cost, l, hp, W, hf => by
    have hlen := W.len
    have hpl : p.length = l.length := by rw [W.eq, intsN_len]
    refine ⟨[], ?_, by rw [List.append_nil]; show pathT rows 0 (p.map Int.toNat) = _; rw [W.eq, toNat_ints]⟩
    rw [List.eq_nil_of_length_eq_zero (show (memsM m).length = 0 by omega)]
  | f + 1, p, m, last, cost, l, hp, W, hf => by
    have hlen := W.len
    have hpl : p.length = l.length := by rw [W.eq, intsN_len]
    have ih : ∀ c ∈ memsM m, ∃ q : List Nat, q.Perm (memsM (clrM m c)) ∧ bestT rows f (p ++ [(c : Int)]) = pathT rows 0 ((l ++ [c]) ++ q) := fun c hc => by
      have hs := walkP_snoc h1 h24 hp hc
      obtain ⟨l', W'⟩ := walk_ok h1 h24 hs
      have e : l' = l ++ [c] := by
        have := W'.eq
        rw [W.eq] at this
        have h2 := congrArg (List.map Int.toNat) this
        rw [toNat_ints] at h2
        rw [← h2, List.map_append, toNat_ints]
        rfl
      subst e
      exact bestT_some h1 h24 num f _ _ _ _ _ hs W' (by rw [List.length_append, List.length_singleton]; omega)
    have hpos : ∀ x ∈ intsN (memsM m), 0 ≤ bestT rows f (p ++ [x]) := fun x hx => by
      obtain ⟨c, hc, rfl⟩ := List.mem_map.1 hx
      obtain ⟨q, a1, a2⟩ := ih c hc
      rw [a2]
      refine pathT_pos num _ _ (by omega) fun y hy => ?_
      rcases List.mem_append.1 hy with hy | hy
      · rcases List.mem_append.1 hy with hy | hy
        · exact (W.inn y hy).1
        · obtain rfl := List.mem_singleton.1 hy
          exact ((W.rest y).1 hc).1.1
      · exact ((W.rest y).1 ((clr_mem W.sub.1).1 (a1.mem_iff.1 hy)).1).1.1
    have hne : memsM m ≠ [] := by
      intro e
      rw [e] at hlen
      simp at hlen
      omega
    have e : bestT rows (f + 1) p = leastF (fun x => bestT rows f (p ++ [x])) (-1) (intsN (memsM m)) := by
      show leastF _ (-1) (match walkP rows p with | none => [] | some (m, _, _) => intsN (memsM m)) = _
      rw [hp]
    rcases leastF_in (b := -1) hpos (.inr (by simpa [intsN] using hne)) with ⟨_, h⟩ | ⟨x, hx, h⟩
    · omega
    · obtain ⟨c, hc, rfl⟩ := List.mem_map.1 hx
      obtain ⟨q, a1, a2⟩ := ih c hc
      refine ⟨c :: q, ?_, ?_⟩
      · refine (a1.cons c).trans ?_
        refine (List.perm_ext_iff_of_nodup ?_ ((memsM_sorted m).imp fun h => Nat.ne_of_lt h)).2 fun x => ?_
        · refine List.nodup_cons.2 ⟨fun h => ((clr_mem W.sub.1).1 h).2 rfl, (memsM_sorted _).imp fun h => Nat.ne_of_lt h⟩
        · rw [List.mem_cons, clr_mem W.sub.1]
          constructor
          · rintro (rfl | ⟨h, _⟩)
            · exact hc
            · exact h
          · intro h
            by_cases e : x = c
            · exact .inl e
            · exact .inr ⟨h, e⟩
      · rw [e, h, a2]
        simp
/-- a bound is no number below nought, and none above the least cost -/
theorem boundT_below {rows : List (List Int)} {mirror : Bool} (h1 : 1 ≤ rows.length) (h24 : rows.length ≤ 24) (num : ∀ a b, a < rows.length → b < rows.length → 0 ≤ costAt rows a b ∧ costAt rows a b ≤ 2147483647) (sym : mirror = true → ∀ a b, a < rows.length → b < rows.length → costAt rows a b = costAt rows b a) {p : List Int} {m last : Nat} {cost : Int} (hp : walkP rows p = some (m, last, cost)) :
    0 ≤ (boundT rows mirror p).1 ∧ (boundT rows mirror p).1 ≤ bestT rows (rows.length - 1 - p.length) p ∧ (boundT rows mirror p).2 = 0 := by
  obtain ⟨l, W⟩ := walk_ok h1 h24 hp
  obtain ⟨q, a1, a2⟩ := bestT_some h1 h24 (fun a b x y => (num a b x y).1) _ p m last cost l hp W rfl
  have hll : last < rows.length := by
    rw [W.last]
    rcases lastT_mem l 0 with h | h
    · rw [h]; omega
    · exact (W.inn _ h).1
  have hus : ∀ x ∈ memsM m, x < rows.length := fun x hx => ((W.rest x).1 hx).1.1
  have h0 : 0 ∉ memsM m := fun h => ((W.rest 0).1 h).1.2 rfl
  have hnl : last ∉ memsM m := fun h => by
    have h2 := (W.rest last).1 h
    rcases lastT_mem l 0 with h3 | h3
    · exact h2.1.2 (by rw [W.last, h3])
    · exact h2.2 (by rw [W.last]; exact h3)
  have hnd : (memsM m).Nodup := (memsM_sorted m).imp fun h => Nat.ne_of_lt h
  have hA : ∀ a, (a = last ∨ a ∈ memsM m) → a < rows.length := fun a h => h.elim (fun e => by rw [e]; exact hll) (hus a)
  have num' : ∀ a b, (a = last ∨ a ∈ memsM m) → (b = 0 ∨ b ∈ memsM m) → 0 ≤ costAt rows a b ∧ costAt rows a b ≤ 2147483647 := fun a b ha hb => num a b (hA a ha) (hb.elim (fun e => by omega) (hus b))
  have hway : 0 ≤ cost := by
    rw [W.cost]
    have key : ∀ (l : List Nat) (s : Nat), s < rows.length → (∀ x ∈ l, x < rows.length) → 0 ≤ wayC rows s (intsN l) := by
      intro l
      induction l with
      | nil => intro s _ _; simp [wayC, intsN]
      | cons c l ih =>
        intro s hs h
        have h2 := (num s c hs (h c (by simp))).1
        have h3 := ih c (h c (by simp)) fun x hx => h x (by simp [hx])
        simp only [intsN, List.map_cons, wayC, Int.toNat_natCast] at h3 ⊢
        omega
    exact key l 0 (by omega) fun x hx => (W.inn x hx).1
  have hb : boundT rows mirror p = (cost + (if memsM m = [] then costAt rows last 0 else if mirror = true then max (reduceT rows (memsM m) last) ((endsT rows (memsM m) last + 1) / 2) else reduceT rows (memsM m) last), 0) := by unfold boundT; rw [hp]
  rw [hb, a2, pathT_app, ← W.last, ← W.cost]
  simp only
  by_cases he : memsM m = []
  · rw [if_pos he]
    have : q = [] := List.Perm.eq_nil (he ▸ a1)
    subst this
    have := (num' last 0 (.inl rfl) (.inl rfl)).1
    exact ⟨by omega, by simp only [pathT]; omega, trivial⟩
  · rw [if_neg he]
    have r1 := reduceT_le num' (List.nodup_cons.2 ⟨hnl, hnd⟩) he h0 a1
    have r0 : 0 ≤ reduceT rows (memsM m) last := by
      have k1 : 0 ≤ sumL ((last :: memsM m).map fun src => offT rows (memsM m) last src) := sumL_pos fun x hx => by
        obtain ⟨y, _, rfl⟩ := List.mem_map.1 hx
        unfold offT
        omega
      have k2 : 0 ≤ sumL ((0 :: memsM m).map fun dst => max (colT rows (memsM m) last dst) 0) := sumL_pos fun x hx => by
        obtain ⟨y, _, rfl⟩ := List.mem_map.1 hx
        omega
      unfold reduceT
      omega
    cases hm : mirror with
    | false => exact ⟨by simp only [if_neg (show ¬ (false = true) by simp)]; omega, by simp only [if_neg (show ¬ (false = true) by simp)]; omega, trivial⟩
    | true =>
      have r2 := endsT_le (fun a b x y => (num' a b x y).1) (fun a b ha hb => sym hm a b (hA a ha) (hA b hb)) hnd hnl h0 a1 he
      simp only [if_true]
      refine ⟨by omega, by omega, trivial⟩
end Go.Proofs.Ytcpadkaljnnieaa
namespace Go.Proofs.Ytcpadkaljnnieaa

theorem leastF_low {f : Int → Int} : ∀ {l : List Int} {b : Int}, (∀ x ∈ l, 0 ≤ f x) → (∀ x ∈ l, leastF f b l ≤ f x) ∧ (0 ≤ b → leastF f b l ≤ b)
  | [], b, _ => ⟨(fun x h => by simp at h), fun _ => Int.le_refl _⟩
  | x :: l, b, h => by
    have hx := h x (by simp)
    have ih := leastF_low (f := f) (l := l) (b := if b < 0 then f x else if f x < b then f x else b) (fun y hy => h y (by simp [hy]))
    have h2 := ih.2 (by split <;> (try split) <;> omega)
    unfold leastF
    refine ⟨fun y hy => ?_, fun hb => ?_⟩
    · rcases List.mem_cons.1 hy with rfl | hy
      · refine Int.le_trans h2 ?_
        split <;> (try split) <;> omega
      · exact ih.1 y hy
    · refine Int.le_trans h2 ?_
      split <;> (try split) <;> omega
theorem perm_tail {m c : Nat} (hm : m < 18446744073709551616) {q : List Nat} (h : (c :: q).Perm (memsM m)) : q.Perm (memsM (clrM m c)) := by
  have hnd : (c :: q).Nodup := h.nodup_iff.2 ((memsM_sorted m).imp fun h => Nat.ne_of_lt h)
  obtain ⟨h1, h2⟩ := List.nodup_cons.1 hnd
  refine (List.perm_ext_iff_of_nodup h2 ((memsM_sorted _).imp fun h => Nat.ne_of_lt h)).2 fun x => ?_
  rw [clr_mem hm, ← h.mem_iff, List.mem_cons]
  constructor
  · intro hx
    exact ⟨.inr hx, fun e => h1 (e ▸ hx)⟩
  · rintro ⟨rfl | hx, hne⟩
    · exact absurd rfl hne
    · exact hx
theorem bestA_le {rows : List (List Int)} (h24 : rows.length ≤ 24) (num : ∀ row ∈ rows, ∀ c, c < rows.length → 0 ≤ row.getD c 0) : ∀ (f : Nat) (p : List Int) (m : Nat), freeP rows.length p = some m → f = rows.length - p.length → ∀ q : List Nat, q.Perm (memsM m) → bestA rows rows.length f p ≤ costF rows (p ++ intsN q)
  | 0, p, m, hp, hf => fun q hq => by
    have hlen := freeP_len h24 hp
    have h0 : q = [] := List.eq_nil_of_length_eq_zero (by rw [hq.length_eq]; omega)
    subst h0
    simp [bestA, intsN]
  | f + 1, p, m, hp, hf => fun q hq => by
    have hlen := freeP_len h24 hp
    have hsub := (freeP_in h24 hp).2.2
    have hpos : ∀ x ∈ intsN (memsM m), 0 ≤ bestA rows rows.length f (p ++ [x]) := fun x hx => by
      obtain ⟨c, hc, rfl⟩ := List.mem_map.1 hx
      obtain ⟨q', h1, h2⟩ := best_some h24 num f _ _ (freeP_snoc h24 hp hc) (by rw [List.length_append, List.length_singleton]; omega)
      rw [h2]
      have hin := (freeP_in h24 hp).2.1
      have : ∀ (rs : List (List Int)) (l : List Int), (∀ row ∈ rs, row ∈ rows) → (∀ x ∈ l, 0 ≤ x ∧ x < rows.length) → 0 ≤ costF rs l := by
        intro rs
        induction rs with
        | nil => intro l _ _; simp [costF]
        | cons r rs ihr =>
          intro l h3 h4
          cases l with
          | nil => simp [costF]
          | cons d l =>
            have h5 := h4 d (by simp)
            have h6 := num r (h3 r (by simp)) d.toNat (by omega)
            have h7 := ihr l (fun y hy => h3 y (by simp [hy])) (fun y hy => h4 y (by simp [hy]))
            simp only [costF]
            omega
      refine this rows _ (fun _ h => h) fun y hy => ?_
      rcases List.mem_append.1 hy with hy | hy
      · rcases List.mem_append.1 hy with hy | hy
        · exact hin y hy
        · obtain rfl := List.mem_singleton.1 hy
          have := hsub.2 c hc
          omega
      · obtain ⟨d, hd, rfl⟩ := List.mem_map.1 hy
        have := hsub.2 d (((clr_mem hsub.1).1 (h1.mem_iff.1 hd)).1)
        omega
    have e : bestA rows rows.length (f + 1) p = leastF (fun x => bestA rows rows.length f (p ++ [x])) (-1) (intsN (memsM m)) := by
      show leastF _ (-1) (match freeP rows.length p with | none => [] | some m => intsN (memsM m)) = _
      rw [hp]
    rw [e]
    cases q with
    | nil =>
      have := hq.length_eq
      simp at this
      omega
    | cons c q =>
      have hc : c ∈ memsM m := hq.mem_iff.1 (by simp)
      refine Int.le_trans ((leastF_low hpos).1 (c : Int) (List.mem_map.2 ⟨c, hc, rfl⟩)) ?_
      have h := bestA_le h24 num f _ _ (freeP_snoc h24 hp hc) (by rw [List.length_append, List.length_singleton]; omega) q (perm_tail hsub.1 hq)
      have e2 : p ++ intsN (c :: q) = p ++ [(c : Int)] ++ intsN q := by simp [intsN]
      rw [e2]
      exact h
theorem bestT_le {rows : List (List Int)} (h1 : 1 ≤ rows.length) (h24 : rows.length ≤ 24) (num : ∀ a b, a < rows.length → b < rows.length → 0 ≤ costAt rows a b) : ∀ (f : Nat) (p : List Int) (m last : Nat) (cost : Int) (l : List Nat), walkP rows p = some (m, last, cost) → WalkOk rows p m last cost l → f = rows.length - 1 - p.length → ∀ q : List Nat, q.Perm (memsM m) → bestT rows f p ≤ pathT rows 0 (l ++ q)
  | 0, p, m, last, cost, l, hp, W, hf => fun q hq => by
    have hlen := W.len
    have hpl : p.length = l.length := by rw [W.eq, intsN_len]
    have h0 : q = [] := List.eq_nil_of_length_eq_zero (by rw [hq.length_eq]; omega)
    subst h0
    rw [List.append_nil]
    show pathT rows 0 (p.map Int.toNat) ≤ _
    rw [W.eq, toNat_ints]
    exact Int.le_refl _
  | f + 1, p, m, last, cost, l, hp, W, hf => fun q hq => by
    have hlen := W.len
    have hpl : p.length = l.length := by rw [W.eq, intsN_len]
    have nx : ∀ c ∈ memsM m, ∃ (m' last' : Nat) (cost' : Int), walkP rows (p ++ [(c : Int)]) = some (m', last', cost') ∧ m' = clrM m c ∧ WalkOk rows (p ++ [(c : Int)]) m' last' cost' (l ++ [c]) := fun c hc => by
      have hs := walkP_snoc h1 h24 hp hc
      obtain ⟨l', W'⟩ := walk_ok h1 h24 hs
      have e : l' = l ++ [c] := by
        have := W'.eq
        rw [W.eq] at this
        have h2 := congrArg (List.map Int.toNat) this
        rw [toNat_ints] at h2
        rw [← h2, List.map_append, toNat_ints]
        rfl
      subst e
      exact ⟨_, _, _, hs, rfl, W'⟩
    have hpos : ∀ x ∈ intsN (memsM m), 0 ≤ bestT rows f (p ++ [x]) := fun x hx => by
      obtain ⟨c, hc, rfl⟩ := List.mem_map.1 hx
      obtain ⟨m', last', cost', hs, rfl, W'⟩ := nx c hc
      obtain ⟨q', a1, a2⟩ := bestT_some h1 h24 num f _ _ _ _ _ hs W' (by rw [List.length_append, List.length_singleton]; omega)
      rw [a2]
      refine pathT_pos num _ _ (by omega) fun y hy => ?_
      rcases List.mem_append.1 hy with hy | hy
      · exact (W'.inn y hy).1
      · exact ((W'.rest y).1 (a1.mem_iff.1 hy)).1.1
    have e : bestT rows (f + 1) p = leastF (fun x => bestT rows f (p ++ [x])) (-1) (intsN (memsM m)) := by
      show leastF _ (-1) (match walkP rows p with | none => [] | some (m, _, _) => intsN (memsM m)) = _
      rw [hp]
    rw [e]
    cases q with
    | nil =>
      have := hq.length_eq
      simp at this
      omega
    | cons c q =>
      have hc : c ∈ memsM m := hq.mem_iff.1 (by simp)
      refine Int.le_trans ((leastF_low hpos).1 (c : Int) (List.mem_map.2 ⟨c, hc, rfl⟩)) ?_
      obtain ⟨m', last', cost', hs, rfl, W'⟩ := nx c hc
      have h := bestT_le h1 h24 num f _ _ _ _ _ hs W' (by rw [List.length_append, List.length_singleton]; omega) q (perm_tail W.sub.1 hq)
      rw [List.append_assoc] at h
      exact h
/-- the better one of two, -1 is none -/
def pkB (b c : Int) : Int := if 0 ≤ c ∧ (b < 0 ∨ c < b) then c else b
/-- the least cost of all answers to a knapsack that begin so; -1: there is none -/
def best1 (cap : Int) (ws vs : List Int) : Nat → List Int → Int
  | 0, x => if cap < takenL x ws then -1 else leftL x vs
  | f + 1, x => pkB (pkB (-1) (best1 cap ws vs f (x ++ [0]))) (best1 cap ws vs f (x ++ [1]))
/-- an answer that begins so -/
def ExtB (n : Nat) (x y : List Int) : Prop := (∃ s, y = x ++ s) ∧ y.length = n ∧ ∀ v ∈ y, v = 0 ∨ v = 1
theorem extB_step {n : Nat} {x y : List Int} (h : ExtB n x y) (hl : x.length < n) : ExtB n (x ++ [0]) y ∨ ExtB n (x ++ [1]) y := by
  obtain ⟨⟨s, rfl⟩, h1, h2⟩ := h
  cases s with
  | nil => simp at h1; omega
  | cons a s =>
    rcases h2 a (by simp) with rfl | rfl
    · exact .inl ⟨⟨s, by simp⟩, h1, h2⟩
    · exact .inr ⟨⟨s, by simp⟩, h1, h2⟩
theorem extB_back {n : Nat} {x y : List Int} {b : Int} (h : ExtB n (x ++ [b]) y) : ExtB n x y := by
  obtain ⟨⟨s, rfl⟩, h1, h2⟩ := h
  exact ⟨⟨b :: s, by simp⟩, h1, h2⟩
theorem leftL_pos {vs : List Int} (hv : ∀ x ∈ vs, 0 ≤ x) : ∀ (x : List Int), 0 ≤ leftL x vs := fun x => by
  unfold leftL
  refine sumL_nonneg fun z hz => ?_
  obtain ⟨k, hk, rfl⟩ := List.mem_iff_getElem.1 hz
  rw [List.getElem_zipWith]
  have := hv _ (List.getElem_mem (by simp at hk; omega : k < vs.length))
  split <;> omega
theorem best1_law {cap : Int} {ws vs : List Int} {n : Nat} (hv : ∀ x ∈ vs, 0 ≤ x) : ∀ (f : Nat) (x : List Int), (∀ v ∈ x, v = 0 ∨ v = 1) → x.length + f = n →
    (best1 cap ws vs f x = -1 ∨ ∃ y, ExtB n x y ∧ takenL y ws ≤ cap ∧ best1 cap ws vs f x = leftL y vs) ∧ ∀ y, ExtB n x y → takenL y ws ≤ cap → 0 ≤ best1 cap ws vs f x ∧ best1 cap ws vs f x ≤ leftL y vs
  | 0, x, h01, hl => by
    unfold best1
    by_cases hc : cap < takenL x ws
    · rw [if_pos hc]
      refine ⟨.inl rfl, fun y hy hy2 => ?_⟩
      obtain ⟨⟨s, rfl⟩, h1, h2⟩ := hy
      have : s = [] := List.eq_nil_of_length_eq_zero (by simp at h1; omega)
      subst this
      rw [List.append_nil] at hy2
      omega
    · rw [if_neg hc]
      refine ⟨.inr ⟨x, ⟨⟨[], by simp⟩, by omega, h01⟩, by omega, rfl⟩, fun y hy hy2 => ?_⟩
      obtain ⟨⟨s, rfl⟩, h1, h2⟩ := hy
      have : s = [] := List.eq_nil_of_length_eq_zero (by simp at h1; omega)
      subst this
      rw [List.append_nil]
      exact ⟨leftL_pos hv x, Int.le_refl _⟩
  | f + 1, x, h01, hl => by
    have g0 : ∀ v ∈ x ++ [0], v = 0 ∨ v = 1 := fun v hv => by
      rcases List.mem_append.1 hv with h | h
      · exact h01 v h
      · exact .inl (List.mem_singleton.1 h)
    have g1 : ∀ v ∈ x ++ [1], v = 0 ∨ v = 1 := fun v hv => by
      rcases List.mem_append.1 hv with h | h
      · exact h01 v h
      · exact .inr (List.mem_singleton.1 h)
    obtain ⟨a1, a2⟩ := best1_law (cap := cap) (ws := ws) (n := n) hv f (x ++ [0]) g0 (by simp; omega)
    obtain ⟨b1, b2⟩ := best1_law (cap := cap) (ws := ws) (n := n) hv f (x ++ [1]) g1 (by simp; omega)
    have e : best1 cap ws vs (f + 1) x = pkB (pkB (-1) (best1 cap ws vs f (x ++ [0]))) (best1 cap ws vs f (x ++ [1])) := rfl
    rw [e]
    have a3 : -1 ≤ best1 cap ws vs f (x ++ [0]) := by
      rcases a1 with h | ⟨y, _, _, h⟩
      · omega
      · have := leftL_pos hv y; omega
    have b3 : -1 ≤ best1 cap ws vs f (x ++ [1]) := by
      rcases b1 with h | ⟨y, _, _, h⟩
      · omega
      · have := leftL_pos hv y; omega
    generalize best1 cap ws vs f (x ++ [0]) = a at *
    generalize best1 cap ws vs f (x ++ [1]) = b at *
    have e1 : pkB (-1) a = a := by
      unfold pkB
      split <;> omega
    rw [e1]
    have e2 : (pkB a b = a ∧ (b = -1 ∨ (0 ≤ a ∧ a ≤ b))) ∨ (pkB a b = b ∧ 0 ≤ b ∧ (a = -1 ∨ b < a)) := by
      unfold pkB
      split <;> omega
    constructor
    · rcases e2 with ⟨h, _⟩ | ⟨h, _⟩
      · rw [h]
        rcases a1 with h2 | ⟨y, h3, h4, h5⟩
        · exact .inl h2
        · exact .inr ⟨y, extB_back h3, h4, h5⟩
      · rw [h]
        rcases b1 with h2 | ⟨y, h3, h4, h5⟩
        · exact .inl h2
        · exact .inr ⟨y, extB_back h3, h4, h5⟩
    · intro y hy hc
      rcases extB_step hy (by omega) with h | h
      · have := a2 y h hc
        omega
      · have := b2 y h hc
        omega
end Go.Proofs.Ytcpadkaljnnieaa
namespace Go.Proofs.Ytcpadkaljnnieaa

/-- what is left of a round trip behind its first so many ways -/
def restW (co : List (List Int)) : List Nat → Int
  | [] => 0
  | u :: q => pathT co u q
theorem pathT_bd {rows : List (List Int)} (num : ∀ a b, a < rows.length → b < rows.length → 0 ≤ costAt rows a b ∧ costAt rows a b ≤ 2147483647) : ∀ (q : List Nat) (s : Nat), s < rows.length → (∀ x ∈ q, x < rows.length) → 0 ≤ pathT rows s q ∧ pathT rows s q ≤ 2147483647 * ((q.length : Int) + 1)
  | [], s, hs, _ => by have := num s 0 hs (by omega); simp only [pathT, List.length_nil]; omega
  | u :: q, s, hs, h => by
    have h1 := num s u hs (h u (by simp))
    have h2 := pathT_bd num q u (h u (by simp)) fun x hx => h x (by simp [hx])
    simp only [pathT, List.length_cons]
    omega
theorem intsN_at {l : List Nat} {k y : Nat} (h : l[k]? = some y) : (intsN l)[k]? = some (y : Int) := by simp [intsN, h]
end Go.Proofs.Ytcpadkaljnnieaa
namespace Go.Proofs.Ytcpadkaljnnieaa
open Go.RowKit Go.ChangeShapes Go.WideShapes Go.ChangeAt Go.Deep

/-- does each way cost what the way back does? -/
def mirP (rows : List (List Int)) : Bool := decide (∀ x, x < rows.length → ∀ y, y < x → costAt rows x y = costAt rows y x)
theorem mirP_true {rows : List (List Int)} (h : ∀ x, x < rows.length → ∀ y, y < x → costAt rows x y = costAt rows y x) : mirP rows = true := decide_eq_true h
theorem mirP_false {rows : List (List Int)} {x y : Nat} (hx : x < rows.length) (hy : y < x) (h : costAt rows x y ≠ costAt rows y x) : mirP rows = false := decide_eq_false fun k => h (k x hx y hy)
theorem mirP_sym {rows : List (List Int)} (h : mirP rows = true) (a b : Nat) (ha : a < rows.length) (hb : b < rows.length) : costAt rows a b = costAt rows b a := by
  have k := of_decide_eq_true h
  rcases Nat.lt_trichotomy a b with hc | hc | hc
  · exact (k b hb a hc).symm
  · subst hc; rfl
  · exact k a ha b hc
set_option maxRecDepth 100000 in
set_option maxHeartbeats 4000000 in
theorem mirror_any (i : InstP) (us : List Value) (w : World) (H : RInst w us i) (hc : checkP i = 0) (hk : i.kind = 3) :
    Calls Try.prog 104 #[.agg (List.toArray us)] w fun e w' => e = .returned (.bool (mirP i.cost)) ∧ Ext w w' := by
  have ok := square_ok hc (by omega)
  have lw : i.weight.length ≤ 1000000000 := by rw [ok.w]; simp
  have lv : i.value.length ≤ 1000000000 := by rw [ok.v]; simp
  have CH := fun (W : World) (x : Ext w W) => check_any i us W (H.ext x) lw lv
  rw [hc] at CH
  have rok := rows_ok ok
  have n24 := rok.n2
  clear ok lw lv hc
  obtain ⟨kind, nn, cap, xw, xv, co⟩ := i
  obtain ⟨A, a, B, b, D, d, rfl, -, -, ⟨hC, -, -⟩⟩ := H
  simp only at *
  subst hk
  have B1 : Hid (Blk (w.alloc (.cells #[.int .i64 3, .int .i64 nn, .int .i64 cap, .slice A xw.length a, .slice B xv.length b, .slice D co.length d] 61)) w.heap.size 61 #[.int .i64 3, .int .i64 nn, .int .i64 cap, .slice A xw.length a, .slice B xv.length b, .slice D co.length d]) := .new rfl
  replace CH := Lib.hid CH
  replace hC := Lib.hid hC
  replace rok := Lib.hid rok
  obtain ⟨mm, hmm⟩ : ∃ mm, Hid (mirP co = mm) := ⟨_, rfl⟩
  rw [hmm.out]
  go_enter Try.func104, Try.ntmps104
  go_wp2_with (fail)
  refine (CH.out _ (by (repeat (first | assumption | exact Ext.rf _ | apply Ext.drew | apply Ext.drewN | apply Ext.alloc)))).mono ?_
  rintro e w1 ⟨rfl, x1⟩
  have X1 := Lib.hid (Ext.tr (a := w) (by (repeat (first | assumption | exact Ext.rf _ | apply Ext.drew | apply Ext.drewN | apply Ext.alloc))) x1)
  have BB := Lib.hid (B1.out.ext x1)
  have d5 : w1.cell? ⟨w.heap.size, 5, none⟩ = some (.slice D co.length d) := BB.out.cell 5
  clear x1
  go_wp2_with (fail)
  go_loopw [17] (fun v wr => ∃ k : Nat, v = .int .i64 k ∧ k ≤ co.length ∧ Hid (∀ x, x < k → ∀ y, y < x → costAt co x y = costAt co y x) ∧ Hid (Ext w1 wr)) (fun v _ => co.length - (intOf v).toNat)
  case atStart => exact ⟨0, rfl, by omega, fun x hx => absurd hx (Nat.not_lt_zero _), Ext.rf _⟩
  case round =>
    obtain ⟨wo, rfl⟩ : ∃ wo : World, wo = wr := ⟨_, rfl⟩
    obtain ⟨k, rfl, hk, HS, Y⟩ := hrel
    by_cases hlt : k < co.length
    · have XW : Hid (Ext w wo) := X1.out.tr Y.out
      obtain ⟨cb, cof, D', row, d', rfl, zb, cD, er, _, rD, iD, ld, md⟩ := (hC.out.ext XW.out fun _ _ h => h.ext XW.out).ints hlt
      have lrow := rok.out.row row (List.mem_of_getElem? er.out)
      have q1 : (k : Int) < (co.length : Int) := by omega
      replace er := Lib.hid er.out
      replace rD := Lib.hid rD
      go_wp2_with (fail)
      go_loopw [23] (fun v wr => ∃ j : Nat, v = .int .i64 j ∧ j ≤ k ∧ Hid (∀ y, y < j → costAt co k y = costAt co y k) ∧ Hid (Ext wo wr)) (fun v _ => k - (intOf v).toNat)
      case atStart => exact ⟨0, rfl, by omega, fun y hy => absurd hy (Nat.not_lt_zero _), Ext.rf _⟩
      case round =>
        obtain ⟨wi, rfl⟩ : ∃ wi : World, wi = wr := ⟨_, rfl⟩
        obtain ⟨j, rfl, hj, HJ, Z⟩ := hrel
        have XZ := Lib.hid (Ext.tr (a := w) (XW.out) Z.out)
        by_cases hlj : j < k
        · obtain ⟨cb', cof', D2, row2, d2, hq, zb2, cD2, er2, _, rD2, iD2, ld2, md2⟩ := (hC.out.ext XZ.out fun _ _ h => h.ext XZ.out).ints (r := j) (by omega)
          obtain ⟨rfl, rfl⟩ : cb = cb' ∧ cof = cof' := by simpa using hq
          have lrow2 := rok.out.row row2 (List.mem_of_getElem? er2.out)
          obtain ⟨rb, ro, x, rfl, zx, cx, ex, _⟩ := (rD.out.ext Z.out).at (k := j) (by omega)
          obtain ⟨rb2, ro2, y, rfl, zy, cy, ey, _⟩ := rD2.at (k := k) (by omega)
          have d5' : wi.cell? ⟨w.heap.size, 5, none⟩ = some (.slice (some ⟨cb, cof, none⟩) co.length d) := ((BB.out.ext Y.out).ext Z.out).cell 5
          have exy : Hid (costAt co k j = x ∧ costAt co j k = y) := by
            refine ⟨?_, ?_⟩
            · unfold costAt; rw [getD_some er.out, getD_some ex.out]
            · unfold costAt; rw [getD_some er2.out, getD_some ey.out]
          have q2 : (j : Int) < (co.length : Int) := by omega
          have q3 : (j : Int) < (row.length : Int) := by omega
          have q4 : (k : Int) < (row2.length : Int) := by omega
          replace ex := Lib.hid ex.out
          replace ey := Lib.hid ey.out
          replace er2 := Lib.hid er2.out
          replace rD2 := Lib.hid rD2
          clear hq
          by_cases hxy : x = y
          · subst hxy
            have t0 : (x != x) = false := by simp
            have NX : Hid (∀ yy, yy < j + 1 → costAt co k yy = costAt co yy k) := fun yy hy => by
              by_cases e : yy = j
              · subst e; rw [exy.out.1, exy.out.2]
              · exact HJ.out yy (by omega)
            go_wp2_with (fail)
            go_quiet (fail)
            go_wp2_with (fail)
            go_roundw
            case rel => exact ⟨j + 1, by go_num, by omega, NX, Z.out.drewN _⟩
            case measure => simp [intOf]; omega
          · have t0 : (x != y) = true := by simpa using hxy
            have HM : Hid (mm = false) := by
              have h : mm = false := by
                rw [← hmm.out]
                exact mirP_false hlt hlj (by rw [exy.out.1, exy.out.2]; exact hxy)
              exact h
            go_wp2_with (fail)
            go_quiet (fail)
            go_wp2_with (fail)
            go_ret
            rw [HM.out]
            exact ⟨rfl, XZ.out.drewN _⟩
        · obtain rfl : j = k := by omega
          have q2 : ¬ (j : Int) < (j : Int) := by omega
          have HS3 : Hid (∀ x, x < j + 1 → ∀ y, y < x → costAt co x y = costAt co y x) := fun x hx => by
            by_cases e : x = j
            · subst e; exact HJ.out
            · exact HS.out x (by omega)
          have YZ := Lib.hid (Y.out.tr Z.out)
          go_wp2_with (fail)
          go_roundw
          case rel => exact ⟨j + 1, by go_num, by omega, HS3, YZ.out⟩
          case measure => simp [intOf]; omega
    · obtain rfl : k = co.length := by omega
      have HM : Hid (mm = true) := by
        have h : mm = true := by
          rw [← hmm.out]
          exact mirP_true HS.out
        exact h
      have q2 : ¬ (co.length : Int) < (co.length : Int) := by omega
      have XW := Lib.hid (X1.out.tr Y.out)
      go_wp2_with (fail)
      go_ret
      rw [HM.out]
      exact ⟨rfl, XW.out⟩
end Go.Proofs.Ytcpadkaljnnieaa
namespace Go.Proofs.Ytcpadkaljnnieaa
open Go.RowKit Go.ChangeShapes Go.WideShapes Go.ChangeAt Go.Deep

/-- the least one of a row that isn't below nought -/
def leastG : Int → List Int → Int
  | b, [] => b
  | b, x :: l => leastG (if 0 ≤ x ∧ (b < 0 ∨ x < b) then x else b) l
theorem leastG_bd {B : Int} : ∀ {l : List Int} {b : Int}, (∀ x ∈ l, x ≤ B) → b ≤ B → leastG b l ≤ B
  | [], b, _, h => h
  | x :: l, b, h, hb => by
    unfold leastG
    refine leastG_bd (fun y hy => h y (by simp [hy])) ?_
    have := h x (by simp)
    split <;> omega
def colG (c : Nat) (b : Int) : List (List Int) → List Int → Int
  | row :: rows, o :: off => colG c (if 0 ≤ row.getD c 0 ∧ (b < 0 ∨ row.getD c 0 - o < b) then row.getD c 0 - o else b) rows off
  | _, _ => b
theorem colG_bd {c : Nat} {B : Int} : ∀ {rows : List (List Int)} {off : List Int} {b : Int}, (∀ row ∈ rows, row.getD c 0 ≤ B) → (∀ o ∈ off, 0 ≤ o) → b ≤ B → colG c b rows off ≤ B
  | [], off, b, _, _, h => by cases off <;> exact h
  | _ :: _, [], b, _, _, h => h
  | row :: rows, o :: off, b, hr, ho, hb => by
    have h1 := hr row (by simp)
    have h2 := ho o (by simp)
    unfold colG
    refine colG_bd (fun q hq => hr q (by simp [hq])) (fun q hq => ho q (by simp [hq])) ?_
    split <;> omega
def offG (ms : List (List Int)) : List Int := ms.map fun row => max (leastG (-1) row) 0
def rcolG (ms : List (List Int)) (L : Nat) : List Int := (List.range L).map fun c => max (colG c (-1) ms (offG ms)) 0
def rreduceG (ms : List (List Int)) (L : Nat) : Int := sumL (offG ms) + sumL (rcolG ms L)
set_option maxRecDepth 100000 in
set_option maxHeartbeats 8000000 in
theorem rreduceg_any (ms : List (List Int)) (L : Nat) (M : Option Addr) (mc : Nat) (w : World) (hM : RdE 1 RInts w M ms) (hl : ∀ row ∈ ms, row.length = L) (h0 : 0 < L) (hL : L ≤ 24) (hn0 : 0 < ms.length) (hn : ms.length ≤ 24) (num : ∀ row ∈ ms, ∀ x ∈ row, x ≤ 2147483647) :
    Calls Try.prog 120 #[.slice M ms.length mc] w fun e w' => e = .returned (.int .i64 (rreduceG ms L)) ∧ Ext w w' := by
  have LO : (offG ms).length = ms.length := by simp [offG]
  have OB : ∀ x ∈ offG ms, 0 ≤ x ∧ x ≤ 2147483647 := fun x hx => by
    obtain ⟨row, hr, rfl⟩ := List.mem_map.1 hx
    have := leastG_bd (b := -1) (num row hr) (by omega)
    omega
  have OG : ∀ k row, ms[k]? = some row → (offG ms)[k]? = some (max (leastG (-1) row) 0) := fun k row h => by unfold offG; rw [List.getElem?_map, h]; rfl
  have CB : ∀ x ∈ rcolG ms L, 0 ≤ x ∧ x ≤ 2147483647 := fun x hx => by
    obtain ⟨c, hc, rfl⟩ := List.mem_map.1 hx
    have := colG_bd (c := c) (b := -1) (B := 2147483647) (rows := ms) (off := offG ms) (fun row hr => by
      have hcl : c < row.length := by rw [hl row hr]; exact List.mem_range.1 hc
      have e : row.getD c 0 = row[c] := by simp [List.getD, hcl]
      rw [e]
      exact num row hr _ (List.getElem_mem hcl)) (fun o ho => (OB o ho).1) (by omega)
    omega
  have CG : ∀ c, c < L → (rcolG ms L)[c]? = some (max (colG c (-1) ms (offG ms)) 0) := fun c hc => by simp [rcolG, hc]
  have LC : (rcolG ms L).length = L := by simp [rcolG]
  have TOT : Hid (rreduceG ms L = sumL (offG ms) + sumL (rcolG ms L)) := rfl
  generalize rreduceG ms L = tot at *
  have SB := sum_take_bd OB (by omega)
  have SC := sum_take_bd CB (by omega)
  have LZ := lessC_zero (offG ms)
  generalize offG ms = off at *
  generalize rcolG ms L = cols at *
  have START : Hid (Ext w (w.alloc (.cells #[.int .i64 0, .int .i64 0, .int .i64 0, .int .i64 0, .int .i64 0, .int .i64 0, .int .i64 0, .int .i64 0, .int .i64 0, .int .i64 0, .int .i64 0, .int .i64 0, .int .i64 0, .int .i64 0, .int .i64 0, .int .i64 0, .int .i64 0, .int .i64 0, .int .i64 0, .int .i64 0, .int .i64 0, .int .i64 0, .int .i64 0, .int .i64 0, .int .i64 0, .int .i64 0, .int .i64 0, .int .i64 0, .int .i64 0, .int .i64 0] 157)) ∧ Blk (w.alloc (.cells #[.int .i64 0, .int .i64 0, .int .i64 0, .int .i64 0, .int .i64 0, .int .i64 0, .int .i64 0, .int .i64 0, .int .i64 0, .int .i64 0, .int .i64 0, .int .i64 0, .int .i64 0, .int .i64 0, .int .i64 0, .int .i64 0, .int .i64 0, .int .i64 0, .int .i64 0, .int .i64 0, .int .i64 0, .int .i64 0, .int .i64 0, .int .i64 0, .int .i64 0, .int .i64 0, .int .i64 0, .int .i64 0, .int .i64 0, .int .i64 0] 157)) w.heap.size 157 (lessC off 0)) :=
    ⟨(Ext.rf _).alloc _, by rw [LZ]; exact .new rfl⟩
  replace LO := Lib.hid LO
  replace OB := Lib.hid OB
  replace OG := Lib.hid OG
  replace CB := Lib.hid CB
  replace CG := Lib.hid CG
  replace LC := Lib.hid LC
  replace SB := Lib.hid SB
  replace SC := Lib.hid SC
  replace hl := Lib.hid hl
  replace num := Lib.hid num
  replace hM := Lib.hid hM
  clear LZ
  go_enter Try.func120, Try.ntmps120
  go_wp2_with (fail)
  go_loopw [5, 3] (fun v s wr => ∃ k : Nat, v = .int .i64 k ∧ s = .int .i64 (sumL (off.take k)) ∧ k ≤ ms.length ∧ Hid (Ext w wr ∧ Blk wr w.heap.size 157 (lessC off k))) (fun v _ _ => ms.length - (intOf v).toNat)
  case atStart => exact ⟨0, rfl, rfl, by omega, START⟩
  case round =>
    obtain ⟨wo, rfl⟩ : ∃ wo : World, wo = wr := ⟨_, rfl⟩
    obtain ⟨k, rfl, rfl, hk, HH⟩ := hrel
    clear START
    by_cases hlt : k < ms.length
    · obtain ⟨Y, bL⟩ := HH.out
      obtain ⟨mb, mo, D, row, d, rfl, _, cD, er, _, rD, iD, ld, md⟩ := (hM.out.ext Y fun _ _ h => h.ext Y).ints hlt
      have hr := List.mem_of_getElem? er.out
      have eo := OG.out k row er.out
      have ob := OB.out _ (List.mem_of_getElem? eo)
      have hrl : Hid (row.length = L) := hl.out row hr
      have q1 : (k : Int) < (ms.length : Int) := by omega
      obtain ⟨o0, ho⟩ : ∃ o0, Hid (leastG (-1) row = o0) := ⟨_, rfl⟩
      rw [ho.out] at eo ob
      obtain ⟨o, hoo⟩ : ∃ o, Hid (o = max o0 0) := ⟨_, rfl⟩
      rw [← hoo.out] at eo ob
      have SN := sum_take_snoc eo
      have sb1 := SB.out k
      obtain ⟨s, hs⟩ : ∃ s, Hid (s = sumL (off.take k)) := ⟨_, rfl⟩
      rw [← hs.out] at SN sb1 ⊢
      have hnum := Lib.hid (num.out row hr)
      have zD := World.block_lt_of_cell? _ _ cD
      replace SN := Lib.hid SN
      replace eo := Lib.hid eo
      replace Y := Lib.hid Y
      replace bL := Lib.hid bL
      replace rD := Lib.hid rD
      replace iD := Lib.hid iD
      clear er HH hr
      go_wp2_with (fail)
      go_loopw [7, 6] (fun v bv wr => ∃ (j : Nat) (bb : Int), v = .int .i64 j ∧ bv = .int .i64 bb ∧ j ≤ row.length ∧ Hid (leastG bb (row.drop j) = o0) ∧ Hid (Ext wo wr)) (fun v _ _ => row.length - (intOf v).toNat)
      case atStart => exact ⟨0, -1, rfl, rfl, by omega, ho, Ext.rf _⟩
      case round =>
        obtain ⟨wi, rfl⟩ : ∃ wi : World, wi = wr := ⟨_, rfl⟩
        obtain ⟨j, bb, rfl, rfl, hj, HB, YI⟩ := hrel
        have cD' : wi.cell? ⟨mb, mo + k, none⟩ = some (.slice D row.length d) := keepEL YI.out zD cD
        by_cases hjl : j < row.length
        · obtain ⟨rb, ro, x, rfl, _, cx, ex, dx⟩ := (rD.out.ext YI.out).at hjl
          have q2 : (j : Int) < (row.length : Int) := by omega
          have hx := hnum.out x (List.mem_of_getElem? ex.out)
          have HB2 : Hid (leastG (if 0 ≤ x ∧ (bb < 0 ∨ x < bb) then x else bb) (row.drop (j + 1)) = o0) := by
            have h := HB.out
            rw [dx.out] at h
            exact h
          clear HB ex dx hx
          by_cases hx0 : 0 ≤ x
          · by_cases hb0 : bb < 0
            · rw [if_pos ⟨hx0, .inl hb0⟩] at HB2
              go_wp2_with (fail)
              go_roundw
              case rel => exact ⟨j + 1, x, by go_num, rfl, by omega, HB2, YI⟩
              case measure => simp [intOf]; omega
            · by_cases hxb : x < bb
              · rw [if_pos ⟨hx0, .inr hxb⟩] at HB2
                go_wp2_with (fail)
                go_roundw
                case rel => exact ⟨j + 1, x, by go_num, rfl, by omega, HB2, YI⟩
                case measure => simp [intOf]; omega
              · rw [if_neg (by omega)] at HB2
                go_wp2_with (fail)
                go_roundw
                case rel => exact ⟨j + 1, bb, by go_num, rfl, by omega, HB2, YI⟩
                case measure => simp [intOf]; omega
          · rw [if_neg (by omega)] at HB2
            go_wp2_with (fail)
            go_roundw
            case rel => exact ⟨j + 1, bb, by go_num, rfl, by omega, HB2, YI⟩
            case measure => simp [intOf]; omega
        · have q2 : ¬ (j : Int) < (row.length : Int) := by omega
          have hbo : bb = o0 := by
            have h := HB.out
            rw [List.drop_of_length_le (by omega)] at h
            exact h
          obtain rfl := hbo
          have bI := bL.out.ext YI.out
          have fl := bI.free k
          have k30 : (k : Int) < 30 := by omega
          have hw1 : IntKind.i64.wrap (s + o) = s + o := IntWalk.i64_in _ (by omega)
          have NX : Hid (Ext w (wi.setCell ⟨w.heap.size, k, none⟩ (.int .i64 o)) ∧ Blk (wi.setCell ⟨w.heap.size, k, none⟩ (.int .i64 o)) w.heap.size 157 (lessC off (k + 1))) := by
            refine ⟨(Y.out.tr YI.out).setNew (p := ⟨w.heap.size, k, none⟩) (Nat.le_refl _) _, ?_⟩
            rw [← lessC_set (by omega) eo.out]
            exact bI.set k _
          have cl : wi.cell? ⟨w.heap.size, k, none⟩ = some (.int .i64 (if k < k then off.getD k 0 else 0)) := by rw [bI.cell, lessC_at (by omega)]
          clear HB bI ho
          by_cases nb : bb < 0
          · obtain rfl : o = 0 := by rw [hoo.out]; omega
            clear hoo
            go_wp2_with (first | go_quiet (fail) | go_region)
            go_roundw
            case rel => exact ⟨k + 1, by go_num, by rw [SN.out]; first | rfl | (congr 1; omega) | simp, by omega, NX.out⟩
            case measure => simp [intOf]; omega
          · obtain rfl : o = bb := by rw [hoo.out]; omega
            clear hoo
            go_wp2_with (first | go_quiet (fail) | go_region)
            go_roundw
            case rel => exact ⟨k + 1, by go_num, by rw [SN.out], by omega, NX.out⟩
            case measure => simp [intOf]; omega
    · obtain rfl : k = ms.length := by omega
      have q1 : ¬ (ms.length : Int) < (ms.length : Int) := by omega
      have SO : Hid (sumL (off.take ms.length) = sumL off) := by
        have h : sumL (off.take ms.length) = sumL off := by rw [← LO.out, List.take_length]
        exact h
      have so := SB.out ms.length
      rw [SO.out] at so ⊢
      obtain ⟨Y, bL⟩ := HH.out
      replace Y := Lib.hid Y
      replace bL := Lib.hid bL
      have TOT2 : Hid (tot = sumL off + sumL cols) := TOT.out
      obtain ⟨s0, hs0⟩ : ∃ s0, Hid (s0 = sumL off) := ⟨_, rfl⟩
      rw [← hs0.out] at so TOT2 ⊢
      clear HH SO TOT SB
      go_wp2_with (fail)
      go_loopw [8, 3] (fun v s wr => ∃ c : Nat, v = .int .i64 c ∧ s = .int .i64 (s0 + sumL (cols.take c)) ∧ c ≤ L ∧ Hid (Ext wo wr)) (fun v _ _ => L - (intOf v).toNat)
      case atStart => exact ⟨0, rfl, by rw [List.take_zero]; simp [sumL], by omega, Ext.rf _⟩
      case round =>
        obtain ⟨wp, rfl⟩ : ∃ wp : World, wp = wr := ⟨_, rfl⟩
        obtain ⟨c, rfl, rfl, hc, YP⟩ := hrel
        have sc1 := SC.out c
        obtain ⟨mb, mo, D0, row0, d0, rfl, zb, cD0, er0, _, _, _, _, _⟩ := (hM.out.ext (Y.out.tr YP.out) fun _ _ h => h.ext (Y.out.tr YP.out)).ints (r := 0) hn0
        have hl0 : row0.length = L := hl.out row0 (List.mem_of_getElem? er0.out)
        rw [hl0] at cD0
        rw [Nat.add_zero] at cD0
        clear er0 hl0
        by_cases hcl : c < L
        · have q2 : (c : Int) < (L : Int) := by omega
          have ec := CG.out c hcl
          obtain ⟨c0v, hcv⟩ : ∃ cv, Hid (colG c (-1) ms off = cv) := ⟨_, rfl⟩
          rw [hcv.out] at ec
          obtain ⟨cv, hcc⟩ : ∃ cv, Hid (cv = max c0v 0) := ⟨_, rfl⟩
          rw [← hcc.out] at ec
          have cb := CB.out _ (List.mem_of_getElem? ec)
          have SN := sum_take_snoc ec
          obtain ⟨s1, hs1⟩ : ∃ s1, Hid (s1 = sumL (cols.take c)) := ⟨_, rfl⟩
          rw [← hs1.out] at SN sc1 ⊢
          replace SN := Lib.hid SN
          clear ec
          go_wp2_with (fail)
          go_loopw [10, 9] (fun v bv wr => ∃ (k : Nat) (bb : Int), v = .int .i64 k ∧ bv = .int .i64 bb ∧ k ≤ ms.length ∧ Hid (colG c bb (ms.drop k) (off.drop k) = c0v) ∧ Hid (Ext wp wr)) (fun v _ _ => ms.length - (intOf v).toNat)
          case atStart => exact ⟨0, -1, rfl, rfl, by omega, hcv, Ext.rf _⟩
          case round =>
            obtain ⟨wi, rfl⟩ : ∃ wi : World, wi = wr := ⟨_, rfl⟩
            obtain ⟨k, bb, rfl, rfl, hk, HB, YI⟩ := hrel
            by_cases hkl : k < ms.length
            · have YA := (Y.out.tr YP.out).tr YI.out
              obtain ⟨mb', mo', D, row, d, hq, _, cD, er, dr, rD, iD, ld, md⟩ := (hM.out.ext YA fun _ _ h => h.ext YA).ints hkl
              obtain ⟨rfl, rfl⟩ : mb = mb' ∧ mo = mo' := by simpa using hq
              have hr := List.mem_of_getElem? er.out
              have eo := OG.out k row er.out
              have hrl := hl.out row hr
              obtain ⟨rb, ro, x, rfl, _, cx, ex, _⟩ := rD.at (k := c) (by omega)
              have hx := num.out row hr x (List.mem_of_getElem? ex.out)
              have ob := OB.out _ (List.mem_of_getElem? eo)
              obtain ⟨o, ho⟩ : ∃ o, Hid (max (leastG (-1) row) 0 = o) := ⟨_, rfl⟩
              rw [ho.out] at eo ob
              have dof : off.drop k = o :: off.drop (k + 1) := by
                have hkl2 : k < off.length := by rw [LO.out]; exact hkl
                rw [List.drop_eq_getElem_cons hkl2]
                rw [List.getElem?_eq_getElem hkl2] at eo
                rw [Option.some.inj eo]
              have HB2 : Hid (colG c (if 0 ≤ x ∧ (bb < 0 ∨ x - o < bb) then x - o else bb) (ms.drop (k + 1)) (off.drop (k + 1)) = c0v) := by
                have h := HB.out
                rw [dr.out, dof, colG, getD_some ex.out] at h
                exact h
              have cl : wi.cell? ⟨w.heap.size, k, none⟩ = some (.int .i64 o) := by
                rw [((bL.out.ext YP.out).ext YI.out).cell, lessC_at (by omega), if_pos hkl, getD_some eo]
              have q3 : (k : Int) < (ms.length : Int) := by omega
              have q4 : (c : Int) < (row.length : Int) := by omega
              have k30 : (k : Int) < 30 := by omega
              replace hrl := Lib.hid hrl
              clear HB ex er dr eo dof hr hq rD
              by_cases hx0 : 0 ≤ x
              · have t0 : decide (0 ≤ x) = true := decide_eq_true hx0
                have hw2 : IntKind.i64.wrap (x - o) = x - o := IntWalk.i64_in _ (by omega)
                by_cases hb0 : bb < 0
                · rw [if_pos ⟨hx0, .inl hb0⟩] at HB2
                  have t1 : decide (bb < 0) = true := decide_eq_true hb0
                  go_wp2_with (fail)
                  go_quiet (fail)
                  go_wp2_with (fail)
                  go_quiet (fail)
                  go_wp2_with (fail)
                  go_roundw
                  case rel => exact ⟨k + 1, x - o, by go_num, rfl, by omega, HB2, YI.out.drewN _⟩
                  case measure => simp [intOf]; omega
                · have t1 : decide (bb < 0) = false := decide_eq_false hb0
                  by_cases hxb : x - o < bb
                  · rw [if_pos ⟨hx0, .inr hxb⟩] at HB2
                    have t2 : decide (x - o < bb) = true := decide_eq_true hxb
                    go_wp2_with (fail)
                    go_quiet (fail)
                    go_wp2_with (fail)
                    go_quiet (fail)
                    go_wp2_with (fail)
                    go_roundw
                    case rel => exact ⟨k + 1, x - o, by go_num, rfl, by omega, HB2, YI.out.drewN _⟩
                    case measure => simp [intOf]; omega
                  · rw [if_neg (by omega)] at HB2
                    have t2 : decide (x - o < bb) = false := decide_eq_false hxb
                    go_wp2_with (fail)
                    go_quiet (fail)
                    go_wp2_with (fail)
                    go_roundw
                    case rel => exact ⟨k + 1, bb, by go_num, rfl, by omega, HB2, YI.out.drewN _⟩
                    case measure => simp [intOf]; omega
              · have t0 : decide (0 ≤ x) = false := decide_eq_false hx0
                rw [if_neg (by omega)] at HB2
                go_wp2_with (fail)
                go_quiet (fail)
                go_wp2_with (fail)
                go_roundw
                case rel => exact ⟨k + 1, bb, by go_num, rfl, by omega, HB2, YI.out.drewN _⟩
                case measure => simp [intOf]; omega
            · have q3 : ¬ (k : Int) < (ms.length : Int) := by omega
              have hbo : bb = c0v := by
                have h := HB.out
                rw [List.drop_of_length_le (by omega)] at h
                exact h
              obtain rfl := hbo
              have hw1 : IntKind.i64.wrap (s0 + s1 + cv) = s0 + s1 + cv := IntWalk.i64_in _ (by omega)
              clear HB hcv
              by_cases nb : bb < 0
              · obtain rfl : cv = 0 := by rw [hcc.out]; omega
                clear hcc
                go_wp2_with (fail)
                go_roundw
                case rel => exact ⟨c + 1, by go_num, by rw [SN.out]; first | (rw [Int.add_zero]) | rfl | simp, by omega, YP.out.tr YI.out⟩
                case measure => simp [intOf]; omega
              · obtain rfl : cv = bb := by rw [hcc.out]; omega
                clear hcc
                go_wp2_with (fail)
                go_roundw
                case rel => exact ⟨c + 1, by go_num, by rw [SN.out, Int.add_assoc], by omega, YP.out.tr YI.out⟩
                case measure => simp [intOf]; omega
        · obtain rfl : c = L := by omega
          have q2 : ¬ (c : Int) < (c : Int) := by omega
          have FIN : Hid (s0 + sumL (cols.take c) = tot) := by
            have h : s0 + sumL (cols.take c) = tot := by rw [TOT2.out, ← LC.out, List.take_length]
            exact h
          go_wp2_with (fail)
          go_ret
          exact ⟨ret_i FIN.out, Y.out.tr YP.out⟩
end Go.Proofs.Ytcpadkaljnnieaa
namespace Go.Proofs.Ytcpadkaljnnieaa

theorem leastN_mem {f : Nat → Int} : ∀ {l : List Nat} {b : Int}, (∀ x ∈ l, 0 ≤ f x) → (0 ≤ b ∨ l ≠ []) → (leastN f b l = b ∧ 0 ≤ b) ∨ ∃ x ∈ l, leastN f b l = f x
  | [], b, _, h => by
    rcases h with h | h
    · exact .inl ⟨rfl, h⟩
    · exact absurd rfl h
  | x :: l, b, h, _ => by
    have hx := h x (by simp)
    have ih := leastN_mem (f := f) (l := l) (b := if b < 0 then f x else if f x < b then f x else b) (fun y hy => h y (by simp [hy])) (.inl (by split <;> (try split) <;> omega))
    have e : leastN f b (x :: l) = leastN f (if b < 0 then f x else if f x < b then f x else b) l := rfl
    rw [e]
    rcases ih with ⟨e, _⟩ | ⟨y, hy, e⟩
    · rw [e]
      split
      · exact .inr ⟨x, by simp, rfl⟩
      · split
        · exact .inr ⟨x, by simp, rfl⟩
        · exact .inl ⟨rfl, by omega⟩
    · exact .inr ⟨y, by simp [hy], e⟩
theorem leastN_perm {f : Nat → Int} {l l' : List Nat} (hp : l.Perm l') (h : ∀ x ∈ l, 0 ≤ f x) : leastN f (-1) l = leastN f (-1) l' := by
  by_cases hl : l = []
  · subst hl
    rw [List.Perm.eq_nil hp.symm]
  · have h' : ∀ x ∈ l', 0 ≤ f x := fun x hx => h x (hp.mem_iff.2 hx)
    have hl' : l' ≠ [] := fun e => hl (List.Perm.eq_nil (e ▸ hp))
    rcases leastN_mem h (b := -1) (.inr hl) with ⟨_, h1⟩ | ⟨x, hx, h1⟩
    · omega
    · rcases leastN_mem h' (b := -1) (.inr hl') with ⟨_, h2⟩ | ⟨y, hy, h2⟩
      · omega
      · have a1 := (leastN_le (b := -1) h).1 y (hp.mem_iff.2 hy)
        have a2 := (leastN_le (b := -1) h').1 x (hp.mem_iff.1 hx)
        omega
theorem leastN_congr {f g : Nat → Int} : ∀ {l : List Nat} {b : Int}, (∀ x ∈ l, f x = g x) → leastN f b l = leastN g b l
  | [], _, _ => rfl
  | x :: l, b, h => by
    show leastN f (if b < 0 then f x else if f x < b then f x else b) l = leastN g (if b < 0 then g x else if g x < b then g x else b) l
    rw [h x (by simp)]
    exact leastN_congr fun y hy => h y (by simp [hy])
theorem leastG_map (f : Nat → Int) : ∀ (l : List Nat) (b : Int), leastG b (l.map f) = leastN f b (l.filter fun x => decide (0 ≤ f x))
  | [], b => rfl
  | x :: l, b => by
    show leastG (if 0 ≤ f x ∧ (b < 0 ∨ f x < b) then f x else b) (l.map f) = _
    rw [leastG_map f l]
    by_cases h : 0 ≤ f x
    · rw [List.filter_cons_of_pos (by simpa using h)]
      show _ = leastN f (if b < 0 then f x else if f x < b then f x else b) _
      congr 1
      split <;> split <;> (try split) <;> omega
    · rw [List.filter_cons_of_neg (by simpa using h), if_neg (fun h2 => h h2.1)]
theorem colG_map (r : Nat → List Int) (o : Nat → Int) (c : Nat) : ∀ (S : List Nat) (b : Int), colG c b (S.map r) (S.map o) = leastN (fun s => (r s).getD c 0 - o s) b (S.filter fun s => decide (0 ≤ (r s).getD c 0))
  | [], b => rfl
  | s :: S, b => by
    simp only [List.map_cons, colG]
    rw [colG_map r o c S]
    by_cases h : 0 ≤ (r s).getD c 0
    · rw [List.filter_cons_of_pos (by simpa using h)]
      show _ = leastN _ (if b < 0 then (r s).getD c 0 - o s else if (r s).getD c 0 - o s < b then (r s).getD c 0 - o s else b) _
      congr 1
      split <;> split <;> (try split) <;> omega
    · rw [List.filter_cons_of_neg (by simpa using h), if_neg (fun h2 => h h2.1)]
section
variable {rows : List (List Int)} {us : List Nat} {last : Nat}
/-- the document's square -/
def entT (rows : List (List Int)) (us : List Nat) (last src dst : Nat) : Int := if dst ∈ colsT us last src then costAt rows src dst else -1
def matT (rows : List (List Int)) (us : List Nat) (last : Nat) : List (List Int) := (last :: us).map fun src => (us ++ [0]).map fun dst => entT rows us last src dst
theorem entT_nonneg (num : ∀ a b, (a = last ∨ a ∈ us) → (b = 0 ∨ b ∈ us) → 0 ≤ costAt rows a b) {src dst : Nat} (hs : src ∈ last :: us) (hd : dst ∈ us ++ [0]) : decide (0 ≤ entT rows us last src dst) = decide (dst ∈ colsT us last src) := by
  have h := num src dst (List.mem_cons.1 hs) (by
    rcases List.mem_append.1 hd with h | h
    · exact .inr h
    · exact .inl (List.mem_singleton.1 h))
  unfold entT
  by_cases hc : dst ∈ colsT us last src
  · rw [if_pos hc, decide_eq_true hc, decide_eq_true h]
  · rw [if_neg hc, decide_eq_false hc]
    rfl
theorem offG_mat (num : ∀ a b, (a = last ∨ a ∈ us) → (b = 0 ∨ b ∈ us) → 0 ≤ costAt rows a b) (hl : last ∉ us) (h0 : 0 ∉ us) : offG (matT rows us last) = (last :: us).map fun src => offT rows us last src := by
  unfold offG matT
  rw [List.map_map]
  refine List.map_congr_left fun src hs => ?_
  show max (leastG (-1) ((us ++ [0]).map fun dst => entT rows us last src dst)) 0 = offT rows us last src
  have hf : (us ++ [0]).filter (fun x => decide (0 ≤ entT rows us last src x)) = (us ++ [0]).filter fun x => decide (x ∈ colsT us last src) := List.filter_congr fun x hx => entT_nonneg num hs hx
  rw [leastG_map, hf]
  have e1 : leastN (fun dst => entT rows us last src dst) (-1) ((us ++ [0]).filter fun x => decide (x ∈ colsT us last src)) = leastN (fun dst => costAt rows src dst) (-1) ((us ++ [0]).filter fun x => decide (x ∈ colsT us last src)) := leastN_congr fun x hx => by
    unfold entT
    rw [if_pos (of_decide_eq_true (List.mem_filter.1 hx).2)]
  have e2 : ((us ++ [0]).filter fun x => decide (x ∈ colsT us last src)).Perm (colsT us last src) := by
    unfold colsT
    by_cases e : src = last
    · rw [if_pos e, List.filter_append, List.filter_eq_self.2 (fun x hx => decide_eq_true hx), List.filter_cons_of_neg (by simpa using h0)]
      simp
    · rw [if_neg e, List.filter_append]
      have a1 : us.filter (fun x => decide (x ∈ 0 :: us.filter fun x => decide (src ≠ x))) = us.filter fun x => decide (src ≠ x) := List.filter_congr fun x hx => by
        rw [decide_eq_decide, List.mem_cons, List.mem_filter]
        constructor
        · rintro (h | h)
          · subst h; exact absurd hx h0
          · exact of_decide_eq_true h.2
        · exact fun h => .inr ⟨hx, decide_eq_true h⟩
      have a2 : [0].filter (fun x => decide (x ∈ 0 :: us.filter fun x => decide (src ≠ x))) = [0] := by simp
      rw [a1, a2]
      exact List.perm_append_comm (l₂ := [0])
  rw [e1, leastN_perm e2 fun x hx => num src x (List.mem_cons.1 hs) (by
    rcases List.mem_append.1 (List.mem_filter.1 hx).1 with h | h
    · exact .inr h
    · exact .inl (List.mem_singleton.1 h))]
  rfl
theorem getD_map_app {f : Nat → Int} {D : List Nat} {c d : Nat} (h : D[c]? = some d) : (D.map f).getD c 0 = f d := by
  simp [List.getD, h]
theorem reduceG_mat (num : ∀ a b, (a = last ∨ a ∈ us) → (b = 0 ∨ b ∈ us) → 0 ≤ costAt rows a b) (hl : last ∉ us) (h0 : 0 ∉ us) : rreduceG (matT rows us last) (us.length + 1) = reduceT rows us last := by
  have ho := offG_mat num hl h0
  have hc : ∀ (c d : Nat), (us ++ [0])[c]? = some d → colG c (-1) (matT rows us last) (offG (matT rows us last)) = colT rows us last d := fun c d hd => by
    rw [ho]
    unfold matT
    refine Eq.trans (colG_map (fun src => (us ++ [0]).map fun dst => entT rows us last src dst) (fun src => offT rows us last src) c (last :: us) (-1)) ?_
    have hdm := List.mem_of_getElem? hd
    have e1 : (last :: us).filter (fun s => decide (0 ≤ ((us ++ [0]).map fun dst => entT rows us last s dst).getD c 0)) = (last :: us).filter fun s => decide (d ∈ colsT us last s) := List.filter_congr fun s hs => by
      rw [getD_map_app hd]
      exact entT_nonneg num hs hdm
    rw [e1]
    unfold colT
    refine leastN_congr fun s hs => ?_
    rw [getD_map_app hd]
    unfold entT
    rw [if_pos (of_decide_eq_true (List.mem_filter.1 hs).2)]
  unfold rreduceG reduceT
  rw [ho]
  congr 1
  have e2 : rcolG (matT rows us last) (us.length + 1) = (us ++ [0]).map fun dst => max (colT rows us last dst) 0 := by
    have hr : (List.range (us.length + 1)).map (fun c => (us ++ [0]).getD c 0) = us ++ [0] := by
      apply List.ext_getElem
      · simp
      · intro k h1 h2
        rw [List.getElem_map, List.getElem_range]
        simp only [List.getD]
        rw [List.getElem?_eq_getElem h2]
        rfl
    refine Eq.trans ?_ (congrArg (List.map fun dst => max (colT rows us last dst) 0) hr)
    rw [List.map_map]
    unfold rcolG
    refine List.map_congr_left fun c hcr => ?_
    have hk : c < (us ++ [0]).length := by
      have := List.mem_range.1 hcr
      simp only [List.length_append, List.length_singleton]
      exact this
    obtain ⟨d, hd⟩ : ∃ d, (us ++ [0])[c]? = some d := ⟨_, List.getElem?_eq_getElem hk⟩
    have e3 : (us ++ [0]).getD c 0 = d := getD_some hd
    simp only [Function.comp_apply]
    rw [hc c d hd, e3]
  rw [e2]
  exact sumL_perm ((List.perm_append_comm (l₁ := us) (l₂ := [0])).map _)
theorem mat_len : (matT rows us last).length = us.length + 1 := by simp [matT]
theorem mat_row : ∀ row ∈ matT rows us last, row.length = us.length + 1 := fun row h => by
  obtain ⟨s, _, rfl⟩ := List.mem_map.1 h
  simp
theorem mat_num {B : Int} (hB : 0 ≤ B) (num : ∀ a b, (a = last ∨ a ∈ us) → (b = 0 ∨ b ∈ us) → 0 ≤ costAt rows a b ∧ costAt rows a b ≤ B) : ∀ row ∈ matT rows us last, ∀ x ∈ row, -1 ≤ x ∧ x ≤ B := fun row h x hx => by
  obtain ⟨s, hs, rfl⟩ := List.mem_map.1 h
  obtain ⟨d, hd, rfl⟩ := List.mem_map.1 hx
  have h2 := num s d (List.mem_cons.1 hs) (by
    rcases List.mem_append.1 hd with h | h
    · exact .inr h
    · exact .inl (List.mem_singleton.1 h))
  unfold entT
  split <;> omega
end
/-! the beginnings as a tree -/
section
variable {rows : List (List Int)}
theorem kidsT_of {p : List Int} {m last : Nat} {cost : Int} (hp : walkP rows p = some (m, last, cost)) : ∃ l : List Nat, (kidsT rows p).1 = intsN l ∧ l.Perm (memsM m) ∧ (kidsT rows p).2 = 0 := by
  refine ⟨sortP (ltC (cfR (rows.getD last []))) (memsM m), ?_, msortP_perm _ _ _, ?_⟩ <;> (unfold kidsT; rw [hp])
theorem walkP_len (h1 : 1 ≤ rows.length) (h24 : rows.length ≤ 24) {p : List Int} {m last : Nat} {cost : Int} (h : walkP rows p = some (m, last, cost)) : (memsM m).length + p.length = rows.length - 1 := by
  obtain ⟨l, W⟩ := walk_ok h1 h24 h
  have := W.len
  rw [W.eq, intsN_len]
  exact this
theorem walkP_root : walkP rows [] = some (restM rows.length, 0, 0) := by
  unfold walkP
  rw [if_neg (by simp)]
  rfl
end
end Go.Proofs.Ytcpadkaljnnieaa
namespace Go.Proofs.Ytcpadkaljnnieaa
open Go.RowKit Go.ChangeShapes Go.WideShapes Go.ChangeAt Go.Deep

theorem walkT_cons (rows : List (List Int)) (m last : Nat) (cost c : Int) (p : List Int) : walkT rows m last cost (c :: p) = if 0 ≤ c ∧ c < 64 ∧ m.testBit c.toNat = true then walkT rows (clrM m c.toNat) c.toNat (cost + costAt rows last c.toNat) p else none := rfl
end Go.Proofs.Ytcpadkaljnnieaa
namespace Go.Proofs.Ytcpadkaljnnieaa
open Go

section
variable {P : Program} {ops : Array Oper} {Q : Exit → Act → World → Prop}
/-- operations that only read, of which it is known what each yields; what is left may wait for them through others -/
theorem wpAny_reads2 (rem : List (Nat × Option Tmp)) (f : Nat → Value) {listed0 : Array Bool} (listed1 : Array Bool) (hok : coreOk2 ops listed0 listed1 rem = true) {a0 : Act} {w : World} {n : Nat}
    (step : ∀ p ∈ rem, ∀ u : Nat → Value, (∀ j ∈ depsOf ops rem p.1, u j = f j) → ∀ K : Act → World → Prop, K ((putAll a0 rem u).put p.2 (f p.1)) w → wpOp P ops Q p.1 K (putAll a0 rem u) w)
    (done : wpAny P .any ops Q n listed1 (putAll a0 rem f) w) : wpAny P .any ops Q (rem.length + n) listed0 a0 w := by
  refine wpAny_core2 rem (fun w' => w' = w) (fun i v _ => v = f i) (fun _ _ => True) listed1 hok (fun _ _ _ _ h _ => h) ?_ n ?_ rfl
  · rintro p hp u w' rfl hD K hK
    exact step p hp u hD K (hK _ _ rfl rfl trivial)
  · rintro u w' rfl hV
    have : ∀ qs : List (Nat × Option Tmp), (∀ p ∈ qs, u p.1 = f p.1) → putAll a0 qs u = putAll a0 qs f := by
      intro qs
      induction qs with
      | nil => intro _; rfl
      | cons q qs ih =>
        intro h
        simp only [putAll, ih (fun p hp => h p (List.mem_cons_of_mem _ hp)), h q List.mem_cons_self]
    rw [this rem hV]
    exact done
end
end Go.Proofs.Ytcpadkaljnnieaa
namespace Go.Proofs.Ytcpadkaljnnieaa
open Go.RowKit Go.ChangeShapes Go.WideShapes Go.ChangeAt Go.Deep

end Go.Proofs.Ytcpadkaljnnieaa
namespace Go.Proofs.Ytcpadkaljnnieaa
open Go.RowKit Go.ChangeShapes Go.WideShapes Go.ChangeAt Go.Deep

end Go.Proofs.Ytcpadkaljnnieaa
namespace Go.Proofs.Ytcpadkaljnnieaa
open Go.RowKit Go.ChangeShapes Go.WideShapes Go.ChangeAt Go.Deep Go.Shelf
attribute [local go_sem] Oper.semAt_some

theorem ibs1g_run (u : World) (x : Int) : (Instr.buildSlice 22 1 #[(0, .int .i64 x)]).run Try.prog u = .ok (.slice (some ⟨u.heap.size, 0, none⟩) 1 1) (u.alloc (.cells #[.int .i64 x] 3)) := by go_simp
end Go.Proofs.Ytcpadkaljnnieaa
namespace Go.Proofs.Ytcpadkaljnnieaa
open Go.RowKit Go.ChangeShapes Go.WideShapes Go.ChangeAt Go.Deep Go.Shelf
attribute [local go_sem] Oper.semAt_some

theorem putP_bd {B n : Int} {p : Int × Int} (h1 : 0 ≤ p.1 ∧ p.1 ≤ B) (h2 : 0 ≤ p.2 ∧ p.2 ≤ B) (hn : 0 ≤ n ∧ n ≤ B) : (0 ≤ (putP p n).1 ∧ (putP p n).1 ≤ B) ∧ 0 ≤ (putP p n).2 ∧ (putP p n).2 ≤ B := by
  unfold putP
  split
  · exact ⟨hn, h1⟩
  · split
    · exact ⟨h1, hn⟩
    · exact ⟨h1, h2⟩
theorem foldP_bd {B : Int} {f : Nat → Int} : ∀ (l : List Nat) (p : Int × Int), (0 ≤ p.1 ∧ p.1 ≤ B) → (0 ≤ p.2 ∧ p.2 ≤ B) → (∀ v ∈ l, 0 ≤ f v ∧ f v ≤ B) → (0 ≤ (l.foldl (fun p v => putP p (f v)) p).1 ∧ (l.foldl (fun p v => putP p (f v)) p).1 ≤ B) ∧ 0 ≤ (l.foldl (fun p v => putP p (f v)) p).2 ∧ (l.foldl (fun p v => putP p (f v)) p).2 ≤ B
  | [], _, h1, h2, _ => ⟨h1, h2⟩
  | v :: l, p, h1, h2, h => by
    have h3 := putP_bd h1 h2 (h v (by simp))
    exact foldP_bd l _ h3.1 h3.2 fun x hx => h x (by simp [hx])
end Go.Proofs.Ytcpadkaljnnieaa
namespace Go.Proofs.Ytcpadkaljnnieaa
open Go.RowKit Go.ChangeShapes Go.WideShapes Go.ChangeAt Go.Deep

theorem walk_last {rows : List (List Int)} (h1 : 1 ≤ rows.length) {p : List Int} {m last : Nat} {cost : Int} {l : List Nat} (h : WalkOk rows p m last cost l) : last < rows.length := by
  rw [h.last]
  rcases lastT_mem l 0 with e | e
  · rw [e]; exact h1
  · exact (h.inn _ e).1
end Go.Proofs.Ytcpadkaljnnieaa
namespace Go.Proofs.Ytcpadkaljnnieaa
open Go.RowKit Go.ChangeShapes Go.WideShapes Go.ChangeAt Go.Deep

end Go.Proofs.Ytcpadkaljnnieaa
namespace Go.Proofs.Ytcpadkaljnnieaa
open Go.RowKit Go.ChangeShapes Go.WideShapes Go.ChangeAt Go.Deep

theorem sumL_map_bd {f : Nat → Int} {B : Int} : ∀ (l : List Nat), (∀ x ∈ l, 0 ≤ f x ∧ f x ≤ B) → 0 ≤ sumL (l.map f) ∧ sumL (l.map f) ≤ B * (l.length : Int)
  | [], _ => by simp [sumL]
  | x :: l, h => by
    have h1 := h x (by simp)
    have h2 := sumL_map_bd l fun y hy => h y (by simp [hy])
    have h3 : B * ((l.length : Int) + 1) = B * (l.length : Int) + B := by rw [Int.mul_add, Int.mul_one]
    simp only [List.map_cons, sumL, List.length_cons, Int.natCast_add, Int.natCast_one]
    omega
theorem wayC_bd {rows : List (List Int)} (num : ∀ a b, a < rows.length → b < rows.length → 0 ≤ costAt rows a b ∧ costAt rows a b ≤ 2147483647) : ∀ (l : List Nat) (s : Nat), s < rows.length → (∀ x ∈ l, x < rows.length) → 0 ≤ wayC rows s (intsN l) ∧ wayC rows s (intsN l) ≤ 2147483647 * (l.length : Int)
  | [], _, _, _ => by simp [wayC, intsN]
  | x :: l, s, hs, h => by
    have h1 := num s x hs (h x (by simp))
    have h2 := wayC_bd num l x (h x (by simp)) fun y hy => h y (by simp [hy])
    have e : wayC rows s (intsN (x :: l)) = costAt rows s x + wayC rows x (intsN l) := by simp [intsN, wayC]
    rw [e]
    simp only [List.length_cons, Int.natCast_add, Int.natCast_one]
    omega
section
variable {rows : List (List Int)} {us : List Nat} {last : Nat}
theorem reduceT_bd (num : ∀ a b, a < rows.length → b < rows.length → 0 ≤ costAt rows a b ∧ costAt rows a b ≤ 2147483647) (h0 : 0 < rows.length) (hl : last < rows.length) (hu : ∀ x ∈ us, x < rows.length) (hlen : us.length ≤ 24) : 0 ≤ reduceT rows us last ∧ reduceT rows us last ≤ 2147483647 * 100 := by
  have hcol : ∀ {s : Nat}, ∀ d ∈ colsT us last s, d < rows.length := fun {s} d h => by
    unfold colsT at h
    split at h
    · exact hu d h
    · rcases List.mem_cons.1 h with rfl | h
      · exact h0
      · exact hu d (List.mem_filter.1 h).1
  have hsrc : ∀ s ∈ last :: us, s < rows.length := fun s h => by
    rcases List.mem_cons.1 h with rfl | h
    · exact hl
    · exact hu s h
  have hoff : ∀ s ∈ last :: us, 0 ≤ offT rows us last s ∧ offT rows us last s ≤ 2147483647 := fun s hs => by
    have h1 := leastN_bd (f := fun dst => costAt rows s dst) (B := 2147483647) (l := colsT us last s) (b := -1) (fun c hc => by
      have := num s c (hsrc s hs) (hcol c hc)
      omega) (by omega) (by omega)
    unfold offT
    omega
  have h1 := sumL_map_bd (f := fun src => offT rows us last src) (last :: us) hoff
  have h2 := sumL_map_bd (f := fun dst => max (colT rows us last dst) 0) (B := 4294967294) (0 :: us) fun d hd => by
    have hd' : d < rows.length := by
      rcases List.mem_cons.1 hd with rfl | hd
      · exact h0
      · exact hu d hd
    have h3 : -4294967294 ≤ colT rows us last d ∧ colT rows us last d ≤ 4294967294 := by
      unfold colT
      refine leastN_bd (fun s hs => ?_) (by omega) (by omega)
      have h4 := num s d (hsrc s (List.mem_filter.1 hs).1) hd'
      have h5 := hoff s (List.mem_filter.1 hs).1
      omega
    omega
  unfold reduceT
  simp only [List.length_cons] at h1 h2
  omega
theorem endsT_bd (num : ∀ a b, a < rows.length → b < rows.length → 0 ≤ costAt rows a b ∧ costAt rows a b ≤ 2147483647) (h0 : 0 < rows.length) (hl : last < rows.length) (hu : ∀ x ∈ us, x < rows.length) (hlen : us.length ≤ 24) (hne : us ≠ []) : 0 ≤ endsT rows us last ∧ endsT rows us last ≤ 4294967294 * 30 := by
  have h1 := sumL_map_bd (f := fun u => (pairT rows us last u).1 + (pairT rows us last u).2) (B := 4294967294) us fun y hy => by
    have k0 := hu y hy
    have k1 := num y last k0 hl
    have k2 := num y 0 k0 h0
    have h3 := foldP_bd (B := 2147483647) (f := fun v => costAt rows y v) (us.filter fun j => decide (y ≠ j)) (min (costAt rows y last) (costAt rows y 0), max (costAt rows y last) (costAt rows y 0)) (by simp only; omega) (by simp only; omega) fun v hv => num y v k0 (hu v (List.mem_filter.1 hv).1)
    have h4 : pairT rows us last y = (us.filter fun j => decide (y ≠ j)).foldl (fun p v => putP p (costAt rows y v)) (min (costAt rows y last) (costAt rows y 0), max (costAt rows y last) (costAt rows y 0)) := rfl
    rw [← h4] at h3
    omega
  have h2 := leastN_pos (f := fun u => costAt rows last u) (B := 2147483647) (l := us) (fun x hx => num last x hl (hu x hx)) hne (by omega)
  have h3 := leastN_pos (f := fun u => costAt rows u 0) (B := 2147483647) (l := us) (fun x hx => num x 0 (hu x hx) h0) hne (by omega)
  unfold endsT
  omega
end
end Go.Proofs.Ytcpadkaljnnieaa
namespace Go.Proofs.Ytcpadkaljnnieaa
open Go.RowKit Go.ChangeShapes Go.WideShapes Go.ChangeAt Go.Deep

/-- one number of the ways' costs, in memory -/
theorem cost_at {w : World} {D : Option Addr} {co : List (List Int)} (rok : RowsOk co) (hC : RdE 1 RInts w D co) {r c : Nat} (hr : r < co.length) (hc : c < co.length) :
    ∃ cb cof rb ro d', D = some ⟨cb, cof, none⟩ ∧ w.cell? ⟨cb, cof + r, none⟩ = some (.slice (some ⟨rb, ro, none⟩) co.length d') ∧ w.cell? ⟨rb, ro + c, none⟩ = some (.int .i64 (costAt co r c)) := by
  obtain ⟨cb, cof, D', row, d', rfl, zb, cD, er, _, rD, iD, ld, md⟩ := hC.ints hr
  have lrow := rok.row row (List.mem_of_getElem? er.out)
  obtain ⟨rb, ro, x, rfl, zx, cx, ex, _⟩ := rD.at (k := c) (by omega)
  refine ⟨cb, cof, rb, ro, d', rfl, by rw [cD, lrow], ?_⟩
  rw [cx]
  unfold costAt
  rw [getD_some er.out, getD_some ex.out]
theorem cost_in {w : World} {cb cof : Nat} {co : List (List Int)} (rok : RowsOk co) (hC : RdE 1 RInts w (some ⟨cb, cof, none⟩) co) {r c : Nat} (hr : r < co.length) (hc : c < co.length) :
    ∃ rb ro d', w.cell? ⟨cb, cof + r, none⟩ = some (.slice (some ⟨rb, ro, none⟩) co.length d') ∧ w.cell? ⟨rb, ro + c, none⟩ = some (.int .i64 (costAt co r c)) := by
  obtain ⟨cb', cof', rb, ro, d', h, h1, h2⟩ := cost_at rok hC hr hc
  obtain ⟨rfl, rfl⟩ : cb = cb' ∧ cof = cof' := by simpa using h
  exact ⟨rb, ro, d', h1, h2⟩
theorem ends_num {rows : List (List Int)} (ok : RowsOk rows) (a b : Nat) (ha : a < rows.length) (hb : b < rows.length) : 0 ≤ costAt rows a b ∧ costAt rows a b ≤ 2147483647 := by
  have e1 : rows[a]? = some rows[a] := List.getElem?_eq_getElem ha
  have e2 := ok.row _ (List.getElem_mem ha)
  have e3 : (rows[a])[b]? = some (rows[a])[b] := List.getElem?_eq_getElem (by omega)
  unfold costAt
  rw [getD_some e1, getD_some e3]
  exact ok.num _ (List.getElem_mem ha) _ (List.getElem_mem _)
end Go.Proofs.Ytcpadkaljnnieaa
namespace Go.Proofs.Ytcpadkaljnnieaa
open Go.RowKit Go.ChangeShapes Go.WideShapes Go.ChangeAt Go.Deep

set_option maxRecDepth 100000 in
set_option maxHeartbeats 4000000 in
theorem rmirror_any (i : InstP) (us : List Value) (w : World) (H : RInst w us i) (ok : SquareOk i) :
    Calls Try.prog 122 #[.agg (List.toArray us)] w fun e w' => e = .returned (.bool (mirP i.cost)) ∧ Ext w w' := by
  have rok := rows_ok ok
  have n24 := rok.n2
  have hnn : i.n = (i.cost.length : Int) := ok.len.symm
  clear ok
  obtain ⟨kind, nn, cap, xw, xv, co⟩ := i
  obtain ⟨A, a, B, b, D, d, rfl, -, -, ⟨hC, -, -⟩⟩ := H
  simp only at *
  subst hnn
  have B1 : Hid (Blk (w.alloc (.cells #[.int .i64 kind, .int .i64 co.length, .int .i64 cap, .slice A xw.length a, .slice B xv.length b, .slice D co.length d] 61)) w.heap.size 61 #[.int .i64 kind, .int .i64 co.length, .int .i64 cap, .slice A xw.length a, .slice B xv.length b, .slice D co.length d]) := .new rfl
  replace hC := Lib.hid hC
  replace rok := Lib.hid rok
  obtain ⟨mm, hmm⟩ : ∃ mm, Hid (mirP co = mm) := ⟨_, rfl⟩
  rw [hmm.out]
  go_enter Try.func122, Try.ntmps122
  have X1 : Hid (Ext w (w.alloc (.cells #[.int .i64 kind, .int .i64 co.length, .int .i64 cap, .slice A xw.length a, .slice B xv.length b, .slice D co.length d] 61))) := (Ext.rf _).alloc _
  go_wp2_with (fail)
  generalize w.alloc (.cells #[.int .i64 kind, .int .i64 co.length, .int .i64 cap, .slice A xw.length a, .slice B xv.length b, .slice D co.length d] 61) = w1 at *
  have BB := B1
  go_loopw [3] (fun v wr => ∃ k : Nat, v = .int .i64 k ∧ k ≤ co.length ∧ Hid (∀ x, x < k → ∀ y, y < x → costAt co x y = costAt co y x) ∧ Hid (Ext w1 wr)) (fun v _ => co.length - (intOf v).toNat)
  case atStart => exact ⟨0, rfl, by omega, fun x hx => absurd hx (Nat.not_lt_zero _), Ext.rf _⟩
  case round =>
    obtain ⟨wo, rfl⟩ : ∃ wo : World, wo = wr := ⟨_, rfl⟩
    obtain ⟨k, rfl, hk, HS, Y⟩ := hrel
    have cN : wo.cell? ⟨w.heap.size, 1, none⟩ = some (.int .i64 co.length) := (BB.out.ext Y.out).cell 1
    by_cases hlt : k < co.length
    · have XW : Hid (Ext w wo) := X1.out.tr Y.out
      obtain ⟨cb, cof, D', row, d', rfl, zb, cD, er, _, rD, iD, ld, md⟩ := (hC.out.ext XW.out fun _ _ h => h.ext XW.out).ints hlt
      have lrow := rok.out.row row (List.mem_of_getElem? er.out)
      have q1 : (k : Int) < (co.length : Int) := by omega
      replace er := Lib.hid er.out
      replace rD := Lib.hid rD
      go_wp2_with (fail)
      go_loopw [4] (fun v wr => ∃ j : Nat, v = .int .i64 j ∧ j ≤ k ∧ Hid (∀ y, y < j → costAt co k y = costAt co y k) ∧ Hid (Ext wo wr)) (fun v _ => k - (intOf v).toNat)
      case atStart => exact ⟨0, rfl, by omega, fun y hy => absurd hy (Nat.not_lt_zero _), Ext.rf _⟩
      case round =>
        obtain ⟨wi, rfl⟩ : ∃ wi : World, wi = wr := ⟨_, rfl⟩
        obtain ⟨j, rfl, hj, HJ, Z⟩ := hrel
        have XZ := Lib.hid (Ext.tr (a := w) (XW.out) Z.out)
        by_cases hlj : j < k
        · obtain ⟨cb', cof', D2, row2, d2, hq, zb2, cD2, er2, _, rD2, iD2, ld2, md2⟩ := (hC.out.ext XZ.out fun _ _ h => h.ext XZ.out).ints (r := j) (by omega)
          obtain ⟨rfl, rfl⟩ : cb = cb' ∧ cof = cof' := by simpa using hq
          have cDk := (Z.out.cells.1 _ (cof + k) zb).trans cD
          have lrow2 := rok.out.row row2 (List.mem_of_getElem? er2.out)
          obtain ⟨rb, ro, x, rfl, zx, cx, ex, _⟩ := (rD.out.ext Z.out).at (k := j) (by omega)
          obtain ⟨rb2, ro2, y, rfl, zy, cy, ey, _⟩ := rD2.at (k := k) (by omega)
          have d5' : wi.cell? ⟨w.heap.size, 5, none⟩ = some (.slice (some ⟨cb, cof, none⟩) co.length d) := ((BB.out.ext Y.out).ext Z.out).cell 5
          have exy : Hid (costAt co k j = x ∧ costAt co j k = y) := by
            refine ⟨?_, ?_⟩
            · unfold costAt; rw [getD_some er.out, getD_some ex.out]
            · unfold costAt; rw [getD_some er2.out, getD_some ey.out]
          have q2 : (j : Int) < (co.length : Int) := by omega
          have q3 : (j : Int) < (row.length : Int) := by omega
          have q4 : (k : Int) < (row2.length : Int) := by omega
          replace ex := Lib.hid ex.out
          replace ey := Lib.hid ey.out
          replace er2 := Lib.hid er2.out
          replace rD2 := Lib.hid rD2
          have q5 : (k : Int) < (co.length : Int) := by omega
          clear hq
          by_cases hxy : x = y
          · subst hxy
            have t0 : (x != x) = false := by simp
            have NX : Hid (∀ yy, yy < j + 1 → costAt co k yy = costAt co yy k) := fun yy hy => by
              by_cases e : yy = j
              · subst e; rw [exy.out.1, exy.out.2]
              · exact HJ.out yy (by omega)
            go_wp2_with (fail)
            go_quiet (fail)
            go_wp2_with (fail)
            go_roundw
            case rel => exact ⟨j + 1, by go_num, by omega, NX, Z.out.drewN _⟩
            case measure => simp [intOf]; omega
          · have t0 : (x != y) = true := by simpa using hxy
            have HM : Hid (mm = false) := by
              have h : mm = false := by
                rw [← hmm.out]
                exact mirP_false hlt hlj (by rw [exy.out.1, exy.out.2]; exact hxy)
              exact h
            go_wp2_with (fail)
            go_quiet (fail)
            go_wp2_with (fail)
            go_ret
            rw [HM.out]
            exact ⟨rfl, XZ.out.drewN _⟩
        · obtain rfl : j = k := by omega
          have q2 : ¬ (j : Int) < (j : Int) := by omega
          have HS3 : Hid (∀ x, x < j + 1 → ∀ y, y < x → costAt co x y = costAt co y x) := fun x hx => by
            by_cases e : x = j
            · subst e; exact HJ.out
            · exact HS.out x (by omega)
          have YZ := Lib.hid (Y.out.tr Z.out)
          go_wp2_with (fail)
          go_roundw
          case rel => exact ⟨j + 1, by go_num, by omega, HS3, YZ.out⟩
          case measure => simp [intOf]; omega
    · obtain rfl : k = co.length := by omega
      have HM : Hid (mm = true) := by
        have h : mm = true := by
          rw [← hmm.out]
          exact mirP_true HS.out
        exact h
      have q2 : ¬ (co.length : Int) < (co.length : Int) := by omega
      have XW := Lib.hid (X1.out.tr Y.out)
      go_wp2_with (fail)
      go_ret
      rw [HM.out]
      exact ⟨rfl, XW.out⟩
end Go.Proofs.Ytcpadkaljnnieaa
namespace Go.Proofs.Ytcpadkaljnnieaa
open Go.RowKit Go.ChangeShapes Go.WideShapes Go.ChangeAt Go.Deep

theorem results_four {fn : Func} {t u v x : Tmp} (h : fn.results = #[.tmp t, .tmp u, .tmp v, .tmp x]) (tmps : Array Value) (P : Program) (w : World) :
    (results fn tmps).run P w = .ok (.tuple #[tmps.getD t undef, tmps.getD u undef, tmps.getD v undef, tmps.getD x undef]) w := by
  simp [results, h]
abbrev used1 : Array Value := #[.bool true, .bool false, .bool false, .bool false, .bool false, .bool false, .bool false, .bool false, .bool false, .bool false, .bool false, .bool false, .bool false, .bool false, .bool false, .bool false, .bool false, .bool false, .bool false, .bool false, .bool false, .bool false, .bool false, .bool false]
theorem usedC_rest {n : Nat} (h1 : 1 ≤ n) (h : n ≤ 24) : usedC n (restM n) = used1 := by
  unfold restM
  rw [← usedC_set (subN_full h).1 (by omega), usedC_full h]
  rfl
def RestSome (m last : Nat) (cost : Int) (w : World) (e : Ending) (w' : World) : Prop := ∃ A c, e = .returned (.tuple #[.slice A (memsM m).length c, .int .i64 last, .int .i64 cost, .bool true]) ∧ OwI w' w.heap.size A c (intsN (memsM m)) ∧ Ext w w'
def RRest (r : Option (Nat × Nat × Int)) (w : World) (e : Ending) (w' : World) : Prop := match r with
  | none => e = .returned (.tuple #[.slice none 0 0, .int .i64 0, .int .i64 0, .bool false]) ∧ Ext w w'
  | some (m, last, cost) => RestSome m last cost w e w'
set_option maxRecDepth 100000 in
set_option maxHeartbeats 4000000 in
theorem rrest_any (i : InstP) (us : List Value) (P : Option Addr) (pc : Nat) (p : List Int) (w : World) (H : RInst w us i) (n : Nat) (hn : i.n = n) (hcn : i.cost.length = n) (rok : RowsOk i.cost) (h1 : 1 ≤ n) (h24 : n ≤ 24) (hP : RdI w P p) (lp : p.length ≤ 1000000000) :
    Calls Try.prog 121 #[.agg (List.toArray us), .slice P p.length pc] w (RRest (walkP i.cost p) w) := by
  obtain ⟨kind, nn, cap, xw, xv, co⟩ := i
  obtain ⟨A, a, B, b, D, d, rfl, -, -, ⟨hC, -, -⟩⟩ := H
  simp only at *
  subst hn
  replace hC := Lib.hid hC
  replace rok := Lib.hid rok
  replace hcn := Lib.hid hcn
  have UF : Hid (SubN n (restM n)) := restM_sub h24
  obtain ⟨r, hr⟩ : ∃ r, Hid (walkP co p = r) := ⟨_, rfl⟩
  rw [hr.out]
  unfold walkP at hr
  rw [hcn.out] at hr
  replace hP := Lib.hid hP
  have B1 : Hid (Blk (w.alloc (.cells #[.int .i64 kind, .int .i64 n, .int .i64 cap, .slice A xw.length a, .slice B xv.length b, .slice D co.length d] 61)) w.heap.size 61 #[.int .i64 kind, .int .i64 n, .int .i64 cap, .slice A xw.length a, .slice B xv.length b, .slice D co.length d]) := .new rfl
  by_cases hlen : n - 1 < p.length
  · have hr2 : Hid (r = none) := by
      have h := hr.out
      rw [if_pos hlen] at h
      exact h.symm
    have hlb : (n : Int) - 1 < (p.length : Int) := by omega
    have hw : IntKind.i64.wrap ((n : Int) - 1) = (n : Int) - 1 := IntWalk.i64_in _ (by omega)
    rw [hr2.out]
    unfold RRest
    clear hr hr2
    go_enter Try.func121, Try.ntmps121
    go_wp2_with (fail)
    ((try simp only [Exit.inBlock, Exit.then]); refine bodyPost_ret (results_four rfl _ _ _) rfl ?_)
    exact ⟨rfl, by (repeat (first | assumption | exact Ext.rf _ | apply Ext.drew | apply Ext.drewN | apply Ext.alloc))⟩
  · have hr2 : Hid (walkT co (restM n) 0 0 p = r) := by
      have h := hr.out
      rw [if_neg hlen] at h
      exact h
    have hlb : ¬ (n : Int) - 1 < (p.length : Int) := by omega
    have hw : IntKind.i64.wrap ((n : Int) - 1) = (n : Int) - 1 := IntWalk.i64_in _ (by omega)
    obtain ⟨m0, hm0⟩ : ∃ m0, Hid (m0 = restM n) := ⟨restM n, by exact rfl⟩
    have FU2 : Hid (usedC n m0 = used1) := by rw [hm0.out]; exact usedC_rest h1 h24
    rw [← hm0.out] at hr2 UF
    have START : Hid (Ext w ((w.alloc (.cells #[.int .i64 kind, .int .i64 n, .int .i64 cap, .slice A xw.length a, .slice B xv.length b, .slice D co.length d] 61)).alloc (.cells #[.bool true, .bool false, .bool false, .bool false, .bool false, .bool false, .bool false, .bool false, .bool false, .bool false, .bool false, .bool false, .bool false, .bool false, .bool false, .bool false, .bool false, .bool false, .bool false, .bool false, .bool false, .bool false, .bool false, .bool false] 156)) ∧ Blk ((w.alloc (.cells #[.int .i64 kind, .int .i64 n, .int .i64 cap, .slice A xw.length a, .slice B xv.length b, .slice D co.length d] 61)).alloc (.cells #[.bool true, .bool false, .bool false, .bool false, .bool false, .bool false, .bool false, .bool false, .bool false, .bool false, .bool false, .bool false, .bool false, .bool false, .bool false, .bool false, .bool false, .bool false, .bool false, .bool false, .bool false, .bool false, .bool false, .bool false] 156)) w.heap.size 61 #[.int .i64 kind, .int .i64 n, .int .i64 cap, .slice A xw.length a, .slice B xv.length b, .slice D co.length d] ∧ Blk ((w.alloc (.cells #[.int .i64 kind, .int .i64 n, .int .i64 cap, .slice A xw.length a, .slice B xv.length b, .slice D co.length d] 61)).alloc (.cells #[.bool true, .bool false, .bool false, .bool false, .bool false, .bool false, .bool false, .bool false, .bool false, .bool false, .bool false, .bool false, .bool false, .bool false, .bool false, .bool false, .bool false, .bool false, .bool false, .bool false, .bool false, .bool false, .bool false, .bool false] 156)) (w.heap.size + 1) 156 (usedC n m0)) :=
      ⟨((Ext.rf _).alloc _).alloc _, B1.out.alloc _, by rw [FU2.out]; exact .new (by simp)⟩
    clear hr
    go_enter Try.func121, Try.ntmps121
    go_wp2_with (fail)
    go_loopw [11, 10, 9] (fun v cv lv wr => ∃ (k m last : Nat) (cost : Int), v = .int .i64 k ∧ cv = .int .i64 cost ∧ lv = .int .i64 last ∧ k ≤ p.length ∧ Hid (walkT co m last cost (p.drop k) = r) ∧ Hid (SubN n m) ∧ Hid (last < n ∧ 0 ≤ cost ∧ cost ≤ 2147483647 * (k : Int)) ∧ Hid (Ext w wr ∧ Blk wr w.heap.size 61 #[.int .i64 kind, .int .i64 n, .int .i64 cap, .slice A xw.length a, .slice B xv.length b, .slice D co.length d] ∧ Blk wr (w.heap.size + 1) 156 (usedC n m))) (fun v _ _ _ => p.length - (intOf v).toNat)
    case atStart => exact ⟨0, m0, 0, 0, rfl, rfl, rfl, by omega, hr2, UF, by exact (show 0 < n ∧ (0 : Int) ≤ 0 ∧ (0 : Int) ≤ 2147483647 * ((0 : Nat) : Int) from ⟨by omega, by omega, by omega⟩), START⟩
    case round =>
      obtain ⟨wo, rfl⟩ : ∃ wo : World, wo = wr := ⟨_, rfl⟩
      clear START FU2
      obtain ⟨k, m, last, cost, rfl, rfl, rfl, hk, HF, HU, HL, HH⟩ := hrel
      obtain ⟨Y, bI, bU⟩ := HH.out
      have cN : wo.cell? ⟨w.heap.size, 1, none⟩ = some (.int .i64 n) := bI.cell 1
      replace Y := Lib.hid Y
      replace bI := Lib.hid bI
      replace bU := Lib.hid bU
      clear HH
      by_cases hlt : k < p.length
      · obtain ⟨pb, po, c, rfl, zp, cp, ep, dp⟩ := (hP.out.ext Y.out).at hlt
        have HF2 : Hid (r = if 0 ≤ c ∧ c < 64 ∧ m.testBit c.toNat = true then walkT co (clrM m c.toNat) c.toNat (cost + costAt co last c.toNat) (p.drop (k + 1)) else none) := by
          have h := HF.out
          rw [dp.out, walkT_cons] at h
          exact h.symm
        have q1 : (k : Int) < (p.length : Int) := by omega
        clear HF dp
        by_cases c0 : c < 0
        · have HN : Hid (r = none) := by
            have h := HF2.out
            rw [if_neg (by omega)] at h
            exact h
          have t0 : decide (c < 0) = true := decide_eq_true c0
          go_wp2_with (fail)
          go_quiet (fail)
          go_wp2_with (fail)
          ((try simp only [Exit.inBlock, Exit.then]); refine bodyPost_ret (results_four rfl _ _ _) rfl ?_)
          rw [HN.out]
          exact ⟨rfl, Y.out.drewN _⟩
        · have t0 : decide (c < 0) = false := decide_eq_false c0
          obtain ⟨ci, rfl⟩ : ∃ ci : Nat, c = (ci : Int) := ⟨c.toNat, by omega⟩
          rw [Int.toNat_natCast] at HF2
          clear c0 t0
          by_cases c1 : n ≤ ci
          · have HN : Hid (r = none) := by
              have h := HF2.out
              rw [if_neg (by rintro ⟨_, h1, h2⟩; have := HU.out.2 ci (memsM_mem.2 ⟨by omega, h2⟩); omega)] at h
              exact h
            have t1 : decide (n ≤ ci) = true := decide_eq_true c1
            have t2 : decide ((n : Int) ≤ (ci : Int)) = true := decide_eq_true (by omega)
            go_wp2_with (fail)
            go_quiet (fail)
            go_wp2_with (fail)
            ((try simp only [Exit.inBlock, Exit.then]); refine bodyPost_ret (results_four rfl _ _ _) rfl ?_)
            rw [HN.out]
            exact ⟨rfl, Y.out.drewN _⟩
          · have t1 : decide (n ≤ ci) = false := decide_eq_false c1
            have t2 : decide ((n : Int) ≤ (ci : Int)) = false := decide_eq_false (by omega)
            have cin : ci < n := by omega
            have ci24 : (ci : Int) < 24 := by omega
            have dn : decide (ci < n) = true := decide_eq_true cin
            cases hb : m.testBit ci with
            | false =>
              have HN : Hid (r = none) := by
                have h := HF2.out
                rw [if_neg (by rintro ⟨_, h1, h2⟩; rw [hb] at h2; cases h2)] at h
                exact h
              have cu : wo.cell? ⟨w.heap.size + 1, ci, none⟩ = some (.bool true) := by rw [bU.out.cell, usedC_at (by omega), dn, hb]; rfl
              clear HF2 hb dn
              go_wp2_with (fail)
              go_quiet (fail)
              go_wp2_with (fail)
              ((try simp only [Exit.inBlock, Exit.then]); refine bodyPost_ret (results_four rfl _ _ _) rfl ?_)
              rw [HN.out]
              exact ⟨rfl, Y.out.drewN _⟩
            | true =>
              have HF3 : Hid (walkT co (clrM m ci) ci (cost + costAt co last ci) (p.drop (k + 1)) = r) := by
                have h := HF2.out
                rw [if_pos ⟨by omega, by omega, hb⟩] at h
                exact h.symm
              have cu : wo.cell? ⟨w.heap.size + 1, ci, none⟩ = some (.bool false) := by rw [bU.out.cell, usedC_at (by omega), dn, hb]; rfl
              have fu := bU.out.free ci
              have HU2 := Lib.hid (HU.out.clr ci)
              have NX : Hid (∀ q, Ext w ((wo.drewN q).setCell ⟨w.heap.size + 1, ci, none⟩ (.bool true)) ∧ Blk ((wo.drewN q).setCell ⟨w.heap.size + 1, ci, none⟩ (.bool true)) w.heap.size 61 #[.int .i64 kind, .int .i64 n, .int .i64 cap, .slice A xw.length a, .slice B xv.length b, .slice D co.length d] ∧ Blk ((wo.drewN q).setCell ⟨w.heap.size + 1, ci, none⟩ (.bool true)) (w.heap.size + 1) 156 (usedC n (clrM m ci))) := by
                intro q
                refine ⟨(Y.out.drewN q).setNew (by simp) _, (bI.out.drewN q).far (by simp) _, ?_⟩
                rw [← usedC_set HU.out.1 cin]
                exact (bU.out.drewN q).set ci _
              clear HF2 hb dn
              generalize clrM m ci = m2 at *
              go_wp2_with (fail)
              go_quiet (fail)
              go_wp2_with (fail)
              obtain ⟨NY, NI, NU⟩ := NX.out nq
              clear cu fu cN cp zp NX
              generalize (wo.drewN nq).setCell ⟨w.heap.size + 1, ci, none⟩ (.bool true) = w2 at *
              have hlc : last < co.length := by have := HL.out.1; have := hcn.out; omega
              obtain ⟨cb, cof, D', row, d', hDq, zb, cD, er, _, rD, _, _, _⟩ := (hC.out.ext NY fun _ _ h => h.ext NY).ints (r := last) hlc
              subst hDq
              have hmem := List.mem_of_getElem? er.out
              have lrow := rok.out.row row hmem
              have nrow := rok.out.num row hmem
              obtain ⟨rb, ro, y, rfl, zx, cx, ex, _⟩ := rD.at (k := ci) (by have := hcn.out; omega)
              obtain ⟨pb2, po2, c2, hpq, zp2, cp2, ep2, _⟩ := (hP.out.ext NY).at hlt
              obtain ⟨rfl, rfl⟩ : pb = pb2 ∧ po = po2 := by simpa using hpq
              obtain rfl : (ci : Int) = c2 := by
                have h := ep2.out
                rw [ep.out] at h
                exact Option.some.inj h
              have ny := nrow y (List.mem_of_getElem? ex.out)
              have ecost : costAt co last ci = y := by unfold costAt; rw [getD_some er.out, getD_some ex.out]
              rw [ecost] at HF3
              have HL2 : Hid (ci < n ∧ 0 ≤ cost + y ∧ cost + y ≤ 2147483647 * ((k + 1 : Nat) : Int)) := by
                have h := HL.out
                have : ci < n ∧ 0 ≤ cost + y ∧ cost + y ≤ 2147483647 * ((k + 1 : Nat) : Int) := ⟨cin, by omega, by omega⟩
                exact this
              have hw2 : IntKind.i64.wrap (cost + y) = cost + y := IntWalk.i64_in _ (by have := HL2.out; omega)
              have cI5 : w2.cell? ⟨w.heap.size, 5, none⟩ = some (.slice (some ⟨cb, cof, none⟩) co.length d) := NI.cell 5
              have q6 : (last : Int) < (co.length : Int) := by omega
              have q7 : (ci : Int) < (row.length : Int) := by have := hcn.out; omega
              have NN : Hid (∀ q, Ext w (w2.drewN q) ∧ Blk (w2.drewN q) w.heap.size 61 #[.int .i64 kind, .int .i64 n, .int .i64 cap, .slice A xw.length a, .slice B xv.length b, .slice (some ⟨cb, cof, none⟩) co.length d] ∧ Blk (w2.drewN q) (w.heap.size + 1) 156 (usedC n m2)) := fun q => ⟨NY.drewN q, NI.drewN q, NU.drewN q⟩
              clear ex er rD hmem lrow nrow ecost hlc NY NI NU ep ep2 hpq
              go_quiet (fail)
              go_wp2_with (fail)
              go_roundw
              case rel => exact ⟨k + 1, m2, ci, cost + y, by go_num, rfl, rfl, by omega, HF3, HU2, HL2, NN.out _⟩
              case measure => simp [intOf]; omega
      · have HF2 : Hid (some (m, last, cost) = r) := by
          have h := HF.out
          rw [show p.drop k = [] from List.drop_of_length_le (by omega)] at h
          exact h
        have q1 : ¬ (k : Int) < (p.length : Int) := by omega
        have HM : Hid (memsM m = upTo m n) := memsM_range HU.out (by omega)
        have X9 := Lib.hid (Y.out.alloc (.cells #[] 3))
        have bI9 := Lib.hid (bI.out.alloc (.cells #[] 3))
        have bU9 := Lib.hid (bU.out.alloc (.cells #[] 3))
        have zY := Y.out.size
        have o9 : Hid (OwI (wo.alloc (.cells #[] 3)) w.heap.size (some ⟨wo.heap.size, 0, none⟩) 0 (intsN (upTo m 0))) := OwI.new (xs := []) rfl zY (by simp [maxLen])
        clear HF HU hr2
        go_wp2_with (fail)
        go_loopw [13, 12] (fun v o wr => ∃ (k : Nat) (A' : Option Addr) (c' : Nat), v = .int .i64 k ∧ o = .slice A' (upTo m k).length c' ∧ k ≤ n ∧ Hid (OwI wr w.heap.size A' c' (intsN (upTo m k))) ∧ Hid (Ext w wr) ∧ Hid (Blk wr w.heap.size 61 #[.int .i64 kind, .int .i64 n, .int .i64 cap, .slice A xw.length a, .slice B xv.length b, .slice D co.length d]) ∧ Hid (Blk wr (w.heap.size + 1) 156 (usedC n m))) (fun v _ _ => n - (intOf v).toNat)
        case atStart => exact ⟨0, _, _, rfl, rfl, by omega, o9, X9, bI9, bU9⟩
        case round =>
          obtain ⟨wi, rfl⟩ : ∃ wi : World, wi = wr := ⟨_, rfl⟩
          obtain ⟨j, A', c', rfl, rfl, hj, oJ, YJ, bIJ, bUJ⟩ := hrel
          clear X9 bI9 bU9 o9
          have cN2 : wi.cell? ⟨w.heap.size, 1, none⟩ = some (.int .i64 n) := bIJ.out.cell 1
          have US := Lib.hid (upTo_succ m j)
          have UL := upTo_len m j
          by_cases hjn : j < n
          · have j24 : (j : Int) < 24 := by omega
            have dn : decide (j < n) = true := decide_eq_true hjn
            have q3 : (j : Int) < (n : Int) := by omega
            cases hb : m.testBit j with
            | false =>
              have cu : wi.cell? ⟨w.heap.size + 1, j, none⟩ = some (.bool true) := by rw [bUJ.out.cell, usedC_at (by omega), dn, hb]; rfl
              have HE : Hid (upTo m (j + 1) = upTo m j) := by
                have h := US.out
                rw [hb, if_neg (by simp), List.append_nil] at h
                exact h
              clear US hb dn
              go_wp2_with (fail)
              go_roundw
              case rel => exact ⟨j + 1, A', c', by go_num, by rw [HE.out], by omega, by rw [HE.out]; exact oJ, YJ, bIJ, bUJ⟩
              case measure => simp [intOf]; omega
            | true =>
              have cu : wi.cell? ⟨w.heap.size + 1, j, none⟩ = some (.bool false) := by rw [bUJ.out.cell, usedC_at (by omega), dn, hb]; rfl
              have HE : Hid (upTo m (j + 1) = upTo m j ++ [j]) := by
                have h := US.out
                rw [hb, if_pos rfl] at h
                exact h
              have HE2 : Hid (intsN (upTo m (j + 1)) = intsN (upTo m j) ++ [(j : Int)]) := by
                have h : intsN (upTo m (j + 1)) = intsN (upTo m j) ++ [(j : Int)] := by rw [HE.out]; simp [intsN]
                exact h
              have HL : Hid ((upTo m (j + 1)).length = (upTo m j).length + 1) := by
                have h : (upTo m (j + 1)).length = (upTo m j).length + 1 := by rw [HE.out]; simp
                exact h
              have zJ := YJ.out.size
              have e0 : (upTo m j).length = (intsN (upTo m j)).length := (intsN_len _).symm
              have l0 : (intsN (upTo m j)).length ≤ 24 := by rw [intsN_len]; omega
              rw [e0]
              clear US hb dn UL e0 HE
              replace l0 := Lib.hid l0
              go_wp2_with (at_builtin; refine wpl_app_i _ rfl _ _ rfl w.heap.size A' (intsN (upTo m j)).length c' (intsN (upTo m j)) [(j : Int)] (some ⟨wi.heap.size, 0, none⟩) 1 rfl rfl rfl ?_ ?_ ?_ ?_ ?_; (exact oJ.out.ext ((Ext.rf _).alloc _)); (exact .blk (.new (by simp)) rfl); (have := l0.out; simp; omega); (first | exact Nat.le_refl _ | omega | (focus (simp; try omega))); rintro A5 c5 w5 o5 g5 _; have X5 := Lib.hid (Ext.grow (YJ.out.alloc _) g5 (fun k hk => (oJ.out.lt k hk).1)); have bI5 : Hid (Blk w5 w.heap.size 61 #[.int .i64 kind, .int .i64 n, .int .i64 cap, .slice A xw.length a, .slice B xv.length b, .slice D co.length d]) := (bIJ.out.alloc _).mod (Mod.grown (S := fun k => bl A' = some k) g5 (fun _ h => h)) (fun h => absurd rfl (oJ.out.ne bIJ.out (by decide) _ h)); have bU5 : Hid (Blk w5 (w.heap.size + 1) 156 (usedC n m)) := (bUJ.out.alloc _).mod (Mod.grown (S := fun k => bl A' = some k) g5 (fun _ h => h)) (fun h => absurd rfl (oJ.out.ne bUJ.out (by decide) _ h)); rw [← HE2.out] at o5; replace o5 := Lib.hid o5; clear g5)
              go_roundw
              case rel => exact ⟨j + 1, A5, c5, by go_num, by rw [HL.out, intsN_len], by omega, o5, X5, bI5, bU5⟩
              case measure => simp [intOf]; omega
          · obtain rfl : j = n := by omega
            have q3 : ¬ (j : Int) < (j : Int) := by omega
            have FIN : Hid (RestSome m last cost w (.returned (.tuple #[.slice A' (upTo m j).length c', .int .i64 last, .int .i64 cost, .bool true])) wi) := ⟨A', c', by rw [HM.out], by rw [HM.out]; exact oJ.out, YJ.out⟩
            clear US UL
            go_wp2_with (fail)
            ((try simp only [Exit.inBlock, Exit.then]); refine bodyPost_ret (results_four rfl _ _ _) rfl ?_)
            rw [← HF2.out]
            exact FIN.out
end Go.Proofs.Ytcpadkaljnnieaa
namespace Go.Proofs.Ytcpadkaljnnieaa
open Go.RowKit Go.ChangeShapes Go.WideShapes Go.ChangeAt Go.Deep

end Go.Proofs.Ytcpadkaljnnieaa
namespace Go.Proofs.Ytcpadkaljnnieaa
open Go.RowKit Go.ChangeShapes Go.WideShapes Go.ChangeAt Go.Deep

set_option maxRecDepth 100000 in
set_option maxHeartbeats 8000000 in
theorem rkids13_any (i : InstP) (us : List Value) (P : Option Addr) (pc : Nat) (p : List Int) (w : World) (H : RInst w us i) (ok : SquareOk i) (hP : RdI w P p) (lp : p.length ≤ 1000000000) :
    Calls Try.prog 126 #[.agg (List.toArray us), .slice P p.length pc] w (OwnPost (kidsT i.cost p).1 (kidsT i.cost p).2 w) := by
  have rok := rows_ok ok
  have l1 := rok.n1
  have l2 := rok.n2
  have hnn : i.n = (i.cost.length : Int) := ok.len.symm
  have FR := fun (W : World) (x : Ext w W) => rrest_any i us P pc p W (H.ext x) i.cost.length hnn rfl rok l1 l2 (hP.ext x) lp
  clear ok
  obtain ⟨kind, nn, cap, xw, xv, co⟩ := i
  obtain ⟨A, a, B, b, D, d, rfl, -, -, ⟨hC, -, -⟩⟩ := H
  simp only at *
  subst hnn
  obtain ⟨r, hr⟩ : ∃ r, Hid (walkP co p = r) := ⟨_, rfl⟩
  rw [hr.out] at FR
  replace hP := Lib.hid hP
  have B1 : Hid (Blk (w.alloc (.cells #[.int .i64 kind, .int .i64 co.length, .int .i64 cap, .slice A xw.length a, .slice B xv.length b, .slice D co.length d] 61)) w.heap.size 61 #[.int .i64 kind, .int .i64 co.length, .int .i64 cap, .slice A xw.length a, .slice B xv.length b, .slice D co.length d]) := .new rfl
  cases r with
  | none =>
    have e : kidsT co p = ([], 1) := by unfold kidsT; rw [hr.out]
    rw [e]
    unfold RRest at FR
    replace FR := Lib.hid FR
    go_enter Try.func126, Try.ntmps126
    go_wp2_with (fail)
    refine (FR.out _ (by (repeat (first | assumption | exact Ext.rf _ | apply Ext.drew | apply Ext.drewN | apply Ext.alloc)))).mono ?_
    rintro e w1 ⟨rfl, x1⟩
    have X1 := Lib.hid (Ext.tr (a := w) (by (repeat (first | assumption | exact Ext.rf _ | apply Ext.drew | apply Ext.drewN | apply Ext.alloc))) x1)
    clear x1
    go_wp2_with (fail)
    go_ret2
    exact ⟨none, 0, rfl, OwI.nil _ _, X1.out⟩
  | some s =>
    obtain ⟨m, last, cost⟩ := s
    obtain ⟨pl, WO⟩ := walk_ok l1 l2 hr.out
    have hS := WO.sub
    have hlast := walk_last l1 WO
    have hlen : (memsM m).length ≤ 24 := by have := WO.len; omega
    have e : kidsT co p = (intsN (sortP (ltC (cfR (co.getD last []))) (memsM m)), 0) := by unfold kidsT; rw [hr.out]
    rw [e]
    clear e
    have hsub := Lib.hid hS.2
    have hsrt := Lib.hid (memsM_sorted m)
    replace FR := fun (W : World) (x : Ext w W) => (show Calls _ _ _ W (RestSome m last cost W) from FR W x)
    unfold RestSome at FR
    replace FR := Lib.hid FR
    clear hr hS WO
    generalize memsM m = l at *
    have hkr : last < co.length := hlast
    have er : co[last]? = some co[last] := List.getElem?_eq_getElem hkr
    have eg : co.getD last [] = co[last] := by simp [List.getD, er]
    rw [eg]
    clear eg
    replace hC := Lib.hid hC
    have hmem : co[last] ∈ co := List.getElem_mem hkr
    have lrow := rok.row _ hmem
    clear hmem
    have HCO : Hid (∀ W, Ext w W → ∃ bb off D' row d', D = some ⟨bb, off, none⟩ ∧ W.cell? ⟨bb, off + last, none⟩ = some (.slice D' row.length d') ∧ RdI W D' row ∧ row = co[last]) := by
      intro W x
      obtain ⟨bb, off, D', row, d', h1, _, h3, h4, _, h6, _⟩ := (hC.out.ext x fun _ _ h => h.ext x).ints hkr
      refine ⟨bb, off, D', row, d', h1, h3, h6, ?_⟩
      have := h4.out
      rw [er] at this
      exact (Option.some.inj this).symm
    generalize co[last] = row0 at *
    clear er
    have q1 : (last : Int) < (co.length : Int) := by omega
    have hl24 : l.length ≤ 24 := by omega
    replace lrow := Lib.hid lrow
    replace hlen := Lib.hid hlen
    go_enter Try.func126, Try.ntmps126
    go_wp2_with (fail)
    refine (FR.out _ (by (repeat (first | assumption | exact Ext.rf _ | apply Ext.drew | apply Ext.drewN | apply Ext.alloc)))).mono ?_
    rintro e w1 ⟨A1, c1, rfl, o1, x1⟩
    have X1 := Lib.hid (Ext.tr (a := w) (by (repeat (first | assumption | exact Ext.rf _ | apply Ext.drew | apply Ext.drewN | apply Ext.alloc))) x1)
    have BB := Lib.hid (B1.out.ext x1)
    obtain ⟨bb, off, D', row, d', rfl, cD, rD, rfl⟩ := HCO.out _ X1.out
    have d1 : w1.cell? ⟨w.heap.size, 1, none⟩ = some (.int .i64 co.length) := BB.out.cell 1
    have d5 : w1.cell? ⟨w.heap.size, 5, none⟩ = some (.slice (some ⟨bb, off, none⟩) co.length d) := BB.out.cell 5
    have z1 := X1.out.size
    have zo := o1.lt
    replace o1 := Lib.hid o1.read
    replace rD := Lib.hid rD
    clear x1 HCO zo
    go_wp2_with (at_make; refine wpl_make_i _ rfl _ _ rfl w1.heap.size _ _ l.length rfl rfl rfl rfl (by omega) (Nat.le_refl _) ?_; rintro w3 o3 g3)
    have x3 : Ext w1 w3 := (Ext.rf _).grownNone g3
    have S3 : Hid (OwI w3 w1.heap.size (some ⟨w1.heap.size, 0, none⟩) l.length (placeK (aheadL (ltC (cfR row)) l) l 0) ∧ Ext w1 w3) := ⟨o3, x3⟩
    clear o3 g3 x3 d1 d5 cD
    go_wp2_with (fail)
    go_loopw [12] (fun v wr => ∃ k : Nat, v = .int .i64 k ∧ k ≤ l.length ∧ Hid (OwI wr w1.heap.size (some ⟨w1.heap.size, 0, none⟩) l.length (placeK (aheadL (ltC (cfR row)) l) l k) ∧ Ext w1 wr)) (fun v _ => l.length - (intOf v).toNat)
    case atStart => exact ⟨0, rfl, by omega, S3⟩
    case round =>
      obtain ⟨wo, rfl⟩ : ∃ wo : World, wo = wr := ⟨_, rfl⟩
      obtain ⟨k, rfl, hk, HS⟩ := hrel
      clear S3
      by_cases hlt : k < l.length
      · have q2 : (k : Int) < (l.length : Int) := by omega
        have ek : l[k]? = some l[k] := List.getElem?_eq_getElem hlt
        have hkm : l[k] ∈ l := List.getElem_mem hlt
        have HPK : Hid (placeK (aheadL (ltC (cfR row)) l) l (k + 1) = (placeK (aheadL (ltC (cfR row)) l) l k).set (aheadL (ltC (cfR row)) l l[k]) ((l[k] : Nat) : Int)) := by
          have h : placeK (aheadL (ltC (cfR row)) l) l (k + 1) = (placeK (aheadL (ltC (cfR row)) l) l k).set (aheadL (ltC (cfR row)) l (l.getD k 0)) ((l.getD k 0 : Nat) : Int) := rfl
          rw [show l.getD k 0 = l[k] by simp [List.getD, ek]] at h
          exact h
        have hxs := hsub.out _ hkm
        generalize l[k] = x at *
        obtain ⟨O, Y⟩ := HS.out
        clear HS
        replace O := Lib.hid O
        replace Y := Lib.hid Y
        go_wp2_with (fail)
        go_loopw [14, 13] (fun v nv wr => ∃ j : Nat, v = .int .i64 j ∧ nv = .int .i64 (aheadL (ltC (cfR row)) (l.take j) x : Nat) ∧ j ≤ l.length ∧ Hid (Ext wo wr)) (fun v _ _ => l.length - (intOf v).toNat)
        case atStart => exact ⟨0, rfl, rfl, by omega, Ext.rf _⟩
        case round =>
          obtain ⟨wi, rfl⟩ : ∃ wi : World, wi = wr := ⟨_, rfl⟩
          obtain ⟨j, rfl, rfl, hj, YI⟩ := hrel
          have hale := aheadL_le (ltC (cfR row)) (l.take j) x
          rw [List.length_take] at hale
          have rl : RdI wi A1 (intsN l) := (o1.out.ext Y.out).ext YI.out
          have rr : RdI wi D' row := (rD.out.ext Y.out).ext YI.out
          obtain ⟨lb, lo, xk, rfl, _, ck, exk, _⟩ := rl.at (k := k) (by rw [intsN_len]; exact hlt)
          obtain rfl : xk = (x : Int) := by
            have h := exk.out
            rw [intsN_get ek] at h
            exact (Option.some.inj h).symm
          obtain ⟨rb, ro, yk, rfl, _, cxk, eyk, _⟩ := rr.at (k := x) (by rw [lrow.out]; exact hxs)
          have gk : row.getD x 0 = yk := getD_some eyk.out
          clear exk eyk
          by_cases hjl : j < l.length
          · have q3 : (j : Int) < (l.length : Int) := by omega
            have ej : l[j]? = some l[j] := List.getElem?_eq_getElem hjl
            have hjs := hsub.out _ (List.getElem_mem hjl)
            have HA : Hid (aheadL (ltC (cfR row)) (l.take (j + 1)) x = aheadL (ltC (cfR row)) (l.take j) x + if strB (ltC (cfR row)) l[j] x = true then 1 else 0) := by
              have h : l.take (j + 1) = l.take j ++ [l[j]] := by rw [List.take_add_one, ej]; rfl
              have h2 := aheadL_snoc (ltC (cfR row)) (l.take j) x l[j]
              rw [← h] at h2
              exact h2
            have HB := rise_lt hsrt.out ej ek
            generalize l[j] = y at *
            obtain ⟨lb2, lo2, xj, hq, _, cj, exj, _⟩ := rl.at (k := j) (by rw [intsN_len]; exact hjl)
            obtain ⟨rfl, rfl⟩ : lb = lb2 ∧ lo = lo2 := by simpa using hq
            obtain rfl : xj = (y : Int) := by
              have h := exj.out
              rw [intsN_get ej] at h
              exact (Option.some.inj h).symm
            obtain ⟨rb2, ro2, yj, hq2, _, cxj, eyj, _⟩ := rr.at (k := y) (by rw [lrow.out]; exact hjs)
            obtain ⟨rfl, rfl⟩ : rb = rb2 ∧ ro = ro2 := by simpa using hq2
            have gj : row.getD y 0 = yj := getD_some eyj.out
            have HA2 : Hid (aheadL (ltC (cfR row)) (l.take (j + 1)) x = aheadL (ltC (cfR row)) (l.take j) x + if (decide (yj < yk) || (decide (yj = yk) && decide (j < k))) = true then 1 else 0) := by
              have h := HA.out
              rw [strB_cfR, gj, gk, HB] at h
              exact h
            have qx : (x : Int) < (row.length : Int) := by rw [lrow.out]; omega
            have qy : (y : Int) < (row.length : Int) := by rw [lrow.out]; omega
            clear HA HB ej exj eyj hq hq2 gj gk rl rr
            generalize aheadL (ltC (cfR row)) (l.take j) x = ah at *
            by_cases t1 : yj < yk
            · have d1 : decide (yj < yk) = true := decide_eq_true t1
              have HA3 : Hid (aheadL (ltC (cfR row)) (l.take (j + 1)) x = ah + 1) := by
                have h := HA2.out
                rw [d1, Bool.true_or, if_pos rfl] at h
                exact h
              clear HA2
              go_wp2_with (fail)
              go_quiet (fail)
              go_wp2_with (fail)
              go_roundw
              case rel => exact ⟨j + 1, by go_num, by rw [HA3.out]; go_num, by omega, YI.out.drewN _⟩
              case measure => simp [intOf]; omega
            · have d1 : decide (yj < yk) = false := decide_eq_false t1
              by_cases t2 : yj = yk
              · have d2 : (yj == yk) = true := by rw [beq_iff_eq]; exact t2
                have d2' : decide (yj = yk) = true := decide_eq_true t2
                replace t2 := Lib.hid t2
                by_cases t3 : j < k
                · have d3 : decide (j < k) = true := decide_eq_true t3
                  have HA3 : Hid (aheadL (ltC (cfR row)) (l.take (j + 1)) x = ah + 1) := by
                    have h := HA2.out
                    rw [d1, d2', d3] at h
                    exact h
                  clear HA2 d2'
                  go_wp2_with (fail)
                  go_quiet (fail)
                  go_wp2_with (fail)
                  go_roundw
                  case rel => exact ⟨j + 1, by go_num, by rw [HA3.out]; go_num, by omega, YI.out.drewN _⟩
                  case measure => simp [intOf]; omega
                · have d3 : decide (j < k) = false := decide_eq_false t3
                  have HA3 : Hid (aheadL (ltC (cfR row)) (l.take (j + 1)) x = ah) := by
                    have h := HA2.out
                    rw [d1, d2', d3] at h
                    exact h
                  clear HA2 d2'
                  go_wp2_with (fail)
                  go_quiet (fail)
                  go_wp2_with (fail)
                  go_roundw
                  case rel => exact ⟨j + 1, by go_num, by rw [HA3.out], by omega, YI.out.drewN _⟩
                  case measure => simp [intOf]; omega
              · have d2 : (yj == yk) = false := by rw [beq_eq_false_iff_ne]; exact t2
                have d2' : decide (yj = yk) = false := decide_eq_false t2
                have HA3 : Hid (aheadL (ltC (cfR row)) (l.take (j + 1)) x = ah) := by
                  have h := HA2.out
                  rw [d1, d2'] at h
                  exact h
                clear HA2 d2'
                go_wp2_with (fail)
                go_quiet (fail)
                go_wp2_with (fail)
                go_roundw
                case rel => exact ⟨j + 1, by go_num, by rw [HA3.out], by omega, YI.out.drewN _⟩
                case measure => simp [intOf]; omega
          · obtain rfl : j = l.length := by omega
            have q3 : ¬ (l.length : Int) < (l.length : Int) := by omega
            have e0 : l.take l.length = l := List.take_length
            rw [e0]
            have hal : aheadL (ltC (cfR row)) l x < l.length := by
              have W := cfR_weak row
              obtain ⟨k', hk', e'⟩ := List.mem_iff_getElem.1 ((sortP_is W hsrt.out).mem.2 hkm)
              rw [aheadL_at W hsrt.out (by rw [List.getElem?_eq_getElem hk', e'])]
              rwa [sortP_len] at hk'
            clear e0 hale gk
            generalize aheadL (ltC (cfR row)) l x = ah at *
            obtain ⟨v9, c9, f9, _, _, s9⟩ := OwI.cell (OwI.ext O.out YI.out) (k := ah) (by rw [placeK_len]; exact hal)
            have q4 : (ah : Int) < (l.length : Int) := by omega
            have NX : Hid (∀ W2, Ext wi W2 → OwI (W2.setCell ⟨w1.heap.size, ah, none⟩ (.int .i64 x)) w1.heap.size (some ⟨w1.heap.size, 0, none⟩) l.length (placeK (aheadL (ltC (cfR row)) l) l (k + 1)) ∧ Ext w1 (W2.setCell ⟨w1.heap.size, ah, none⟩ (.int .i64 x))) := by
              intro W2 x2
              rw [HPK.out]
              obtain ⟨_, _, _, _, _, s8⟩ := OwI.cell (OwI.ext (OwI.ext O.out YI.out) x2) (k := ah) (by rw [placeK_len]; exact hal)
              exact ⟨s8.out _, ((Y.out.tr YI.out).tr x2).setNew (p := ⟨w1.heap.size, ah, none⟩) (Nat.le_refl _) _⟩
            clear s9 HPK rl rr
            go_wp2_with (first | go_quiet (fail) | go_region)
            go_roundw
            case rel => exact ⟨k + 1, by go_num, by omega, NX.out _ (by (repeat (first | assumption | exact Ext.rf _ | apply Ext.drew | apply Ext.drewN | apply Ext.alloc)))⟩
            case measure => simp [intOf]; omega
      · obtain rfl : k = l.length := by omega
        have q2 : ¬ (l.length : Int) < (l.length : Int) := by omega
        have FIN : Hid (OwnPost (intsN (sortP (ltC (cfR row)) l)) 0 w (.returned (.tuple #[.slice (some ⟨w1.heap.size, 0, none⟩) l.length l.length, .int .i64 0])) wo) := by
          refine ⟨some ⟨w1.heap.size, 0, none⟩, l.length, by rw [intsN_len, sortP_len], ?_, X1.out.tr HS.out.2⟩
          have h := HS.out.1
          rw [place_sort (cfR_weak row) hsrt.out] at h
          exact OwI.more h z1
        clear HS
        go_wp2_with (fail)
        go_ret2
        exact FIN.out
end Go.Proofs.Ytcpadkaljnnieaa
namespace Go.Proofs.Ytcpadkaljnnieaa
open Go.RowKit Go.ChangeShapes Go.WideShapes Go.ChangeAt Go.Deep

end Go.Proofs.Ytcpadkaljnnieaa
namespace Go.Proofs.Ytcpadkaljnnieaa
open Go.RowKit Go.ChangeShapes Go.WideShapes Go.ChangeAt Go.Deep

theorem pairT_bd {rows : List (List Int)} {us : List Nat} {last : Nat} (num : ∀ a b, a < rows.length → b < rows.length → 0 ≤ costAt rows a b ∧ costAt rows a b ≤ 2147483647) (h0 : 0 < rows.length) (hl : last < rows.length) (hu : ∀ x ∈ us, x < rows.length) {y : Nat} (k0 : y < rows.length) : (0 ≤ (pairT rows us last y).1 ∧ (pairT rows us last y).1 ≤ 2147483647) ∧ 0 ≤ (pairT rows us last y).2 ∧ (pairT rows us last y).2 ≤ 2147483647 := by
  have k1 := num y last k0 hl
  have k2 := num y 0 k0 h0
  exact foldP_bd (B := 2147483647) (f := fun v => costAt rows y v) (us.filter fun j => decide (y ≠ j)) (min (costAt rows y last) (costAt rows y 0), max (costAt rows y last) (costAt rows y 0)) (by simp only; omega) (by simp only; omega) fun v hv => num y v k0 (hu v (List.mem_filter.1 hv).1)
set_option maxRecDepth 100000 in
set_option maxHeartbeats 4000000 in
theorem rends13_any (i : InstP) (us : List Value) (P : Option Addr) (pc : Nat) (l : List Nat) (last : Nat) (w : World) (H : RInst w us i) (rok : RowsOk i.cost) (hP : RdI w P (intsN l)) (hl : ∀ x ∈ l, x < i.cost.length) (hnd : l.Nodup) (hlen : l.length ≤ 24) (hla : last < i.cost.length) :
    Calls Try.prog 123 #[.agg (List.toArray us), .slice P l.length pc, .int .i64 last] w fun e w' => e = .returned (.int .i64 (endsT i.cost l last)) ∧ Ext w w' := by
  have h0 := rok.n1
  obtain ⟨kind, nn, cap, xw, xv, co⟩ := i
  obtain ⟨A, a, B, b, D, d, rfl, -, -, ⟨hC, -, -⟩⟩ := H
  simp only at *
  obtain ⟨cb, cof, _, _, _, rfl, _, _⟩ := cost_at rok hC (r := 0) (c := 0) (by omega) (by omega)
  have num := ends_num rok
  have CA := Lib.hid (fun (W : World) (x : Ext w W) (r c : Nat) (hr : r < co.length) (hc : c < co.length) => cost_in rok (hC.ext x fun _ _ h => h.ext x) hr hc)
  have B1 : Hid (Blk (w.alloc (.cells #[.int .i64 kind, .int .i64 nn, .int .i64 cap, .slice A xw.length a, .slice B xv.length b, .slice (some ⟨cb, cof, none⟩) co.length d] 61)) w.heap.size 61 #[.int .i64 kind, .int .i64 nn, .int .i64 cap, .slice A xw.length a, .slice B xv.length b, .slice (some ⟨cb, cof, none⟩) co.length d]) := .new rfl
  have X0 : Hid (Ext w (w.alloc (.cells #[.int .i64 kind, .int .i64 nn, .int .i64 cap, .slice A xw.length a, .slice B xv.length b, .slice (some ⟨cb, cof, none⟩) co.length d] 61))) := (Ext.rf _).alloc _
  have bsum : Hid (∀ k, 0 ≤ sumL ((l.take k).map fun u => (pairT co l last u).1 + (pairT co l last u).2) ∧ sumL ((l.take k).map fun u => (pairT co l last u).1 + (pairT co l last u).2) ≤ 4294967294 * 24) := fun k => by
    have h1 := sumL_map_bd (f := fun u => (pairT co l last u).1 + (pairT co l last u).2) (B := 4294967294) (l.take k) fun y hy => by
      have := pairT_bd num (by omega) hla hl (hl y (List.mem_of_mem_take hy))
      omega
    have h2 : (l.take k).length ≤ 24 := by rw [List.length_take]; omega
    omega
  have bfr : Hid (∀ k (f : Nat → Int), (∀ x, x < co.length → 0 ≤ f x ∧ f x ≤ 2147483647) → -2147483647 ≤ leastN f (-1) (l.take k) ∧ leastN f (-1) (l.take k) ≤ 2147483647) := fun k f hf =>
    leastN_bd (fun c hc => by have := hf c (hl c (List.mem_of_mem_take hc)); omega) (by omega) (by omega)
  replace hC := Lib.hid hC
  replace hP := Lib.hid hP
  replace hl := Lib.hid hl
  replace hnd := Lib.hid hnd
  replace num := Lib.hid num
  replace rok := Lib.hid rok
  go_enter Try.func123, Try.ntmps123
  go_wp2_with (fail)
  generalize w.alloc (.cells #[.int .i64 kind, .int .i64 nn, .int .i64 cap, .slice A xw.length a, .slice B xv.length b, .slice (some ⟨cb, cof, none⟩) co.length d] 61) = w1 at *
  go_loopw [7, 8, 9, 10] (fun s fr tq v wr => ∃ k : Nat, v = .int .i64 k ∧ s = .int .i64 (sumL ((l.take k).map fun u => (pairT co l last u).1 + (pairT co l last u).2)) ∧ fr = .int .i64 (leastN (fun u => costAt co last u) (-1) (l.take k)) ∧ tq = .int .i64 (leastN (fun u => costAt co u 0) (-1) (l.take k)) ∧ k ≤ l.length ∧ Hid (Ext w1 wr)) (fun _ _ _ v _ => l.length - (intOf v).toNat)
  case atStart => exact ⟨0, rfl, rfl, rfl, rfl, by omega, Ext.rf _⟩
  case round =>
    obtain ⟨wo, rfl⟩ : ∃ wo : World, wo = wr := ⟨_, rfl⟩
    obtain ⟨k, rfl, rfl, rfl, rfl, hk, Y⟩ := hrel
    by_cases hlt : k < l.length
    · obtain ⟨u, hux⟩ : ∃ u, Hid (u = l[k]) := ⟨l[k], rfl⟩
      have hu : u < co.length := by rw [hux.out]; exact hl.out _ (List.getElem_mem hlt)
      have euk : l[k]? = some u := by rw [hux.out]; exact List.getElem?_eq_getElem hlt
      have etk : l.take (k + 1) = l.take k ++ [u] := by rw [List.take_add_one, euk]; rfl
      obtain ⟨pb, po, xu, rfl, zp, cp, ep, _⟩ := (hP.out.ext (X0.out.tr Y.out)).at (k := k) (by rw [intsN_len]; exact hlt)
      have exu : xu = (u : Int) := by
        have h := ep.out
        rw [intsN_get euk] at h
        exact (Option.some.inj h).symm
      subst exu
      have zp1 : pb < wo.heap.size := zp
      have cp1 := cp
      obtain ⟨rb1, ro1, d1, c11, c12⟩ := CA.out _ (X0.out.tr Y.out) u last hu hla
      obtain ⟨rb2, ro2, d2, c21, c22⟩ := CA.out _ (X0.out.tr Y.out) u 0 hu h0
      obtain ⟨⟨rfl, rfl⟩, rfl⟩ : (rb1 = rb2 ∧ ro1 = ro2) ∧ d1 = d2 := by
        have h := c11.symm.trans c21
        simpa using h
      have b1 := num.out u last hu hla
      have b2 := num.out u 0 hu h0
      have b3 := num.out last u hla hu
      obtain ⟨y1, ey1⟩ : ∃ y1, Hid (costAt co u last = y1) := ⟨_, rfl⟩
      obtain ⟨y2, ey2⟩ : ∃ y2, Hid (costAt co u 0 = y2) := ⟨_, rfl⟩
      obtain ⟨y3, ey3⟩ : ∃ y3, Hid (costAt co last u = y3) := ⟨_, rfl⟩
      rw [ey1.out] at b1 c12
      rw [ey2.out] at b2 c22
      rw [ey3.out] at b3
      replace c22 : wo.cell? ⟨rb1, ro1, none⟩ = some (.int .i64 y2) := c22
      obtain ⟨pp, hpp⟩ : ∃ pp, Hid (pairT co l last u = pp) := ⟨_, rfl⟩
      have bpp := pairT_bd num.out (by omega) hla hl.out hu (us := l)
      rw [hpp.out] at bpp
      have bs := bsum.out k
      have eS : Hid (sumL ((l.take (k + 1)).map fun u => (pairT co l last u).1 + (pairT co l last u).2) = sumL ((l.take k).map fun u => (pairT co l last u).1 + (pairT co l last u).2) + pp.1 + pp.2) := by
        have h : sumL ((l.take (k + 1)).map fun u => (pairT co l last u).1 + (pairT co l last u).2) = sumL ((l.take k).map fun u => (pairT co l last u).1 + (pairT co l last u).2) + pp.1 + pp.2 := by
          rw [etk, List.map_append, List.map_cons, List.map_nil, sumA_snoc, hpp.out]; omega
        exact h
      have eF : Hid (leastN (fun u => costAt co last u) (-1) (l.take (k + 1)) = if leastN (fun u => costAt co last u) (-1) (l.take k) < 0 then y3 else if y3 < leastN (fun u => costAt co last u) (-1) (l.take k) then y3 else leastN (fun u => costAt co last u) (-1) (l.take k)) := by
        have h : leastN (fun u => costAt co last u) (-1) (l.take (k + 1)) = if leastN (fun u => costAt co last u) (-1) (l.take k) < 0 then y3 else if y3 < leastN (fun u => costAt co last u) (-1) (l.take k) then y3 else leastN (fun u => costAt co last u) (-1) (l.take k) := by
          rw [etk, leastN_snoc, ey3.out]
        exact h
      have eT : Hid (leastN (fun u => costAt co u 0) (-1) (l.take (k + 1)) = if leastN (fun u => costAt co u 0) (-1) (l.take k) < 0 then y2 else if y2 < leastN (fun u => costAt co u 0) (-1) (l.take k) then y2 else leastN (fun u => costAt co u 0) (-1) (l.take k)) := by
        have h : leastN (fun u => costAt co u 0) (-1) (l.take (k + 1)) = if leastN (fun u => costAt co u 0) (-1) (l.take k) < 0 then y2 else if y2 < leastN (fun u => costAt co u 0) (-1) (l.take k) then y2 else leastN (fun u => costAt co u 0) (-1) (l.take k) := by
          rw [etk, leastN_snoc, ey2.out]
        exact h
      have START0 : (l.filter fun x => decide (u ≠ x)).foldl (fun p v => putP p (costAt co u v)) (min y1 y2, max y1 y2) = pp := by rw [← hpp.out, ← ey1.out, ← ey2.out]; rfl
      generalize sumL ((l.take k).map fun u => (pairT co l last u).1 + (pairT co l last u).2) = su at *
      generalize leastN (fun u => costAt co last u) (-1) (l.take k) = fr at *
      generalize leastN (fun u => costAt co u 0) (-1) (l.take k) = tq at *
      have d5 : wo.cell? ⟨w.heap.size, 5, none⟩ = some (.slice (some ⟨cb, cof, none⟩) co.length d) := (B1.out.ext Y.out).cell 5
      have q1 : (k : Int) < (l.length : Int) := by omega
      have q6 : (last : Int) < (co.length : Int) := by omega
      have q7 : (u : Int) < (co.length : Int) := by omega
      have q8 : (0 : Int) < (co.length : Int) := by omega
      clear ep euk etk
      by_cases hsw : y2 < y1
      · have START : Hid (((l.drop 0).filter fun x => decide (u ≠ x)).foldl (fun p v => putP p (costAt co u v)) (y2, y1) = pp) := by
          have e1 : min y1 y2 = y2 := by omega
          have e2 : max y1 y2 = y1 := by omega
          have h := START0
          rw [e1, e2] at h
          exact h
        clear START0
        go_wp2_with (fail)
        go_quiet (fail)
        rename_i nq
        have Z0 : Hid (Ext wo (wo.drewN nq)) := (Ext.rf wo).drewN nq
        go_wp2_with (fail)
        generalize wo.drewN nq = w4 at *
        go_loopw [11, 12, 13] (fun a1 a2 v wr => ∃ (b : Nat) (p : Int × Int), v = .int .i64 b ∧ a1 = .int .i64 p.1 ∧ a2 = .int .i64 p.2 ∧ b ≤ l.length ∧ Hid (((l.drop b).filter fun x => decide (u ≠ x)).foldl (fun p v => putP p (costAt co u v)) p = pp) ∧ Hid (Ext wo wr)) (fun _ _ v _ => l.length - (intOf v).toNat)
        case atStart => exact ⟨0, (y2, y1), rfl, rfl, rfl, by omega, START, Z0.out⟩
        case round =>
          obtain ⟨w5, rfl⟩ : ∃ w5 : World, w5 = wr := ⟨_, rfl⟩
          obtain ⟨b, ⟨o1, o2⟩, rfl, rfl, rfl, hb, HF, Z⟩ := hrel
          simp only
          by_cases hlb : b < l.length
          · have eb : l[b]? = some l[b] := List.getElem?_eq_getElem hlb
            have hv := hl.out _ (List.getElem_mem hlb)
            have edb : l.drop b = l[b] :: l.drop (b + 1) := List.drop_eq_getElem_cons hlb
            have hne : b ≠ k → u ≠ l[b] := fun h1 h2 => h1 ((List.getElem_inj hnd.out).1 (by rw [← h2, hux.out]))
            have heq : b = k → u = l[b] := fun h1 => by subst h1; exact hux.out
            obtain ⟨pb2, po2, xv, hPq, zp2, cp2, ep2, _⟩ := (hP.out.ext (X0.out.tr (Y.out.tr Z.out))).at (k := b) (by rw [intsN_len]; exact hlb)
            obtain ⟨rfl, rfl⟩ : pb = pb2 ∧ po = po2 := by simpa using hPq
            have exv : xv = ((l[b] : Nat) : Int) := by
              have h := ep2.out
              rw [intsN_get eb] at h
              exact (Option.some.inj h).symm
            subst exv
            have HF2 := HF.out
            rw [edb, List.filter_cons] at HF2
            generalize l[b] = v at *
            clear HF eb edb ep2 hPq
            have d5 : w5.cell? ⟨w.heap.size, 5, none⟩ = some (.slice (some ⟨cb, cof, none⟩) co.length d) := (B1.out.ext (Y.out.tr Z.out)).cell 5
            have q2 : (b : Int) < (l.length : Int) := by omega
            have p5 : w5.cell? ⟨pb, po + k, none⟩ = some (.int .i64 (u : Int)) := keepEL Z.out zp1 cp1
            by_cases hbk : b = k
            · have tb : ((b : Int) == (k : Int)) = true := by rw [hbk]; simp
              have HF3 : Hid (((l.drop (b + 1)).filter fun x => decide (u ≠ x)).foldl (fun p v => putP p (costAt co u v)) (o1, o2) = pp) := by
                rw [if_neg (by simp [heq hbk])] at HF2
                exact HF2
              clear HF2 hne heq
              replace hbk := Lib.hid hbk
              go_wp2_with (fail)
              go_roundw
              case rel => exact ⟨b + 1, (o1, o2), by go_num, rfl, rfl, by omega, HF3, Z.out⟩
              case measure => simp [intOf]; omega
            · have tb : ((b : Int) == (k : Int)) = false := by simp; omega
              obtain ⟨rb5, ro5, d5', c51, c52⟩ := CA.out _ (X0.out.tr (Y.out.tr Z.out)) u v hu hv
              have nv := num.out u v hu hv
              rw [if_pos (by simp [hne hbk]), List.foldl_cons] at HF2
              obtain ⟨cv, hcv⟩ : ∃ cv, Hid (costAt co u v = cv) := ⟨_, rfl⟩
              rw [hcv.out] at HF2 c52 nv
              have q3 : (u : Int) < (co.length : Int) := by omega
              have q4 : (v : Int) < (co.length : Int) := by omega
              clear hne heq
              replace hbk := Lib.hid hbk
              unfold putP at HF2
              simp only at HF2
              by_cases h1 : cv < o1
              · rw [if_pos h1] at HF2
                have HF3 := Lib.hid HF2
                clear HF2
                go_wp2_with (fail)
                go_quiet (fail)
                go_wp2_with (fail)
                go_roundw
                case rel => exact ⟨b + 1, (cv, o1), by go_num, rfl, rfl, by omega, HF3, Z.out.drewN _⟩
                case measure => simp [intOf]; omega
              · rw [if_neg h1] at HF2
                by_cases h2 : cv < o2
                · rw [if_pos h2] at HF2
                  have HF3 := Lib.hid HF2
                  clear HF2
                  go_wp2_with (fail)
                  go_quiet (fail)
                  go_wp2_with (fail)
                  go_roundw
                  case rel => exact ⟨b + 1, (o1, cv), by go_num, rfl, rfl, by omega, HF3, Z.out.drewN _⟩
                  case measure => simp [intOf]; omega
                · rw [if_neg h2] at HF2
                  have HF3 := Lib.hid HF2
                  clear HF2
                  go_wp2_with (fail)
                  go_quiet (fail)
                  go_wp2_with (fail)
                  go_roundw
                  case rel => exact ⟨b + 1, (o1, o2), by go_num, rfl, rfl, by omega, HF3, Z.out.drewN _⟩
                  case measure => simp [intOf]; omega
          · obtain rfl : b = l.length := by omega
            have q2 : ¬ ((l.length : Int) < (l.length : Int)) := by omega
            have HF2 := HF.out
            rw [List.drop_length] at HF2
            obtain rfl : (o1, o2) = pp := HF2
            simp only at bpp eS
            have hw1 : IntKind.i64.wrap (su + o1) = su + o1 := IntWalk.i64_in _ (by omega)
            have hw2 : IntKind.i64.wrap (su + o1 + o2) = su + o1 + o2 := IntWalk.i64_in _ (by omega)
            clear HF START
            obtain ⟨rb3, ro3, d3, c31, c32⟩ := CA.out _ (X0.out.tr (Y.out.tr Z.out)) last u hla hu
            rw [ey3.out] at c32
            have d53 : w5.cell? ⟨w.heap.size, 5, none⟩ = some (.slice (some ⟨cb, cof, none⟩) co.length d) := (B1.out.ext (Y.out.tr Z.out)).cell 5
            have p3 : w5.cell? ⟨pb, po + k, none⟩ = some (.int .i64 (u : Int)) := keepEL Z.out zp1 cp1
            by_cases hn1 : fr < 0
            · rw [if_pos hn1] at eF
              go_wp2_with (fail)
              go_quiet (fail)
              rename_i nq
              have Z2 : Hid (Ext wo (w5.drewN nq)) := Z.out.drewN nq
              go_wp2_with (fail)
              generalize w5.drewN nq = w7 at *
              obtain ⟨rb4, ro4, d4, c41, c42⟩ := CA.out _ (X0.out.tr (Y.out.tr Z2.out)) u 0 hu h0
              rw [ey2.out] at c42
              replace c42 : w7.cell? ⟨rb4, ro4, none⟩ = some (.int .i64 y2) := c42
              have d54 : w7.cell? ⟨w.heap.size, 5, none⟩ = some (.slice (some ⟨cb, cof, none⟩) co.length d) := (B1.out.ext (Y.out.tr Z2.out)).cell 5
              have p4 : w7.cell? ⟨pb, po + k, none⟩ = some (.int .i64 (u : Int)) := keepEL Z2.out zp1 cp1
              by_cases hn2 : tq < 0
              · rw [if_pos hn2] at eT
                go_wp2_with (fail)
                go_quiet (fail)
                go_wp2_with (fail)
                go_roundw
                case rel => exact ⟨k + 1, by go_num, by rw [eS.out], by rw [eF.out], by rw [eT.out], by omega, Y.out.tr (Z2.out.drewN _)⟩
                case measure => simp [intOf]; omega
              · rw [if_neg hn2] at eT
                by_cases hl2 : y2 < tq
                · rw [if_pos hl2] at eT
                  go_wp2_with (fail)
                  go_quiet (fail)
                  go_wp2_with (fail)
                  go_roundw
                  case rel => exact ⟨k + 1, by go_num, by rw [eS.out], by rw [eF.out], by rw [eT.out], by omega, Y.out.tr (Z2.out.drewN _)⟩
                  case measure => simp [intOf]; omega
                · rw [if_neg hl2] at eT
                  go_wp2_with (fail)
                  go_quiet (fail)
                  go_wp2_with (fail)
                  go_roundw
                  case rel => exact ⟨k + 1, by go_num, by rw [eS.out], by rw [eF.out], by rw [eT.out], by omega, Y.out.tr (Z2.out.drewN _)⟩
                  case measure => simp [intOf]; omega
            · rw [if_neg hn1] at eF
              by_cases hl1 : y3 < fr
              · rw [if_pos hl1] at eF
                go_wp2_with (fail)
                go_quiet (fail)
                rename_i nq
                have Z2 : Hid (Ext wo (w5.drewN nq)) := Z.out.drewN nq
                go_wp2_with (fail)
                generalize w5.drewN nq = w7 at *
                obtain ⟨rb4, ro4, d4, c41, c42⟩ := CA.out _ (X0.out.tr (Y.out.tr Z2.out)) u 0 hu h0
                rw [ey2.out] at c42
                replace c42 : w7.cell? ⟨rb4, ro4, none⟩ = some (.int .i64 y2) := c42
                have d54 : w7.cell? ⟨w.heap.size, 5, none⟩ = some (.slice (some ⟨cb, cof, none⟩) co.length d) := (B1.out.ext (Y.out.tr Z2.out)).cell 5
                have p4 : w7.cell? ⟨pb, po + k, none⟩ = some (.int .i64 (u : Int)) := keepEL Z2.out zp1 cp1
                by_cases hn2 : tq < 0
                · rw [if_pos hn2] at eT
                  go_wp2_with (fail)
                  go_quiet (fail)
                  go_wp2_with (fail)
                  go_roundw
                  case rel => exact ⟨k + 1, by go_num, by rw [eS.out], by rw [eF.out], by rw [eT.out], by omega, Y.out.tr (Z2.out.drewN _)⟩
                  case measure => simp [intOf]; omega
                · rw [if_neg hn2] at eT
                  by_cases hl2 : y2 < tq
                  · rw [if_pos hl2] at eT
                    go_wp2_with (fail)
                    go_quiet (fail)
                    go_wp2_with (fail)
                    go_roundw
                    case rel => exact ⟨k + 1, by go_num, by rw [eS.out], by rw [eF.out], by rw [eT.out], by omega, Y.out.tr (Z2.out.drewN _)⟩
                    case measure => simp [intOf]; omega
                  · rw [if_neg hl2] at eT
                    go_wp2_with (fail)
                    go_quiet (fail)
                    go_wp2_with (fail)
                    go_roundw
                    case rel => exact ⟨k + 1, by go_num, by rw [eS.out], by rw [eF.out], by rw [eT.out], by omega, Y.out.tr (Z2.out.drewN _)⟩
                    case measure => simp [intOf]; omega
              · rw [if_neg hl1] at eF
                go_wp2_with (fail)
                go_quiet (fail)
                rename_i nq
                have Z2 : Hid (Ext wo (w5.drewN nq)) := Z.out.drewN nq
                go_wp2_with (fail)
                generalize w5.drewN nq = w7 at *
                obtain ⟨rb4, ro4, d4, c41, c42⟩ := CA.out _ (X0.out.tr (Y.out.tr Z2.out)) u 0 hu h0
                rw [ey2.out] at c42
                replace c42 : w7.cell? ⟨rb4, ro4, none⟩ = some (.int .i64 y2) := c42
                have d54 : w7.cell? ⟨w.heap.size, 5, none⟩ = some (.slice (some ⟨cb, cof, none⟩) co.length d) := (B1.out.ext (Y.out.tr Z2.out)).cell 5
                have p4 : w7.cell? ⟨pb, po + k, none⟩ = some (.int .i64 (u : Int)) := keepEL Z2.out zp1 cp1
                by_cases hn2 : tq < 0
                · rw [if_pos hn2] at eT
                  go_wp2_with (fail)
                  go_quiet (fail)
                  go_wp2_with (fail)
                  go_roundw
                  case rel => exact ⟨k + 1, by go_num, by rw [eS.out], by rw [eF.out], by rw [eT.out], by omega, Y.out.tr (Z2.out.drewN _)⟩
                  case measure => simp [intOf]; omega
                · rw [if_neg hn2] at eT
                  by_cases hl2 : y2 < tq
                  · rw [if_pos hl2] at eT
                    go_wp2_with (fail)
                    go_quiet (fail)
                    go_wp2_with (fail)
                    go_roundw
                    case rel => exact ⟨k + 1, by go_num, by rw [eS.out], by rw [eF.out], by rw [eT.out], by omega, Y.out.tr (Z2.out.drewN _)⟩
                    case measure => simp [intOf]; omega
                  · rw [if_neg hl2] at eT
                    go_wp2_with (fail)
                    go_quiet (fail)
                    go_wp2_with (fail)
                    go_roundw
                    case rel => exact ⟨k + 1, by go_num, by rw [eS.out], by rw [eF.out], by rw [eT.out], by omega, Y.out.tr (Z2.out.drewN _)⟩
                    case measure => simp [intOf]; omega
      · have START : Hid (((l.drop 0).filter fun x => decide (u ≠ x)).foldl (fun p v => putP p (costAt co u v)) (y1, y2) = pp) := by
          have e1 : min y1 y2 = y1 := by omega
          have e2 : max y1 y2 = y2 := by omega
          have h := START0
          rw [e1, e2] at h
          exact h
        clear START0
        go_wp2_with (fail)
        go_quiet (fail)
        rename_i nq
        have Z0 : Hid (Ext wo (wo.drewN nq)) := (Ext.rf wo).drewN nq
        go_wp2_with (fail)
        generalize wo.drewN nq = w4 at *
        go_loopw [11, 12, 13] (fun a1 a2 v wr => ∃ (b : Nat) (p : Int × Int), v = .int .i64 b ∧ a1 = .int .i64 p.1 ∧ a2 = .int .i64 p.2 ∧ b ≤ l.length ∧ Hid (((l.drop b).filter fun x => decide (u ≠ x)).foldl (fun p v => putP p (costAt co u v)) p = pp) ∧ Hid (Ext wo wr)) (fun _ _ v _ => l.length - (intOf v).toNat)
        case atStart => exact ⟨0, (y1, y2), rfl, rfl, rfl, by omega, START, Z0.out⟩
        case round =>
          obtain ⟨w5, rfl⟩ : ∃ w5 : World, w5 = wr := ⟨_, rfl⟩
          obtain ⟨b, ⟨o1, o2⟩, rfl, rfl, rfl, hb, HF, Z⟩ := hrel
          simp only
          by_cases hlb : b < l.length
          · have eb : l[b]? = some l[b] := List.getElem?_eq_getElem hlb
            have hv := hl.out _ (List.getElem_mem hlb)
            have edb : l.drop b = l[b] :: l.drop (b + 1) := List.drop_eq_getElem_cons hlb
            have hne : b ≠ k → u ≠ l[b] := fun h1 h2 => h1 ((List.getElem_inj hnd.out).1 (by rw [← h2, hux.out]))
            have heq : b = k → u = l[b] := fun h1 => by subst h1; exact hux.out
            obtain ⟨pb2, po2, xv, hPq, zp2, cp2, ep2, _⟩ := (hP.out.ext (X0.out.tr (Y.out.tr Z.out))).at (k := b) (by rw [intsN_len]; exact hlb)
            obtain ⟨rfl, rfl⟩ : pb = pb2 ∧ po = po2 := by simpa using hPq
            have exv : xv = ((l[b] : Nat) : Int) := by
              have h := ep2.out
              rw [intsN_get eb] at h
              exact (Option.some.inj h).symm
            subst exv
            have HF2 := HF.out
            rw [edb, List.filter_cons] at HF2
            generalize l[b] = v at *
            clear HF eb edb ep2 hPq
            have d5 : w5.cell? ⟨w.heap.size, 5, none⟩ = some (.slice (some ⟨cb, cof, none⟩) co.length d) := (B1.out.ext (Y.out.tr Z.out)).cell 5
            have q2 : (b : Int) < (l.length : Int) := by omega
            have p5 : w5.cell? ⟨pb, po + k, none⟩ = some (.int .i64 (u : Int)) := keepEL Z.out zp1 cp1
            by_cases hbk : b = k
            · have tb : ((b : Int) == (k : Int)) = true := by rw [hbk]; simp
              have HF3 : Hid (((l.drop (b + 1)).filter fun x => decide (u ≠ x)).foldl (fun p v => putP p (costAt co u v)) (o1, o2) = pp) := by
                rw [if_neg (by simp [heq hbk])] at HF2
                exact HF2
              clear HF2 hne heq
              replace hbk := Lib.hid hbk
              go_wp2_with (fail)
              go_roundw
              case rel => exact ⟨b + 1, (o1, o2), by go_num, rfl, rfl, by omega, HF3, Z.out⟩
              case measure => simp [intOf]; omega
            · have tb : ((b : Int) == (k : Int)) = false := by simp; omega
              obtain ⟨rb5, ro5, d5', c51, c52⟩ := CA.out _ (X0.out.tr (Y.out.tr Z.out)) u v hu hv
              have nv := num.out u v hu hv
              rw [if_pos (by simp [hne hbk]), List.foldl_cons] at HF2
              obtain ⟨cv, hcv⟩ : ∃ cv, Hid (costAt co u v = cv) := ⟨_, rfl⟩
              rw [hcv.out] at HF2 c52 nv
              have q3 : (u : Int) < (co.length : Int) := by omega
              have q4 : (v : Int) < (co.length : Int) := by omega
              clear hne heq
              replace hbk := Lib.hid hbk
              unfold putP at HF2
              simp only at HF2
              by_cases h1 : cv < o1
              · rw [if_pos h1] at HF2
                have HF3 := Lib.hid HF2
                clear HF2
                go_wp2_with (fail)
                go_quiet (fail)
                go_wp2_with (fail)
                go_roundw
                case rel => exact ⟨b + 1, (cv, o1), by go_num, rfl, rfl, by omega, HF3, Z.out.drewN _⟩
                case measure => simp [intOf]; omega
              · rw [if_neg h1] at HF2
                by_cases h2 : cv < o2
                · rw [if_pos h2] at HF2
                  have HF3 := Lib.hid HF2
                  clear HF2
                  go_wp2_with (fail)
                  go_quiet (fail)
                  go_wp2_with (fail)
                  go_roundw
                  case rel => exact ⟨b + 1, (o1, cv), by go_num, rfl, rfl, by omega, HF3, Z.out.drewN _⟩
                  case measure => simp [intOf]; omega
                · rw [if_neg h2] at HF2
                  have HF3 := Lib.hid HF2
                  clear HF2
                  go_wp2_with (fail)
                  go_quiet (fail)
                  go_wp2_with (fail)
                  go_roundw
                  case rel => exact ⟨b + 1, (o1, o2), by go_num, rfl, rfl, by omega, HF3, Z.out.drewN _⟩
                  case measure => simp [intOf]; omega
          · obtain rfl : b = l.length := by omega
            have q2 : ¬ ((l.length : Int) < (l.length : Int)) := by omega
            have HF2 := HF.out
            rw [List.drop_length] at HF2
            obtain rfl : (o1, o2) = pp := HF2
            simp only at bpp eS
            have hw1 : IntKind.i64.wrap (su + o1) = su + o1 := IntWalk.i64_in _ (by omega)
            have hw2 : IntKind.i64.wrap (su + o1 + o2) = su + o1 + o2 := IntWalk.i64_in _ (by omega)
            clear HF START
            obtain ⟨rb3, ro3, d3, c31, c32⟩ := CA.out _ (X0.out.tr (Y.out.tr Z.out)) last u hla hu
            rw [ey3.out] at c32
            have d53 : w5.cell? ⟨w.heap.size, 5, none⟩ = some (.slice (some ⟨cb, cof, none⟩) co.length d) := (B1.out.ext (Y.out.tr Z.out)).cell 5
            have p3 : w5.cell? ⟨pb, po + k, none⟩ = some (.int .i64 (u : Int)) := keepEL Z.out zp1 cp1
            by_cases hn1 : fr < 0
            · rw [if_pos hn1] at eF
              go_wp2_with (fail)
              go_quiet (fail)
              rename_i nq
              have Z2 : Hid (Ext wo (w5.drewN nq)) := Z.out.drewN nq
              go_wp2_with (fail)
              generalize w5.drewN nq = w7 at *
              obtain ⟨rb4, ro4, d4, c41, c42⟩ := CA.out _ (X0.out.tr (Y.out.tr Z2.out)) u 0 hu h0
              rw [ey2.out] at c42
              replace c42 : w7.cell? ⟨rb4, ro4, none⟩ = some (.int .i64 y2) := c42
              have d54 : w7.cell? ⟨w.heap.size, 5, none⟩ = some (.slice (some ⟨cb, cof, none⟩) co.length d) := (B1.out.ext (Y.out.tr Z2.out)).cell 5
              have p4 : w7.cell? ⟨pb, po + k, none⟩ = some (.int .i64 (u : Int)) := keepEL Z2.out zp1 cp1
              by_cases hn2 : tq < 0
              · rw [if_pos hn2] at eT
                go_wp2_with (fail)
                go_quiet (fail)
                go_wp2_with (fail)
                go_roundw
                case rel => exact ⟨k + 1, by go_num, by rw [eS.out], by rw [eF.out], by rw [eT.out], by omega, Y.out.tr (Z2.out.drewN _)⟩
                case measure => simp [intOf]; omega
              · rw [if_neg hn2] at eT
                by_cases hl2 : y2 < tq
                · rw [if_pos hl2] at eT
                  go_wp2_with (fail)
                  go_quiet (fail)
                  go_wp2_with (fail)
                  go_roundw
                  case rel => exact ⟨k + 1, by go_num, by rw [eS.out], by rw [eF.out], by rw [eT.out], by omega, Y.out.tr (Z2.out.drewN _)⟩
                  case measure => simp [intOf]; omega
                · rw [if_neg hl2] at eT
                  go_wp2_with (fail)
                  go_quiet (fail)
                  go_wp2_with (fail)
                  go_roundw
                  case rel => exact ⟨k + 1, by go_num, by rw [eS.out], by rw [eF.out], by rw [eT.out], by omega, Y.out.tr (Z2.out.drewN _)⟩
                  case measure => simp [intOf]; omega
            · rw [if_neg hn1] at eF
              by_cases hl1 : y3 < fr
              · rw [if_pos hl1] at eF
                go_wp2_with (fail)
                go_quiet (fail)
                rename_i nq
                have Z2 : Hid (Ext wo (w5.drewN nq)) := Z.out.drewN nq
                go_wp2_with (fail)
                generalize w5.drewN nq = w7 at *
                obtain ⟨rb4, ro4, d4, c41, c42⟩ := CA.out _ (X0.out.tr (Y.out.tr Z2.out)) u 0 hu h0
                rw [ey2.out] at c42
                replace c42 : w7.cell? ⟨rb4, ro4, none⟩ = some (.int .i64 y2) := c42
                have d54 : w7.cell? ⟨w.heap.size, 5, none⟩ = some (.slice (some ⟨cb, cof, none⟩) co.length d) := (B1.out.ext (Y.out.tr Z2.out)).cell 5
                have p4 : w7.cell? ⟨pb, po + k, none⟩ = some (.int .i64 (u : Int)) := keepEL Z2.out zp1 cp1
                by_cases hn2 : tq < 0
                · rw [if_pos hn2] at eT
                  go_wp2_with (fail)
                  go_quiet (fail)
                  go_wp2_with (fail)
                  go_roundw
                  case rel => exact ⟨k + 1, by go_num, by rw [eS.out], by rw [eF.out], by rw [eT.out], by omega, Y.out.tr (Z2.out.drewN _)⟩
                  case measure => simp [intOf]; omega
                · rw [if_neg hn2] at eT
                  by_cases hl2 : y2 < tq
                  · rw [if_pos hl2] at eT
                    go_wp2_with (fail)
                    go_quiet (fail)
                    go_wp2_with (fail)
                    go_roundw
                    case rel => exact ⟨k + 1, by go_num, by rw [eS.out], by rw [eF.out], by rw [eT.out], by omega, Y.out.tr (Z2.out.drewN _)⟩
                    case measure => simp [intOf]; omega
                  · rw [if_neg hl2] at eT
                    go_wp2_with (fail)
                    go_quiet (fail)
                    go_wp2_with (fail)
                    go_roundw
                    case rel => exact ⟨k + 1, by go_num, by rw [eS.out], by rw [eF.out], by rw [eT.out], by omega, Y.out.tr (Z2.out.drewN _)⟩
                    case measure => simp [intOf]; omega
              · rw [if_neg hl1] at eF
                go_wp2_with (fail)
                go_quiet (fail)
                rename_i nq
                have Z2 : Hid (Ext wo (w5.drewN nq)) := Z.out.drewN nq
                go_wp2_with (fail)
                generalize w5.drewN nq = w7 at *
                obtain ⟨rb4, ro4, d4, c41, c42⟩ := CA.out _ (X0.out.tr (Y.out.tr Z2.out)) u 0 hu h0
                rw [ey2.out] at c42
                replace c42 : w7.cell? ⟨rb4, ro4, none⟩ = some (.int .i64 y2) := c42
                have d54 : w7.cell? ⟨w.heap.size, 5, none⟩ = some (.slice (some ⟨cb, cof, none⟩) co.length d) := (B1.out.ext (Y.out.tr Z2.out)).cell 5
                have p4 : w7.cell? ⟨pb, po + k, none⟩ = some (.int .i64 (u : Int)) := keepEL Z2.out zp1 cp1
                by_cases hn2 : tq < 0
                · rw [if_pos hn2] at eT
                  go_wp2_with (fail)
                  go_quiet (fail)
                  go_wp2_with (fail)
                  go_roundw
                  case rel => exact ⟨k + 1, by go_num, by rw [eS.out], by rw [eF.out], by rw [eT.out], by omega, Y.out.tr (Z2.out.drewN _)⟩
                  case measure => simp [intOf]; omega
                · rw [if_neg hn2] at eT
                  by_cases hl2 : y2 < tq
                  · rw [if_pos hl2] at eT
                    go_wp2_with (fail)
                    go_quiet (fail)
                    go_wp2_with (fail)
                    go_roundw
                    case rel => exact ⟨k + 1, by go_num, by rw [eS.out], by rw [eF.out], by rw [eT.out], by omega, Y.out.tr (Z2.out.drewN _)⟩
                    case measure => simp [intOf]; omega
                  · rw [if_neg hl2] at eT
                    go_wp2_with (fail)
                    go_quiet (fail)
                    go_wp2_with (fail)
                    go_roundw
                    case rel => exact ⟨k + 1, by go_num, by rw [eS.out], by rw [eF.out], by rw [eT.out], by omega, Y.out.tr (Z2.out.drewN _)⟩
                    case measure => simp [intOf]; omega
    · obtain rfl : k = l.length := by omega
      have q2 : ¬ ((l.length : Int) < (l.length : Int)) := by omega
      have bs := bsum.out l.length
      have bf1 := bfr.out l.length (fun u => costAt co last u) fun x hx => num.out last x hla hx
      have bf2 := bfr.out l.length (fun u => costAt co u 0) fun x hx => num.out x 0 hx (by omega)
      rw [List.take_length] at *
      have hw1 : IntKind.i64.wrap (sumL (l.map fun u => (pairT co l last u).1 + (pairT co l last u).2) + leastN (fun u => costAt co last u) (-1) l) = sumL (l.map fun u => (pairT co l last u).1 + (pairT co l last u).2) + leastN (fun u => costAt co last u) (-1) l := IntWalk.i64_in _ (by omega)
      have hw2 : IntKind.i64.wrap (sumL (l.map fun u => (pairT co l last u).1 + (pairT co l last u).2) + leastN (fun u => costAt co last u) (-1) l + leastN (fun u => costAt co u 0) (-1) l) = endsT co l last := IntWalk.i64_in _ (by omega)
      go_wp2_with (fail)
      go_ret
      exact ⟨rfl, X0.out.tr Y.out⟩
end Go.Proofs.Ytcpadkaljnnieaa
