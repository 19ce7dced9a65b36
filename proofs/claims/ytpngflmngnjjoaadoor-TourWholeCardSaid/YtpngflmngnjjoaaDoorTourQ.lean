/-
  A tour, plainly: where a beginning has come to; what may follow; what the rest must cost at least, by rows and columns and by what meets at each city.
  A tour, plainly: the bound is no number below nought and none above the least cost by trying; the beginnings as a tree.
-/
import Derived.Test.YtpngflmngnjjoaaDoorAssignBP
import Derived.Test.YtpngflmngnjjoaaDoorAssignTP
namespace Go.Proofs.YtpngflmngnjjoaaDoor

def costAt (rows : List (List Int)) (a b : Nat) : Int := (rows.getD a []).getD b 0
/-- the ways of a beginning; none: it is none -/
def walkT (rows : List (List Int)) (m last : Nat) (cost : Int) : List Int → Option (Nat × Nat × Int)
  | [] => some (m, last, cost)
  | c :: p => if 0 ≤ c ∧ c < 64 ∧ m.testBit c.toNat = true then walkT rows (clrM m c.toNat) c.toNat (cost + costAt rows last c.toNat) p else none
def walkP (rows : List (List Int)) (p : List Int) : Option (Nat × Nat × Int) := if rows.length - 1 < p.length then none else walkT rows (clrM (2 ^ rows.length - 1) 0) 0 0 p
def kidsT (rows : List (List Int)) (p : List Int) : List Int × Int :=
  match walkP rows p with
  | none => ([], 1)
  | some (m, last, _) => (intsN (sortP (ltC (cfR (rows.getD last []))) (memsM m)), 0)
def answerT (rows : List (List Int)) (p : List Int) : List Int × Int :=
  match walkP rows p with
  | none => ([], 1)
  | some _ => if p.length = rows.length - 1 then (0 :: p, 0) else ([], 1)
/-- where one may go to from a city -/
def colsT (us : List Nat) (last src : Nat) : List Nat := if src = last then us else 0 :: us.filter fun x => decide (src ≠ x)
def offT (rows : List (List Int)) (us : List Nat) (last src : Nat) : Int := max (leastN (fun dst => costAt rows src dst) (-1) (colsT us last src)) 0
/-- the least that a city may be come to by, beyond what the cities must cost -/
def colT (rows : List (List Int)) (us : List Nat) (last dst : Nat) : Int := leastN (fun src => costAt rows src dst - offT rows us last src) (-1) ((last :: us).filter fun src => decide (dst ∈ colsT us last src))
def reduceT (rows : List (List Int)) (us : List Nat) (last : Nat) : Int := sumL ((last :: us).map fun src => offT rows us last src) + sumL ((0 :: us).map fun dst => max (colT rows us last dst) 0)
/-- one more number beside the two least ones -/
def putP (p : Int × Int) (n : Int) : Int × Int := if n < p.1 then (n, p.1) else if n < p.2 then (p.1, n) else p
def pairT (rows : List (List Int)) (us : List Nat) (last u : Nat) : Int × Int :=
  (us.filter fun x => decide (u ≠ x)).foldl (fun p v => putP p (costAt rows u v)) (min (costAt rows u last) (costAt rows u 0), max (costAt rows u last) (costAt rows u 0))
def endsT (rows : List (List Int)) (us : List Nat) (last : Nat) : Int :=
  sumL (us.map fun u => (pairT rows us last u).1 + (pairT rows us last u).2) + leastN (fun u => costAt rows last u) (-1) us + leastN (fun u => costAt rows u 0) (-1) us
def boundT (rows : List (List Int)) (mirror : Bool) (p : List Int) : Int × Int :=
  match walkP rows p with
  | none => (0, 1)
  | some (m, last, c) => (c + (if memsM m = [] then costAt rows last 0 else if mirror = true then max (reduceT rows (memsM m) last) ((endsT rows (memsM m) last + 1) / 2) else reduceT rows (memsM m) last), 0)
/-- what the rest of a tour costs -/
def pathT (rows : List (List Int)) : Nat → List Nat → Int
  | last, [] => costAt rows last 0
  | last, u :: q => costAt rows last u + pathT rows u q

theorem leastN_le {f : Nat → Int} : ∀ {l : List Nat} {b : Int}, (∀ x ∈ l, 0 ≤ f x) → (∀ x ∈ l, leastN f b l ≤ f x) ∧ (0 ≤ b → leastN f b l ≤ b) := fun {l b} h => by
  have h1 := leastL_le (l := l.map f) (b := b) fun y hy => by
    obtain ⟨x, hx, rfl⟩ := List.mem_map.1 hy
    exact h x hx
  rw [leastL_map] at h1
  exact ⟨fun x hx => h1.1 (f x) (List.mem_map.2 ⟨x, hx, rfl⟩), h1.2⟩
theorem leastN_pos {f : Nat → Int} {B : Int} {l : List Nat} (h : ∀ x ∈ l, 0 ≤ f x ∧ f x ≤ B) (hl : l ≠ []) (hB : 0 ≤ B) : 0 ≤ leastN f (-1) l ∧ leastN f (-1) l ≤ B := by
  rw [← leastL_map]
  refine leastL_bd (fun y hy => ?_) (by omega) (.inr (by simpa using hl))
  obtain ⟨x, hx, rfl⟩ := List.mem_map.1 hy
  exact h x hx
section
variable {rows : List (List Int)} {us : List Nat} {last : Nat}
/-- each way of what is left costs no less than its row and its column -/
theorem way_ge {B : Int} (num : ∀ a b, (a = last ∨ a ∈ us) → (b = 0 ∨ b ∈ us) → 0 ≤ costAt rows a b ∧ costAt rows a b ≤ B) {src dst : Nat} (hs : src ∈ last :: us) (hd : dst ∈ colsT us last src) : offT rows us last src + max (colT rows us last dst) 0 ≤ costAt rows src dst := by
  have hcol : ∀ {s d : Nat}, d ∈ colsT us last s → d = 0 ∨ d ∈ us := fun {s d} h => by
    unfold colsT at h
    split at h
    · exact .inr h
    · rcases List.mem_cons.1 h with h | h
      · exact .inl h
      · exact .inr (List.mem_filter.1 h).1
  have hsrc : ∀ {s : Nat}, s ∈ last :: us → s = last ∨ s ∈ us := fun {s} h => List.mem_cons.1 h
  have hoff : ∀ s ∈ last :: us, ∀ d ∈ colsT us last s, offT rows us last s ≤ costAt rows s d ∧ 0 ≤ offT rows us last s := fun s h1 d h2 => by
    have h3 := (leastN_le (f := fun dst => costAt rows s dst) (l := colsT us last s) (b := -1) fun x hx => (num s x (hsrc h1) (hcol hx)).1).1 d h2
    have h4 := (num s d (hsrc h1) (hcol h2)).1
    unfold offT
    omega
  have h1 := hoff src hs dst hd
  have h2 := (leastN_le (f := fun src => costAt rows src dst - offT rows us last src) (l := (last :: us).filter fun src => decide (dst ∈ colsT us last src)) (b := -1) fun x hx => by
    have h3 := List.mem_filter.1 hx
    have h4 := hoff x h3.1 dst (of_decide_eq_true h3.2)
    omega).1 src (List.mem_filter.2 ⟨hs, decide_eq_true hd⟩)
  unfold colT
  omega
/-- the ways of a path, one by one -/
theorem path_ge {F G : Nat → Int} : ∀ (q : List Nat) (s : Nat), (∀ a b, (a, b) ∈ (s :: q).zip (q ++ [0]) → F a + G b ≤ costAt rows a b) → sumL ((s :: q).map F) + sumL ((q ++ [0]).map G) ≤ pathT rows s q
  | [], s, h => by
    have := h s 0 (by simp)
    simp only [List.map_cons, List.map_nil, List.nil_append, sumL, pathT]
    omega
  | u :: q, s, h => by
    have h1 := h s u (by simp)
    have h2 := path_ge q u fun a b hab => h a b (by
      simp only [List.cons_append, List.zip_cons_cons, List.mem_cons]
      exact .inr hab)
    simp only [List.map_cons, List.cons_append, sumL, pathT] at h2 ⊢
    omega
theorem zip_mem : ∀ (q : List Nat) (s a b : Nat), (a, b) ∈ (s :: q).zip (q ++ [0]) → (s :: q).Nodup → a ∈ s :: q ∧ (b = 0 ∨ b ∈ q) ∧ (a = s → q = [] ∨ b ∈ q) ∧ (b ∈ q → a ≠ b ∨ b = 0)
  | [], s, a, b, h, _ => by
    simp at h
    obtain ⟨rfl, rfl⟩ := h
    exact ⟨by simp, .inl rfl, fun _ => .inl rfl, fun h => by cases h⟩
  | u :: q, s, a, b, h, hn => by
    have hn' := List.nodup_cons.1 hn
    simp only [List.cons_append, List.zip_cons_cons, List.mem_cons, Prod.mk.injEq] at h
    rcases h with ⟨rfl, rfl⟩ | h
    · exact ⟨by simp, .inr (by simp), fun _ => .inr (by simp), fun _ => .inl fun e => hn'.1 (by simp [e])⟩
    · have ih := zip_mem q u a b h hn'.2
      refine ⟨List.mem_cons_of_mem _ ih.1, ?_, fun e => ?_, fun hb => ?_⟩
      · rcases ih.2.1 with h | h
        · exact .inl h
        · exact .inr (by simp [h])
      · subst e
        exact absurd ih.1 hn'.1
      · rcases List.mem_cons.1 hb with rfl | hb
        · rcases ih.2.1 with h0 | h0
          · exact .inr h0
          · exact absurd h0 (List.nodup_cons.1 hn'.2).1
        · exact ih.2.2.2 hb
theorem reduceT_le {B : Int} (num : ∀ a b, (a = last ∨ a ∈ us) → (b = 0 ∨ b ∈ us) → 0 ≤ costAt rows a b ∧ costAt rows a b ≤ B) (hn : (last :: us).Nodup) (hu : us ≠ []) (h0 : 0 ∉ us) {q : List Nat} (hq : q.Perm us) : reduceT rows us last ≤ pathT rows last q := by
  have hnq : (last :: q).Nodup := (hq.cons last).nodup_iff.2 hn
  have h := path_ge (rows := rows) (F := fun src => offT rows us last src) (G := fun dst => max (colT rows us last dst) 0) q last fun a b hab => by
    obtain ⟨z1, z2, z3, z4⟩ := zip_mem q last a b hab hnq
    refine way_ge num ((hq.cons last).mem_iff.1 z1) ?_
    unfold colsT
    by_cases e : a = last
    · rw [if_pos e]
      rcases z3 e with h | h
      · exfalso
        rw [h] at hq
        exact hu (List.Perm.eq_nil (hq.symm))
      · exact hq.mem_iff.1 h
    · rw [if_neg e]
      rcases z2 with rfl | h
      · simp
      · refine List.mem_cons_of_mem _ (List.mem_filter.2 ⟨hq.mem_iff.1 h, decide_eq_true ?_⟩)
        rcases z4 h with h' | h'
        · exact h'
        · subst h'
          exact absurd (hq.mem_iff.1 h) h0
  have e1 := sumL_perm (((hq.cons last)).map fun src => offT rows us last src)
  have e2 : sumL ((q ++ [0]).map fun dst => max (colT rows us last dst) 0) = sumL ((0 :: us).map fun dst => max (colT rows us last dst) 0) :=
    sumL_perm (((List.perm_append_comm (l₁ := q) (l₂ := [0])).trans (hq.cons 0)).map _)
  unfold reduceT
  rw [← e1, ← e2]
  exact h
/-- the two least ones of some -/
def Two (p : Int × Int) (l : List Int) : Prop := p.1 ≤ p.2 ∧ (∀ x ∈ l, p.1 ≤ x) ∧ l.Pairwise fun x y => p.1 + p.2 ≤ x + y
theorem Two.put {p : Int × Int} {l : List Int} (h : Two p l) (n : Int) : Two (putP p n) (l ++ [n]) := by
  obtain ⟨h1, h2, h3⟩ := h
  have key : ∀ {q : Int × Int}, q.1 ≤ q.2 → q.1 ≤ p.1 → q.1 ≤ n → q.1 + q.2 ≤ p.1 + p.2 → (∀ x ∈ l, q.1 + q.2 ≤ x + n) → Two q (l ++ [n]) := by
    intro q k1 k2 k3 k4 k5
    refine ⟨k1, fun x hx => ?_, List.pairwise_append.2 ⟨h3.imp fun hxy => by omega, List.pairwise_singleton _ _, fun x hx y hy => ?_⟩⟩
    · rcases List.mem_append.1 hx with hx | hx
      · have := h2 x hx; omega
      · obtain rfl := List.mem_singleton.1 hx; exact k3
    · obtain rfl := List.mem_singleton.1 hy
      exact k5 x hx
  unfold putP
  split
  · exact key (by simp only; omega) (by simp only; omega) (by simp only; omega) (by simp only; omega) fun x hx => by have := h2 x hx; simp only; omega
  · split
    · exact key (by simp only; omega) (by simp only; omega) (by simp only; omega) (by simp only; omega) fun x hx => by have := h2 x hx; simp only; omega
    · exact key (by omega) (by omega) (by omega) (by omega) fun x hx => by have := h2 x hx; omega
theorem two_fold (f : Nat → Int) : ∀ (vs : List Nat) (p : Int × Int) (l : List Int), Two p l → Two (vs.foldl (fun p v => putP p (f v)) p) (l ++ vs.map f)
  | [], p, l, h => by simpa using h
  | v :: vs, p, l, h => by
    have := two_fold f vs (putP p (f v)) (l ++ [f v]) (h.put (f v))
    simpa using this
theorem pairT_two (rows : List (List Int)) (us : List Nat) (last u : Nat) : Two (pairT rows us last u) ([costAt rows u last, costAt rows u 0] ++ (us.filter fun x => decide (u ≠ x)).map fun v => costAt rows u v) := by
  refine two_fold (fun v => costAt rows u v) _ _ _ ⟨by simp only; omega, fun x hx => ?_, ?_⟩
  · simp at hx
    rcases hx with rfl | rfl <;> (simp only; omega)
  · simp only [List.pairwise_cons, List.mem_singleton, forall_eq, List.not_mem_nil, false_imp_iff, implies_true, List.Pairwise.nil, and_true]
    omega
/-- at a city the two that meet cost no less than the two least ones -/
theorem meet_ge {u a b : Nat} (hu : us.Nodup) (ha : a = last ∨ (a ∈ us ∧ u ≠ a)) (hb : b = 0 ∨ (b ∈ us ∧ u ≠ b)) (hab : a ∈ us → b ∈ us → a ≠ b) (hl : last ∉ us) (h0 : 0 ∉ us) : (pairT rows us last u).1 + (pairT rows us last u).2 ≤ costAt rows u a + costAt rows u b := by
  obtain ⟨_, _, h3⟩ := pairT_two rows us last u
  rw [List.pairwise_append] at h3
  obtain ⟨k1, k2, k3⟩ := h3
  have m : ∀ {x : Nat}, x ∈ us → u ≠ x → costAt rows u x ∈ (us.filter fun x => decide (u ≠ x)).map fun v => costAt rows u v := fun {x} h1 h2 => List.mem_map.2 ⟨x, List.mem_filter.2 ⟨h1, decide_eq_true h2⟩, rfl⟩
  rcases ha with rfl | ⟨a1, a2⟩
  · rcases hb with rfl | ⟨b1, b2⟩
    · simp only [List.pairwise_cons, List.mem_singleton, forall_eq] at k1
      exact k1.1
    · exact k3 _ (by simp) _ (m b1 b2)
  · rcases hb with rfl | ⟨b1, b2⟩
    · have := k3 (costAt rows u 0) (by simp) _ (m a1 a2)
      omega
    · have hne := hab a1 b1
      rw [List.pairwise_map] at k2
      have hfn : (us.filter fun x => decide (u ≠ x)).Nodup := List.Pairwise.filter _ hu
      obtain ⟨i, hi, ei⟩ := List.mem_iff_getElem.1 (List.mem_filter.2 ⟨a1, decide_eq_true a2⟩ : a ∈ us.filter fun x => decide (u ≠ x))
      obtain ⟨j, hj, ej⟩ := List.mem_iff_getElem.1 (List.mem_filter.2 ⟨b1, decide_eq_true b2⟩ : b ∈ us.filter fun x => decide (u ≠ x))
      rcases Nat.lt_trichotomy i j with h | h | h
      · have := List.pairwise_iff_getElem.1 k2 i j hi hj h
        rw [ei, ej] at this
        exact this
      · subst h
        exact absurd (ei.symm.trans ej) hne
      · have := List.pairwise_iff_getElem.1 k2 j i hj hi h
        rw [ei, ej] at this
        omega
end
end Go.Proofs.YtpngflmngnjjoaaDoor
namespace Go.Proofs.YtpngflmngnjjoaaDoor

section
variable {rows : List (List Int)} {us : List Nat} {last : Nat}
def pairS (rows : List (List Int)) (us : List Nat) (last u : Nat) : Int := (pairT rows us last u).1 + (pairT rows us last u).2
/-- of each three in a row the middle's two least ones cost no more than its two ways -/
def Trip (rows : List (List Int)) (us : List Nat) (last : Nat) : Nat → List Nat → Prop
  | _, [] => True
  | s, [u] => pairS rows us last u ≤ costAt rows s u + costAt rows u 0
  | s, u :: v :: q => pairS rows us last u ≤ costAt rows s u + costAt rows u v ∧ Trip rows us last u (v :: q)
theorem trip_ends : ∀ (q : List Nat) (s u : Nat), Trip rows us last s (u :: q) → sumL ((u :: q).map (pairS rows us last)) + costAt rows s u + costAt rows ((u :: q).getLast (by simp)) 0 ≤ 2 * pathT rows s (u :: q)
  | [], s, u, h => by
    simp only [Trip] at h
    simp only [List.map_cons, List.map_nil, sumL, List.getLast_singleton, pathT]
    omega
  | v :: q, s, u, h => by
    simp only [Trip] at h
    have ih := trip_ends q u v h.2
    have e : (u :: v :: q).getLast (by simp) = (v :: q).getLast (by simp) := List.getLast_cons (by simp)
    rw [e]
    simp only [List.map_cons, sumL, pathT] at ih ⊢
    omega
theorem trip_of (sym : ∀ a b, (a = last ∨ a ∈ us) → (b = last ∨ b ∈ us) → costAt rows a b = costAt rows b a) (hu : us.Nodup) (hl : last ∉ us) (h0 : 0 ∉ us) : ∀ (q : List Nat) (s : Nat), q.Nodup → (∀ x ∈ q, x ∈ us) → s ∉ q → (s = last ∨ s ∈ us) → Trip rows us last s q
  | [], _, _, _, _, _ => trivial
  | [u], s, _, hq, hs, hsl => by
    have huu := hq u (by simp)
    have hne : u ≠ s := fun e => hs (by simp [e])
    have := meet_ge (rows := rows) (us := us) (last := last) (u := u) (a := s) (b := 0) hu (hsl.imp id fun h => ⟨h, hne⟩) (.inl rfl) (fun _ h => absurd h h0) hl h0
    rw [sym u s (.inr huu) hsl] at this
    exact this
  | u :: v :: q, s, hn, hq, hs, hsl => by
    have huu := hq u (by simp)
    have hvv := hq v (by simp)
    have hne : u ≠ s := fun e => hs (by simp [e])
    have hn' := List.nodup_cons.1 hn
    have huv : u ≠ v := fun e => hn'.1 (by simp [e])
    have hsv : s ≠ v := fun e => hs (by simp [e])
    have := meet_ge (rows := rows) (us := us) (last := last) (u := u) (a := s) (b := v) hu (hsl.imp id fun h => ⟨h, hne⟩) (.inr ⟨hvv, huv⟩) (fun _ _ => hsv) hl h0
    rw [sym u s (.inr huu) hsl] at this
    exact ⟨this, trip_of sym hu hl h0 (v :: q) u hn'.2 (fun x hx => hq x (by simp [hx])) hn'.1 (.inr huu)⟩
theorem endsT_le (num : ∀ a b, (a = last ∨ a ∈ us) → (b = 0 ∨ b ∈ us) → 0 ≤ costAt rows a b) (sym : ∀ a b, (a = last ∨ a ∈ us) → (b = last ∨ b ∈ us) → costAt rows a b = costAt rows b a) (hu : us.Nodup) (hl : last ∉ us) (h0 : 0 ∉ us) {q : List Nat} (hq : q.Perm us) (hne : us ≠ []) : endsT rows us last ≤ 2 * pathT rows last q := by
  match q, hq with
  | [], hq => exact absurd (List.Perm.eq_nil hq.symm) hne
  | u :: q, hq =>
    have hsub : ∀ x ∈ u :: q, x ∈ us := fun x hx => hq.mem_iff.1 hx
    have h1 := trip_ends q last u (trip_of sym hu hl h0 (u :: q) last (hq.nodup_iff.2 hu) hsub (fun h => hl (hsub _ h)) (.inl rfl))
    have h2 := (leastN_le (f := fun u => costAt rows last u) (l := us) (b := -1) fun x hx => num last x (.inl rfl) (.inr hx)).1 u (hsub u (by simp))
    have h3 := (leastN_le (f := fun u => costAt rows u 0) (l := us) (b := -1) fun x hx => num x 0 (.inr hx) (.inl rfl)).1 _ (hsub _ (List.getLast_mem (l := u :: q) (by simp)))
    have e := sumL_perm (hq.map (pairS rows us last))
    have e2 : sumL (us.map (pairS rows us last)) = sumL (us.map fun u => (pairT rows us last u).1 + (pairT rows us last u).2) := rfl
    unfold endsT
    rw [← e2, ← e]
    omega
end
/-- where a beginning has come to, and what its ways cost -/
def lastT : Nat → List Int → Nat
  | s, [] => s
  | _, c :: p => lastT c.toNat p
def wayC (rows : List (List Int)) : Nat → List Int → Int
  | _, [] => 0
  | s, c :: p => costAt rows s c.toNat + wayC rows c.toNat p
theorem walkT_eq (rows : List (List Int)) : ∀ (p : List Int) (m last : Nat) (cost : Int), walkT rows m last cost p = (freeM m p).map fun q => (q, lastT last p, cost + wayC rows last p)
  | [], m, last, cost => by simp [walkT, freeM, lastT, wayC]
  | c :: p, m, last, cost => by
    unfold walkT freeM
    split
    · rw [walkT_eq rows p]
      cases freeM (clrM m c.toNat) p with
      | none => rfl
      | some q =>
        simp only [Option.map_some, lastT, wayC, Option.some.injEq, Prod.mk.injEq, true_and]
        omega
    · rfl
theorem lastT_mem : ∀ (l : List Nat) (s : Nat), lastT s (intsN l) = s ∨ lastT s (intsN l) ∈ l
  | [], s => .inl rfl
  | c :: l, s => by
    have ih := lastT_mem l c
    simp only [intsN, List.map_cons, lastT, Int.toNat_natCast] at ih ⊢
    rcases ih with h | h
    · right; rw [h]; simp
    · right; simp [h]
theorem pathT_app (rows : List (List Int)) : ∀ (l q : List Nat) (s : Nat), pathT rows s (l ++ q) = wayC rows s (intsN l) + pathT rows (lastT s (intsN l)) q
  | [], q, s => by simp [wayC, intsN, lastT]
  | c :: l, q, s => by
    have := pathT_app rows l q c
    simp only [List.cons_append, pathT, intsN, List.map_cons, wayC, lastT, Int.toNat_natCast] at this ⊢
    omega
/-- the tour's first city is not among what is left -/
def restM (n : Nat) : Nat := clrM (2 ^ n - 1) 0
theorem restM_sub {n : Nat} (h : n ≤ 24) : SubN n (restM n) := (subN_full h).clr 0
theorem restM_mem {n : Nat} (h : n ≤ 24) {x : Nat} : x ∈ memsM (restM n) ↔ x < n ∧ x ≠ 0 := by
  unfold restM
  rw [clr_mem (subN_full h).1, memsM_full (by omega), List.mem_range]
theorem restM_len {n : Nat} (h1 : 1 ≤ n) (h : n ≤ 24) : (memsM (restM n)).length = n - 1 := by
  have h2 := filter_ne_len (memsM_sorted (2 ^ n - 1)) (i := 0) (by rw [memsM_full (by omega)]; simp; omega)
  rw [← memsM_clr (subN_full h).1, memsM_full (by omega), List.length_range] at h2
  unfold restM
  omega
structure WalkOk (rows : List (List Int)) (p : List Int) (m last : Nat) (cost : Int) (l : List Nat) : Prop where
  eq : p = intsN l
  nodup : l.Nodup
  inn : ∀ x ∈ l, x < rows.length ∧ x ≠ 0
  rest : ∀ x, x ∈ memsM m ↔ (x < rows.length ∧ x ≠ 0) ∧ x ∉ l
  len : (memsM m).length + l.length = rows.length - 1
  sub : SubN rows.length m
  last : last = lastT 0 (intsN l)
  cost : cost = wayC rows 0 (intsN l)
theorem walk_ok {rows : List (List Int)} (h1 : 1 ≤ rows.length) (h24 : rows.length ≤ 24) {p : List Int} {m last : Nat} {cost : Int} (h : walkP rows p = some (m, last, cost)) : ∃ l, WalkOk rows p m last cost l := by
  unfold walkP at h
  split at h
  · cases h
  · rw [walkT_eq] at h
    cases hf : freeM (clrM (2 ^ rows.length - 1) 0) p with
    | none => rw [hf] at h; cases h
    | some q =>
      rw [hf] at h
      simp only [Option.map_some, Option.some.injEq, Prod.mk.injEq] at h
      obtain ⟨rfl, rfl, rfl⟩ := h
      have hs := restM_sub h24
      obtain ⟨l, rfl, a1, a2, a3⟩ := freeM_cols hs hf
      have a4 := freeM_len hs hf
      rw [restM_len h1 h24, intsN_len] at a4
      exact ⟨l, rfl, a1, fun x hx => (restM_mem h24).1 (a2 x hx), fun x => by rw [a3 x, restM_mem h24], a4, freeM_sub hs hf, rfl, by omega⟩
theorem walkT_snoc (rows : List (List Int)) {c : Nat} (hc64 : c < 64) : ∀ {p : List Int} {m0 m s last : Nat} {c0 cost : Int}, walkT rows m0 s c0 p = some (m, last, cost) → m.testBit c = true → walkT rows m0 s c0 (p ++ [(c : Int)]) = some (clrM m c, c, cost + costAt rows last c)
  | [], m0, m, s, last, c0, cost, h, hb => by
    simp only [walkT, Option.some.injEq, Prod.mk.injEq] at h
    obtain ⟨rfl, rfl, rfl⟩ := h
    show walkT rows m0 s c0 ((c : Int) :: []) = _
    unfold walkT
    rw [if_pos ⟨by omega, by omega, by rw [Int.toNat_natCast]; exact hb⟩, Int.toNat_natCast]
    rfl
  | d :: p, m0, m, s, last, c0, cost, h, hb => by
    show walkT rows m0 s c0 (d :: (p ++ [(c : Int)])) = _
    unfold walkT at h ⊢
    split at h
    · rename_i hd
      rw [if_pos hd]
      exact walkT_snoc rows hc64 h hb
    · cases h
theorem walkP_snoc {rows : List (List Int)} (h1 : 1 ≤ rows.length) (h24 : rows.length ≤ 24) {p : List Int} {m last : Nat} {cost : Int} (h : walkP rows p = some (m, last, cost)) {c : Nat} (hc : c ∈ memsM m) : walkP rows (p ++ [(c : Int)]) = some (clrM m c, c, cost + costAt rows last c) := by
  obtain ⟨l, W⟩ := walk_ok h1 h24 h
  have hpos : 0 < (memsM m).length := List.length_pos_of_mem hc
  have hlen := W.len
  have hpl : p.length = l.length := by rw [W.eq, intsN_len]
  have hb := memsM_mem.1 hc
  unfold walkP at h ⊢
  rw [if_neg (by omega)] at h
  rw [if_neg (by rw [List.length_append, List.length_singleton]; omega)]
  exact walkT_snoc rows hb.1 h hb.2
/-- the least cost of all tours that begin so, by trying -/
def bestT (rows : List (List Int)) : Nat → List Int → Int
  | 0, p => pathT rows 0 (p.map Int.toNat)
  | f + 1, p => leastF (fun x => bestT rows f (p ++ [x])) (-1) (match walkP rows p with | none => [] | some (m, _, _) => intsN (memsM m))
theorem toNat_ints : ∀ l : List Nat, (intsN l).map Int.toNat = l
  | [] => rfl
  | c :: l => by
    have := toNat_ints l
    simp only [intsN, List.map_cons, Int.toNat_natCast] at this ⊢
    rw [this]
theorem pathT_pos {rows : List (List Int)} (num : ∀ a b, a < rows.length → b < rows.length → 0 ≤ costAt rows a b) : ∀ (q : List Nat) (s : Nat), s < rows.length → (∀ x ∈ q, x < rows.length) → 0 ≤ pathT rows s q
  | [], s, hs, _ => num s 0 hs (by omega)
  | u :: q, s, hs, h => by
    have h1 := num s u hs (h u (by simp))
    have h2 := pathT_pos num q u (h u (by simp)) fun x hx => h x (by simp [hx])
    simp only [pathT]
    omega
theorem bestT_some {rows : List (List Int)} (h1 : 1 ≤ rows.length) (h24 : rows.length ≤ 24) (num : ∀ a b, a < rows.length → b < rows.length → 0 ≤ costAt rows a b) : ∀ (f : Nat) (p : List Int) (m last : Nat) (cost : Int) (l : List Nat), walkP rows p = some (m, last, cost) → WalkOk rows p m last cost l → f = rows.length - 1 - p.length → ∃ q : List Nat, q.Perm (memsM m) ∧ bestT rows f p = pathT rows 0 (l ++ q)
  | 0, p, m, last, cost, l, hp, W, hf => by
    have hlen := W.len
    have hpl : p.length = l.length := by rw [W.eq, intsN_len]
    refine ⟨[], ?_, by rw [List.append_nil]; show pathT rows 0 (p.map Int.toNat) = _; rw [W.eq, toNat_ints]⟩
    rw [List.eq_nil_of_length_eq_zero (show (memsM m).length = 0 by omega)]
  | f + 1, p, m, last, cost, l, hp, W, hf => by
    have hlen := W.len
    have hpl : p.length = l.length := by rw [W.eq, intsN_len]
    have ih : ∀ c ∈ memsM m, ∃ q : List Nat, q.Perm (memsM (clrM m c)) ∧ bestT rows f (p ++ [(c : Int)]) = pathT rows 0 ((l ++ [c]) ++ q) := fun c hc => by
      have hs := walkP_snoc h1 h24 hp hc
      obtain ⟨l', W'⟩ := walk_ok h1 h24 hs
      have e : l' = l ++ [c] := by
        have := W'.eq
        rw [W.eq] at this
        have h2 := congrArg (List.map Int.toNat) this
        rw [toNat_ints] at h2
        rw [← h2, List.map_append, toNat_ints]
        rfl
      subst e
      exact bestT_some h1 h24 num f _ _ _ _ _ hs W' (by rw [List.length_append, List.length_singleton]; omega)
    have hpos : ∀ x ∈ intsN (memsM m), 0 ≤ bestT rows f (p ++ [x]) := fun x hx => by
      obtain ⟨c, hc, rfl⟩ := List.mem_map.1 hx
      obtain ⟨q, a1, a2⟩ := ih c hc
      rw [a2]
      refine pathT_pos num _ _ (by omega) fun y hy => ?_
      rcases List.mem_append.1 hy with hy | hy
      · rcases List.mem_append.1 hy with hy | hy
        · exact (W.inn y hy).1
        · obtain rfl := List.mem_singleton.1 hy
          exact ((W.rest y).1 hc).1.1
      · exact ((W.rest y).1 ((clr_mem W.sub.1).1 (a1.mem_iff.1 hy)).1).1.1
    have hne : memsM m ≠ [] := by
      intro e
      rw [e] at hlen
      simp at hlen
      omega
    have e : bestT rows (f + 1) p = leastF (fun x => bestT rows f (p ++ [x])) (-1) (intsN (memsM m)) := by
      show leastF _ (-1) (match walkP rows p with | none => [] | some (m, _, _) => intsN (memsM m)) = _
      rw [hp]
    rcases leastF_in (b := -1) hpos (.inr (by simpa [intsN] using hne)) with ⟨_, h⟩ | ⟨x, hx, h⟩
    · omega
    · obtain ⟨c, hc, rfl⟩ := List.mem_map.1 hx
      obtain ⟨q, a1, a2⟩ := ih c hc
      refine ⟨c :: q, ?_, ?_⟩
      · refine (a1.cons c).trans ?_
        refine (List.perm_ext_iff_of_nodup ?_ ((memsM_sorted m).imp fun h => Nat.ne_of_lt h)).2 fun x => ?_
        · refine List.nodup_cons.2 ⟨fun h => ((clr_mem W.sub.1).1 h).2 rfl, (memsM_sorted _).imp fun h => Nat.ne_of_lt h⟩
        · rw [List.mem_cons, clr_mem W.sub.1]
          constructor
          · rintro (rfl | ⟨h, _⟩)
            · exact hc
            · exact h
          · intro h
            by_cases e : x = c
            · exact .inl e
            · exact .inr ⟨h, e⟩
      · rw [e, h, a2]
        simp
/-- a bound is no number below nought, and none above the least cost -/
theorem boundT_below {rows : List (List Int)} {mirror : Bool} (h1 : 1 ≤ rows.length) (h24 : rows.length ≤ 24) (num : ∀ a b, a < rows.length → b < rows.length → 0 ≤ costAt rows a b ∧ costAt rows a b ≤ 2147483647) (sym : mirror = true → ∀ a b, a < rows.length → b < rows.length → costAt rows a b = costAt rows b a) {p : List Int} {m last : Nat} {cost : Int} (hp : walkP rows p = some (m, last, cost)) :
    0 ≤ (boundT rows mirror p).1 ∧ (boundT rows mirror p).1 ≤ bestT rows (rows.length - 1 - p.length) p ∧ (boundT rows mirror p).2 = 0 := by
  obtain ⟨l, W⟩ := walk_ok h1 h24 hp
  obtain ⟨q, a1, a2⟩ := bestT_some h1 h24 (fun a b x y => (num a b x y).1) _ p m last cost l hp W rfl
  have hll : last < rows.length := by
    rw [W.last]
    rcases lastT_mem l 0 with h | h
    · rw [h]; omega
    · exact (W.inn _ h).1
  have hus : ∀ x ∈ memsM m, x < rows.length := fun x hx => ((W.rest x).1 hx).1.1
  have h0 : 0 ∉ memsM m := fun h => ((W.rest 0).1 h).1.2 rfl
  have hnl : last ∉ memsM m := fun h => by
    have h2 := (W.rest last).1 h
    rcases lastT_mem l 0 with h3 | h3
    · exact h2.1.2 (by rw [W.last, h3])
    · exact h2.2 (by rw [W.last]; exact h3)
  have hnd : (memsM m).Nodup := (memsM_sorted m).imp fun h => Nat.ne_of_lt h
  have hA : ∀ a, (a = last ∨ a ∈ memsM m) → a < rows.length := fun a h => h.elim (fun e => by rw [e]; exact hll) (hus a)
  have num' : ∀ a b, (a = last ∨ a ∈ memsM m) → (b = 0 ∨ b ∈ memsM m) → 0 ≤ costAt rows a b ∧ costAt rows a b ≤ 2147483647 := fun a b ha hb => num a b (hA a ha) (hb.elim (fun e => by omega) (hus b))
  have hway : 0 ≤ cost := by
    rw [W.cost]
    have key : ∀ (l : List Nat) (s : Nat), s < rows.length → (∀ x ∈ l, x < rows.length) → 0 ≤ wayC rows s (intsN l) := by
      intro l
      induction l with
      | nil => intro s _ _; simp [wayC, intsN]
      | cons c l ih =>
        intro s hs h
        have h2 := (num s c hs (h c (by simp))).1
        have h3 := ih c (h c (by simp)) fun x hx => h x (by simp [hx])
        simp only [intsN, List.map_cons, wayC, Int.toNat_natCast] at h3 ⊢
        omega
    exact key l 0 (by omega) fun x hx => (W.inn x hx).1
  have hb : boundT rows mirror p = (cost + (if memsM m = [] then costAt rows last 0 else if mirror = true then max (reduceT rows (memsM m) last) ((endsT rows (memsM m) last + 1) / 2) else reduceT rows (memsM m) last), 0) := by unfold boundT; rw [hp]
  rw [hb, a2, pathT_app, ← W.last, ← W.cost]
  simp only
  by_cases he : memsM m = []
  · rw [if_pos he]
    have : q = [] := List.Perm.eq_nil (he ▸ a1)
    subst this
    have := (num' last 0 (.inl rfl) (.inl rfl)).1
    exact ⟨by omega, by simp only [pathT]; omega, trivial⟩
  · rw [if_neg he]
    have r1 := reduceT_le num' (List.nodup_cons.2 ⟨hnl, hnd⟩) he h0 a1
    have r0 : 0 ≤ reduceT rows (memsM m) last := by
      have k1 : 0 ≤ sumL ((last :: memsM m).map fun src => offT rows (memsM m) last src) := sumL_pos fun x hx => by
        obtain ⟨y, _, rfl⟩ := List.mem_map.1 hx
        unfold offT
        omega
      have k2 : 0 ≤ sumL ((0 :: memsM m).map fun dst => max (colT rows (memsM m) last dst) 0) := sumL_pos fun x hx => by
        obtain ⟨y, _, rfl⟩ := List.mem_map.1 hx
        omega
      unfold reduceT
      omega
    cases hm : mirror with
    | false => exact ⟨by simp only [if_neg (show ¬ (false = true) by simp)]; omega, by simp only [if_neg (show ¬ (false = true) by simp)]; omega, trivial⟩
    | true =>
      have r2 := endsT_le (fun a b x y => (num' a b x y).1) (fun a b ha hb => sym hm a b (hA a ha) (hA b hb)) hnd hnl h0 a1 he
      simp only [if_true]
      refine ⟨by omega, by omega, trivial⟩
end Go.Proofs.YtpngflmngnjjoaaDoor
