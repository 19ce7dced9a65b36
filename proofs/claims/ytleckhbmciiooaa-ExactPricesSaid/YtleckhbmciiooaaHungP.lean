/-
  An assignment by prices, plainly: what holds between rows, what holds while a way grows, and when it is turned; at the end no order costs less.
-/
import Derived.Lib.Hide
namespace Go.Proofs.Ytleckhbmciiooaa

/-- so many rows have their columns: no way costs less than its prices, a row's own just them -/
structure HI (n : Nat) (cst : Nat → Nat → Int) (r : Nat) (u v : Nat → Int) (has : Nat → Nat) : Prop where
  le : ∀ c, 1 ≤ c → c ≤ n → has c ≤ r
  all : ∀ i, 1 ≤ i → i ≤ r → ∃ c, 1 ≤ c ∧ c ≤ n ∧ has c = i
  inj : ∀ c c', 1 ≤ c → c ≤ n → 1 ≤ c' → c' ≤ n → has c = has c' → has c ≠ 0 → c = c'
  slack : ∀ i c, 1 ≤ i → i ≤ n → 1 ≤ c → c ≤ n → u i + v c ≤ cst i c
  tight : ∀ c, 1 ≤ c → c ≤ n → has c ≠ 0 → cst (has c) c = u (has c) + v c
  free : ∀ c, 1 ≤ c → c ≤ n → has c = 0 → v c = 0
  neg : ∀ c, 1 ≤ c → c ≤ n → v c ≤ 0
  pos : ∀ i, 0 ≤ u i
  fresh : ∀ i, r < i → u i = 0
theorem HI.start {n : Nat} {cst : Nat → Nat → Int} (num : ∀ i c, 1 ≤ i → i ≤ n → 1 ≤ c → c ≤ n → 0 ≤ cst i c) : HI n cst 0 (fun _ => 0) (fun _ => 0) (fun _ => 0) where
  le := fun _ _ _ => Nat.le_refl _
  all := fun i h1 h2 => by omega
  inj := fun _ _ _ _ _ _ _ h => absurd rfl h
  slack := fun i c h1 h2 h3 h4 => by have := num i c h1 h2 h3 h4; omega
  tight := fun _ _ _ h => absurd rfl h
  free := fun _ _ _ _ => rfl
  neg := fun _ _ _ => Int.le_refl _
  pos := fun _ => Int.le_refl _
  fresh := fun _ _ => rfl
/-- no more numbers below n than n, each once -/
theorem nodup_le {l : List Nat} {n : Nat} (hd : l.Nodup) (h : ∀ x ∈ l, x < n) : l.length ≤ n := by
  have hp : l.Perm ((List.range n).filter fun x => decide (x ∈ l)) := by
    refine (List.perm_ext_iff_of_nodup hd (List.Pairwise.filter _ List.nodup_range)).2 fun x => ?_
    rw [List.mem_filter, List.mem_range]
    exact ⟨fun hx => ⟨h x hx, decide_eq_true hx⟩, fun hx => of_decide_eq_true hx.2⟩
  rw [hp.length_eq]
  have := List.length_filter_le (fun x => decide (x ∈ l)) (List.range n)
  rwa [List.length_range] at this
/-- as long as a row has none there is a column that nobody has -/
theorem HI.some_free {n : Nat} {cst : Nat → Nat → Int} {r : Nat} {u v : Nat → Int} {has : Nat → Nat} (h : HI n cst r u v has) (hr : r < n) : ∃ c, 1 ≤ c ∧ c ≤ n ∧ has c = 0 := by
  cases hd : decide (∃ c, c < n ∧ has (c + 1) = 0) with
  | true =>
    obtain ⟨c, h1, h2⟩ := of_decide_eq_true hd
    exact ⟨c + 1, by omega, by omega, h2⟩
  | false =>
    exfalso
    have hn := of_decide_eq_false hd
    have hne : ∀ c, c < n → has (c + 1) ≠ 0 := fun c hc e => hn ⟨c, hc, e⟩
    have hl := nodup_le (l := (List.range n).map fun c => has (c + 1) - 1) (n := r) ?_ ?_
    · rw [List.length_map, List.length_range] at hl
      omega
    · refine (List.pairwise_map.2 ?_)
      refine List.Pairwise.imp_of_mem ?_ List.nodup_range
      intro a b ha hb hab e
      have ha := List.mem_range.1 ha
      have hb := List.mem_range.1 hb
      have h1 := hne a ha
      have h2 := hne b hb
      have := h.inj (a + 1) (b + 1) (by omega) (by omega) (by omega) (by omega) (by omega) h1
      exact hab (by omega)
    · intro x hx
      obtain ⟨c, hc, rfl⟩ := List.mem_map.1 hx
      have hc := List.mem_range.1 hc
      have h1 := hne c hc
      have h2 := h.le (c + 1) (by omega) (by omega)
      omega
/-- while a way grows: L are the columns that were seen, in their order; at is where one stands -/
structure GI (n : Nat) (cst : Nat → Nat → Int) (far : Int) (R : Nat) (has : Nat → Nat) (L : List Nat) (at' : Nat) (u v least : Nat → Int) (frm : Nat → Nat) : Prop where
  nodup : (L ++ [at']).Nodup
  first : (L ++ [at']).head? = some 0
  le : ∀ c ∈ L ++ [at'], c ≤ n
  seen : ∀ c ∈ L, has c ≠ 0
  way : ∀ (A B : List Nat) (c : Nat), L ++ [at'] = A ++ c :: B → A ≠ [] → frm c ∈ A ∧ cst (has (frm c)) c = u (has (frm c)) + v c
  slack : ∀ i c, 1 ≤ i → i ≤ n → 1 ≤ c → c ≤ n → u i + v c ≤ cst i c
  tight : ∀ c, 1 ≤ c → c ≤ n → has c ≠ 0 → cst (has c) c = u (has c) + v c
  free : ∀ c, 1 ≤ c → c ≤ n → has c = 0 → v c = 0
  neg : ∀ c, 1 ≤ c → c ≤ n → v c ≤ 0
  pos : ∀ i, 0 ≤ u i
  fresh : ∀ i, R < i → u i = 0
  far0 : L = [] → ∀ c, 1 ≤ c → c ≤ n → least c = far
  least1 : ∀ c, 1 ≤ c → c ≤ n → c ∉ L → ∀ s ∈ L, least c ≤ cst (has s) c - u (has s) - v c
  least2 : L ≠ [] → ∀ c, 1 ≤ c → c ≤ n → c ∉ L → frm c ∈ L ∧ least c = cst (has (frm c)) c - u (has (frm c)) - v c
/-- what the rows that have columns, and the new one, are -/
structure HasOk (n R : Nat) (has : Nat → Nat) : Prop where
  le : ∀ c, c ≤ n → has c ≤ R
  zero : has 0 = R
  inj : ∀ c c', c ≤ n → c' ≤ n → has c = has c' → has c ≠ 0 → c = c'
  all : ∀ i, 1 ≤ i → i ≤ R → ∃ c, c ≤ n ∧ has c = i
theorem HI.hasOk {n : Nat} {cst : Nat → Nat → Int} {r : Nat} {u v : Nat → Int} {has has' : Nat → Nat} (h : HI n cst r u v has) (h0 : has' 0 = r + 1) (hs : ∀ c, 1 ≤ c → has' c = has c) : HasOk n (r + 1) has' where
  le := fun c hc => by
    by_cases e : c = 0
    · subst e; omega
    · rw [hs c (by omega)]
      have := h.le c (by omega) hc
      omega
  zero := h0
  inj := fun c c' hc hc' e hne => by
    by_cases e0 : c = 0
    · subst e0
      by_cases e1 : c' = 0
      · exact e1.symm
      · rw [hs c' (by omega), h0] at e
        have := h.le c' (by omega) hc'
        omega
    · by_cases e1 : c' = 0
      · subst e1
        rw [hs c (by omega), h0] at e
        have := h.le c (by omega) hc
        omega
      · rw [hs c (by omega), hs c' (by omega)] at e
        rw [hs c (by omega)] at hne
        exact h.inj c c' (by omega) hc (by omega) hc' e hne
  all := fun i h1 h2 => by
    by_cases e : i = r + 1
    · exact ⟨0, by omega, by rw [h0, e]⟩
    · obtain ⟨c, k1, k2, k3⟩ := h.all i h1 (by omega)
      exact ⟨c, k2, by rw [hs c k1]; exact k3⟩
theorem HI.grow {n : Nat} {cst : Nat → Nat → Int} {r : Nat} {u v least : Nat → Int} {has has' frm : Nat → Nat} {far : Int} (h : HI n cst r u v has) (hs : ∀ c, 1 ≤ c → has' c = has c) (hf : ∀ c, 1 ≤ c → c ≤ n → least c = far) : GI n cst far (r + 1) has' [] 0 u v least frm where
  nodup := by simp
  first := rfl
  le := fun c hc => by simp at hc; omega
  seen := fun c hc => by cases hc
  way := fun A B c e hA => by
    exfalso
    have := congrArg List.length e
    cases A with
    | nil => exact hA rfl
    | cons a A => simp at this
  slack := h.slack
  tight := fun c h1 h2 h3 => by
    rw [hs c h1] at h3 ⊢
    exact h.tight c h1 h2 h3
  free := fun c h1 h2 h3 => by
    rw [hs c h1] at h3
    exact h.free c h1 h2 h3
  neg := h.neg
  pos := h.pos
  fresh := fun i hi => h.fresh i (by omega)
  far0 := fun _ => hf
  least1 := fun c _ _ _ s hs => by cases hs
  least2 := fun h => absurd rfl h
section
variable {n R : Nat} {cst : Nat → Nat → Int} {far : Int} {has frm frm' : Nat → Nat} {L : List Nat} {a next : Nat} {u v least least' u' v' least2 : Nat → Int} {step : Int}
theorem GI.notin (h : GI n cst far R has L a u v least frm) : a ∉ L := fun ha => by
  have := List.nodup_append.1 h.nodup
  exact this.2.2 a ha a (by simp) rfl
/-- one round: the least ones are reckoned anew over the row of where one stands; all prices turn by the least of them -/
theorem GI.round (h : GI n cst far R has L a u v least frm) (ho : HasOk n R has) (hRn : R ≤ n) (hfar : ∀ i c, 1 ≤ i → i ≤ n → 1 ≤ c → c ≤ n → cst i c - u i - v c < far) (ha : has a ≠ 0)
    (k1 : ∀ c, 1 ≤ c → c ≤ n → c ∉ L ++ [a] → (cst (has a) c - u (has a) - v c < least c ∧ least' c = cst (has a) c - u (has a) - v c ∧ frm' c = a) ∨ (least c ≤ cst (has a) c - u (has a) - v c ∧ least' c = least c ∧ frm' c = frm c))
    (k1' : ∀ c, c ∈ L ++ [a] → frm' c = frm c)
    (k2 : 1 ≤ next ∧ next ≤ n ∧ next ∉ L ++ [a] ∧ step = least' next ∧ ∀ c, 1 ≤ c → c ≤ n → c ∉ L ++ [a] → step ≤ least' c)
    (k3 : ∀ i, u' i = if ∃ s, s ∈ L ++ [a] ∧ has s = i then u i + step else u i) (k4 : ∀ c, 1 ≤ c → c ≤ n → v' c = if c ∈ L ++ [a] then v c - step else v c) (k5 : ∀ c, 1 ≤ c → c ≤ n → c ∉ L ++ [a] → least2 c = least' c - step) :
    GI n cst far R has (L ++ [a]) next u' v' least2 frm' ∧ 0 ≤ step := by
  obtain ⟨n1, n2, n3, n4, n5⟩ := k2
  have hseen : ∀ s ∈ L ++ [a], has s ≠ 0 ∧ s ≤ n := fun s hs => by
    refine ⟨?_, h.le s hs⟩
    rcases List.mem_append.1 hs with hs | hs
    · exact h.seen s hs
    · obtain rfl := List.mem_singleton.1 hs
      exact ha
  have hrow : ∀ s ∈ L ++ [a], 1 ≤ has s ∧ has s ≤ n := fun s hs => by
    have := hseen s hs
    have h2 := ho.le s this.2
    omega
  -- the least ones over all that are seen now
  have l1 : ∀ c, 1 ≤ c → c ≤ n → c ∉ L ++ [a] → ∀ s ∈ L ++ [a], least' c ≤ cst (has s) c - u (has s) - v c := fun c h1 h2 h3 s hs => by
    have hcL : c ∉ L := fun hc => h3 (List.mem_append_left _ hc)
    have hk := k1 c h1 h2 h3
    rcases List.mem_append.1 hs with hs | hs
    · have := h.least1 c h1 h2 hcL s hs
      rcases hk with hk | hk <;> omega
    · obtain rfl := List.mem_singleton.1 hs
      rcases hk with hk | hk <;> omega
  have l2 : ∀ c, 1 ≤ c → c ≤ n → c ∉ L ++ [a] → frm' c ∈ L ++ [a] ∧ least' c = cst (has (frm' c)) c - u (has (frm' c)) - v c := fun c h1 h2 h3 => by
    have hcL : c ∉ L := fun hc => h3 (List.mem_append_left _ hc)
    rcases k1 c h1 h2 h3 with ⟨_, e1, e2⟩ | ⟨g1, e1, e2⟩
    · rw [e1, e2]
      exact ⟨by simp, rfl⟩
    · by_cases hL : L = []
      · exfalso
        have := h.far0 hL c h1 h2
        have h4 := hrow a (by simp)
        have := hfar (has a) c h4.1 h4.2 h1 h2
        omega
      · have := h.least2 hL c h1 h2 hcL
        rw [e1, e2]
        exact ⟨List.mem_append_left _ this.1, this.2⟩
  have hst : 0 ≤ step := by
    obtain ⟨m1, m2⟩ := l2 next n1 n2 n3
    have hr := hrow _ m1
    have := h.slack (has (frm' next)) next hr.1 hr.2 n1 n2
    omega
  have ex : ∀ i, (∃ s, s ∈ L ++ [a] ∧ has s = i) ∨ ¬ ∃ s, s ∈ L ++ [a] ∧ has s = i := fun i => Classical.em _
  have uin : ∀ s ∈ L ++ [a], u' (has s) = u (has s) + step := fun s hs => by rw [k3, if_pos ⟨s, hs, rfl⟩]
  have ule : ∀ i, u i ≤ u' i := fun i => by
    rw [k3]
    split <;> omega
  refine ⟨⟨?_, ?_, ?_, fun c hc => (hseen c hc).1, ?_, ?_, ?_, ?_, ?_, ?_, ?_, ?_, ?_, ?_⟩, hst⟩
  · exact List.nodup_append.2 ⟨h.nodup, by simp, fun x hx y hy e => by
      obtain rfl := List.mem_singleton.1 hy
      exact n3 (e ▸ hx)⟩
  · have := h.first
    rw [List.head?_append, this]
    rfl
  · intro c hc
    rcases List.mem_append.1 hc with hc | hc
    · exact h.le c hc
    · obtain rfl := List.mem_singleton.1 hc
      exact n2
  · -- the ways
    intro A B c e hA
    rcases List.eq_nil_or_concat B with rfl | ⟨B', b, rfl⟩
    · have e' : (L ++ [a]) ++ [next] = A ++ [c] := by simpa using e
      obtain ⟨e1, e2⟩ := List.append_inj' e' rfl
      obtain rfl : next = c := by simpa using e2
      subst e1
      obtain ⟨m1, m2⟩ := l2 next n1 n2 n3
      refine ⟨m1, ?_⟩
      rw [uin _ m1, k4 next n1 n2, if_neg n3]
      omega
    · rw [List.concat_eq_append] at e
      have e' : (L ++ [a]) ++ [next] = (A ++ c :: B') ++ [b] := by simpa using e
      obtain ⟨e1, _⟩ := List.append_inj' e' rfl
      have hc : c ∈ L ++ [a] := by rw [e1]; simp
      obtain ⟨m1, m2⟩ := h.way A B' c e1 hA
      rw [k1' c hc]
      refine ⟨m1, ?_⟩
      have hfc : frm c ∈ L ++ [a] := by rw [e1]; exact List.mem_append_left _ m1
      have c1 : 1 ≤ c := by
        rcases Nat.eq_zero_or_pos c with rfl | h1
        · exfalso
          cases A with
          | nil => exact hA rfl
          | cons x A =>
            have hf := h.first
            rw [e1] at hf
            obtain rfl : x = 0 := by simpa using hf
            have hn := h.nodup
            rw [e1] at hn
            exact (List.nodup_cons.1 hn).1 (by simp)
        · exact h1
      rw [uin _ hfc, k4 c c1 (h.le c hc), if_pos hc]
      omega
  · -- no way costs less than its prices
    intro i c h1 h2 h3 h4
    have hs := h.slack i c h1 h2 h3 h4
    rw [k3, k4 c h3 h4]
    by_cases hc : c ∈ L ++ [a]
    · rw [if_pos hc]
      split <;> omega
    · rw [if_neg hc]
      split
      · rename_i hi
        obtain ⟨s, hs1, rfl⟩ := hi
        have g1 := l1 c h3 h4 hc s hs1
        have g2 := n5 c h3 h4 hc
        omega
      · exact hs
  · -- a row's own way costs just its prices
    intro c h1 h2 h3
    have ht := h.tight c h1 h2 h3
    rw [k3, k4 c h1 h2]
    by_cases hc : c ∈ L ++ [a]
    · rw [if_pos ⟨c, hc, rfl⟩, if_pos hc]
      omega
    · rw [if_neg hc, if_neg]
      · exact ht
      · rintro ⟨s, hs1, hs2⟩
        have := ho.inj s c (hseen s hs1).2 h2 hs2 (hseen s hs1).1
        exact hc (this ▸ hs1)
  · intro c h1 h2 h3
    rw [k4 c h1 h2, if_neg (fun hc => (hseen c hc).1 h3)]
    exact h.free c h1 h2 h3
  · intro c h1 h2
    have := h.neg c h1 h2
    rw [k4 c h1 h2]
    split <;> omega
  · intro i
    have := h.pos i
    have := ule i
    omega
  · intro i hi
    rw [k3, if_neg]
    · exact h.fresh i hi
    · rintro ⟨s, hs1, hs2⟩
      have := ho.le s (hseen s hs1).2
      omega
  · intro e
    simp at e
  · intro c h1 h2 h3 s hs
    have g1 := l1 c h1 h2 h3 s hs
    rw [k5 c h1 h2 h3, uin s hs, k4 c h1 h2, if_neg h3]
    omega
  · intro _ c h1 h2 h3
    obtain ⟨m1, m2⟩ := l2 c h1 h2 h3
    refine ⟨m1, ?_⟩
    rw [k5 c h1 h2 h3, uin _ m1, k4 c h1 h2, if_neg h3]
    omega
end
end Go.Proofs.Ytleckhbmciiooaa
