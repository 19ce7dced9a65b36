/-
  A region of which some operations are walked in whatever order, all that is left waiting for them, through whatever chain.
-/
import Derived.Test.YtleckhbmciiooaaStep
namespace Go.Proofs.Ytleckhbmciiooaa
open Go.RowKit

/-- number i waits for number q, through others of the list -/
def reachN (ops : Array Oper) (rs : List Nat) : Nat → Nat → Nat → Bool
  | 0, _, _ => false
  | f + 1, i, q => match ops[i]? with
    | none => false
    | some o => o.after.toList.any (fun e => Region.binds .any e && (e.on == q || (rs.contains e.on && reachN ops rs f e.on q)))
section
variable {P : Program} {ops : Array Oper} {Q : Exit → Act → World → Prop}
theorem reach_listed {listed : Array Bool} {rs : List Nat} (hcl : ∀ p ∈ rs, listed.getD p true = true → ∀ o, ops[p]? = some o → ∀ e ∈ o.after.toList, Region.binds .any e = true → listed.getD e.on true = true) :
    ∀ (f i : Nat), (∀ o, ops[i]? = some o → ∀ e ∈ o.after.toList, Region.binds .any e = true → listed.getD e.on true = true) → ∀ q, reachN ops rs f i q = true → listed.getD q true = true := by
  intro f
  induction f with
  | zero => intro i _ q h; cases h
  | succ f ih =>
    intro i hi q h
    unfold reachN at h
    cases ho : ops[i]? with
    | none => rw [ho] at h; cases h
    | some o =>
      rw [ho] at h
      obtain ⟨e, he, h⟩ := List.any_eq_true.1 h
      simp only [Bool.and_eq_true, Bool.or_eq_true, beq_iff_eq] at h
      obtain ⟨hb, h⟩ := h
      have h1 := hi o ho e he hb
      rcases h with rfl | ⟨h2, h3⟩
      · exact h1
      · exact ih e.on (hcl e.on (by simpa using h2) h1) q h3
theorem ready_deps {listed : Array Bool} {i : Nat} (h : ((ops[i]?.map fun o => o.after.all fun e => !Region.binds .any e || listed.getD e.on false).getD false) = true) :
    ∀ o, ops[i]? = some o → ∀ e ∈ o.after.toList, Region.binds .any e = true → listed.getD e.on true = true := by
  intro o ho e he hb
  rw [ho] at h
  simp only [Option.map_some, Option.getD_some, Array.all_eq_true_iff_forall_mem] at h
  have := h e (by simpa using he)
  rw [hb] at this
  simp only [Bool.not_true, Bool.false_or] at this
  by_cases hlt : e.on < listed.size
  · simp only [Array.getD, hlt, dif_pos] at this ⊢
    simpa using this
  · simp [Array.getD, hlt]
/-- the same for a part of the operations; 'listed1': what is listed behind them -/
def coreOk2 (ops : Array Oper) (listed listed1 : Array Bool) (rem : List (Nat × Option Tmp)) : Bool :=
  decide ((rem.map (·.1)).Nodup) && decide ((rem.filterMap (·.2)).Nodup) && decide (listed.size = ops.size) && decide (listed1.size = ops.size) &&
  rem.all (fun p => match ops[p.1]? with
    | none => false
    | some o => (o.dst == p.2) && o.after.all (fun e => !Region.binds .any e || (decide (e.on < p.1) && ((rem.map (·.1)).contains e.on || listed.getD e.on true)))) &&
  (List.range ops.size).all (fun i => if (rem.map (·.1)).contains i then !listed.getD i true && listed1.getD i true
    else (listed1.getD i true == listed.getD i true) && (listed.getD i true || rem.all (fun p => reachN ops (rem.map (·.1)) (rem.length + 1) i p.1) || (match ops[i]? with
      | none => false
      | some o => o.after.any (fun e => Region.binds .any e && decide (e.on < ops.size) && !listed.getD e.on true && !(rem.map (·.1)).contains e.on))))

/-- .. of some of the operations alone: all that are left want all of them ahead -/
theorem wpAny_core2 (rem : List (Nat × Option Tmp)) (R : World → Prop) (V : Nat → Value → World → Prop) (Stab : World → World → Prop) {listed0 : Array Bool} (listed1 : Array Bool) (hok : coreOk2 ops listed0 listed1 rem = true)
    (stab : ∀ j v w w', V j v w → Stab w w' → V j v w')
    {a0 : Act}
    (step : ∀ p ∈ rem, ∀ u w, R w → (∀ j ∈ depsOf ops rem p.1, V j (u j) w) → ∀ K : Act → World → Prop, (∀ v w', V p.1 v w' → R w' → Stab w w' → K ((putAll a0 rem u).put p.2 v) w') → wpOp P ops Q p.1 K (putAll a0 rem u) w)
    (n : Nat) (done : ∀ u w, R w → (∀ p ∈ rem, V p.1 (u p.1) w) → wpAny P .any ops Q n listed1 (putAll a0 rem u) w) {w0 : World} (hR : R w0) :
    wpAny P .any ops Q (rem.length + n) listed0 a0 w0 := by
  simp only [coreOk2, Bool.and_eq_true, decide_eq_true_eq] at hok
  obtain ⟨⟨⟨⟨⟨hn, hdn⟩, hsz⟩, hsz1⟩, hall⟩, hcomp⟩ := hok
  have hall := List.all_eq_true.1 hall
  have hcomp := List.all_eq_true.1 hcomp
  have hmem : ∀ i ∈ rem.map (·.1), listed0.getD i true = false ∧ i < ops.size := by
    intro i hi
    obtain ⟨p, hp, rfl⟩ := List.mem_map.1 hi
    have h1 := hall p hp
    have hlt : p.1 < ops.size := by
      rcases Nat.lt_or_ge p.1 ops.size with h | h
      · exact h
      · rw [Array.getElem?_eq_none h] at h1; simp at h1
    have := hcomp p.1 (List.mem_range.2 hlt)
    have hc : (rem.map (·.1)).contains p.1 = true := by simpa using hi
    rw [hc] at this
    simp only [if_true, Bool.and_eq_true, Bool.not_eq_true'] at this
    exact ⟨this.1, hlt⟩
  have hone : ∀ i ∈ rem.map (·.1), listed1.getD i true = true := by
    intro i hi
    have := hcomp i (List.mem_range.2 (hmem i hi).2)
    have hc : (rem.map (·.1)).contains i = true := by simpa using hi
    rw [hc] at this
    simp only [if_true, Bool.and_eq_true] at this
    exact this.2
  have hrest : ∀ i, i < ops.size → i ∉ rem.map (·.1) → listed1.getD i true = listed0.getD i true ∧ ((listed0.getD i true = true ∨ ∀ p ∈ rem, reachN ops (rem.map (·.1)) (rem.length + 1) i p.1 = true) ∨ ∃ o, ops[i]? = some o ∧ ∃ e ∈ o.after.toList, Region.binds .any e = true ∧ e.on < ops.size ∧ listed0.getD e.on true = false ∧ e.on ∉ rem.map (·.1)) := by
    intro i hi hni
    have := hcomp i (List.mem_range.2 hi)
    have hc : (rem.map (·.1)).contains i = false := by
      cases h : (rem.map (·.1)).contains i with
      | false => rfl
      | true => exact absurd (by simpa using h) hni
    rw [hc] at this
    simp only [Bool.false_eq_true, if_false, Bool.and_eq_true, beq_iff_eq, Bool.or_eq_true] at this
    refine ⟨this.1, ?_⟩
    rcases this.2 with (h | h) | h
    · exact .inl (.inl h)
    · exact .inl (.inr fun p hp => List.all_eq_true.1 h p hp)
    · right
      rw [Array.getElem?_eq_getElem hi] at h
      refine ⟨ops[i], Array.getElem?_eq_getElem hi, ?_⟩
      simp only [Array.any_toList.symm, List.any_eq_true, Bool.and_eq_true, decide_eq_true_eq, Bool.not_eq_true'] at h
      obtain ⟨e, he, ⟨⟨h1, h2⟩, h3⟩, h4⟩ := h
      exact ⟨e, he, h1, h2, h3, by simpa using h4⟩
  -- the invariant
  suffices H : ∀ k (listed : Array Bool) (u : Nat → Value) (w : World), listed.size = ops.size → R w → (∀ i, i < ops.size → i ∉ rem.map (·.1) → listed.getD i true = listed0.getD i true) →
      (∀ p ∈ rem, listed.getD p.1 true = true → V p.1 (u p.1) w) → (∀ p ∈ rem.map (·.1), listed.getD p true = true → ∀ o, ops[p]? = some o → ∀ e ∈ o.after.toList, Region.binds .any e = true → listed.getD e.on true = true) → openOf listed rem = k → wpAny P .any ops Q (k + n) listed (putAll a0 rem u) w by
    obtain ⟨u, hu⟩ := putAll_self a0 rem hn
    have hopen : openOf listed0 rem = rem.length := by
      unfold openOf
      rw [List.filter_eq_self.2]
      intro p hp
      simp [(hmem p.1 (List.mem_map.2 ⟨p, hp, rfl⟩)).1]
    have h := H rem.length listed0 u w0 hsz hR (fun i hi hni => rfl) (fun p hp hl => by
      have := (hmem p.1 (List.mem_map.2 ⟨p, hp, rfl⟩)).1
      rw [this] at hl
      cases hl) (fun p hp hl => by
      rw [(hmem p hp).1] at hl
      cases hl) hopen
    rwa [hu] at h
  intro k
  induction k with
  | zero =>
    intro listed u w hs hRw hout hV hcl hopen
    have hall' : ∀ p ∈ rem, listed.getD p.1 true = true := by
      intro p hp
      simp only [openOf, List.length_eq_zero_iff, List.filter_eq_nil_iff, Bool.not_eq_true', Bool.not_eq_false] at hopen
      exact hopen p hp
    have hl : listed = listed1 := by
      apply Array.ext
      · rw [hs, hsz1]
      · intro i h1 h2
        have : listed.getD i true = listed1.getD i true := by
          by_cases hr : i ∈ rem.map (·.1)
          · rw [hone i hr]
            obtain ⟨p, hp, rfl⟩ := List.mem_map.1 hr
            exact hall' p hp
          · rw [hout i (by omega) hr, (hrest i (by omega) hr).1]
        simpa [Array.getD, h1, h2] using this
    rw [hl, Nat.zero_add]
    exact done u w hRw (fun p hp => hV p hp (hall' p hp))
  | succ k ih =>
    intro listed u w hs hRw hout hV hcl hopen
    rw [Nat.add_right_comm]
    -- one of the list is not yet listed: none of the others is ready
    have hsome : ∃ p ∈ rem, listed.getD p.1 true = false := by
      have : (rem.filter fun p => !listed.getD p.1 true) ≠ [] := by
        intro h
        simp only [openOf, h, List.length_nil] at hopen
        omega
      obtain ⟨p, hp⟩ := List.exists_mem_of_ne_nil _ this
      obtain ⟨h1, h2⟩ := List.mem_filter.1 hp
      exact ⟨p, h1, by simpa using h2⟩
    have hno : ∀ i, i ∈ Region.ready .any ops listed → i ∈ rem.map (·.1) := by
      intro i hi
      obtain ⟨hi1, hi2⟩ := List.mem_filter.1 hi
      have hilt := List.mem_range.1 hi1
      simp only [Bool.and_eq_true] at hi2
      have hil : listed.getD i true = false := by simpa using hi2.1
      by_cases hr : i ∈ rem.map (·.1)
      · exact hr
      · exfalso
        obtain ⟨h1, h2⟩ := hrest i hilt hr
        rw [hout i hilt hr] at hil
        rcases h2 with (h2 | h2) | h2
        · rw [h2] at hil; cases hil
        rotate_left
        · obtain ⟨o, ho, e, he, hb, hsz2, hl0, hnr⟩ := h2
          have h3 := hi2.2
          rw [ho] at h3
          simp only [Option.map_some, Option.getD_some, Array.all_eq_true_iff_forall_mem] at h3
          have := h3 e (by simpa using he)
          rw [hb] at this
          simp only [Bool.not_true, Bool.false_or] at this
          have hlt : e.on < listed.size := by rw [hs]; exact hsz2
          have e1 : listed.getD e.on false = listed.getD e.on true := by simp only [Array.getD, hlt, dif_pos]
          rw [e1, hout e.on hsz2 hnr, hl0] at this
          cases this
        · obtain ⟨p, hp, hpl⟩ := hsome
          have := reach_listed hcl _ i (ready_deps hi2.2) p.1 (h2 p hp)
          rw [hpl] at this
          cases this
    constructor
    · intro hnil
      -- the least one that is not listed is ready
      exfalso
      have key : ∀ i, i < ops.size → i ∈ rem.map (·.1) → listed.getD i true = true := by
        intro i
        induction i using Nat.strongRecOn with
        | _ i ihi =>
          intro hi hr
          obtain ⟨p, hp, rfl⟩ := List.mem_map.1 hr
          have h1 := hall p hp
          cases hl : listed.getD p.1 true with
          | true => rfl
          | false =>
            exfalso
            have hready : p.1 ∈ Region.ready .any ops listed := by
              refine List.mem_filter.2 ⟨List.mem_range.2 hi, ?_⟩
              rw [Array.getElem?_eq_getElem hi] at h1 ⊢
              simp only [Bool.and_eq_true, beq_iff_eq] at h1
              simp only [hl, Bool.not_false, Option.map_some, Option.getD_some, Bool.true_and]
              rw [Array.all_eq_true_iff_forall_mem] at h1 ⊢
              intro e he
              have := h1.2 e he
              cases hb : Region.binds .any e with
              | false => rfl
              | true =>
                rw [hb] at this
                simp only [Bool.not_true, Bool.false_or, Bool.and_eq_true, decide_eq_true_eq, Bool.or_eq_true] at this
                have hlt : e.on < listed.size := by rw [hs]; omega
                have hh : listed.getD e.on true = true := by
                  rcases this.2 with h | h
                  · exact ihi e.on this.1 (by omega) (by simpa using h)
                  · by_cases hr' : e.on ∈ rem.map (·.1)
                    · exact ihi e.on this.1 (by omega) hr'
                    · rw [hout e.on (by omega) hr']; exact h
                simp only [Array.getD, hlt, dif_pos] at hh ⊢
                simpa using hh
            rw [hnil] at hready
            cases hready
      obtain ⟨p, hp, hpl⟩ := hsome
      have := key p.1 (hmem p.1 (List.mem_map.2 ⟨p, hp, rfl⟩)).2 (List.mem_map.2 ⟨p, hp, rfl⟩)
      rw [this] at hpl
      cases hpl
    · intro i hi
      have hir := hno i hi
      obtain ⟨hi1, hi2⟩ := List.mem_filter.1 hi
      have hilt := List.mem_range.1 hi1
      simp only [Bool.and_eq_true] at hi2
      have hil : listed.getD i true = false := by simpa using hi2.1
      obtain ⟨p, hp, rfl⟩ := List.mem_map.1 hir
      refine step p hp u w hRw ?_ _ ?_
      · intro j hj
        rw [depsOf, Array.getElem?_eq_getElem hilt] at hj
        obtain ⟨e, he, rfl⟩ := List.mem_map.1 hj
        obtain ⟨he1, he2⟩ := List.mem_filter.1 he
        simp only [Bool.and_eq_true] at he2
        have hjr : e.on ∈ rem.map (·.1) := by simpa using he2.2
        obtain ⟨q, hq, hqe⟩ := List.mem_map.1 hjr
        rw [← hqe]
        refine hV q hq ?_
        have h3 := hi2.2
        rw [Array.getElem?_eq_getElem hilt] at h3
        simp only [Option.map_some, Option.getD_some, Array.all_eq_true_iff_forall_mem] at h3
        have := h3 e (by simpa using he1)
        rw [he2.1] at this
        simp only [Bool.not_true, Bool.false_or] at this
        rw [hqe]
        have hlt : e.on < listed.size := by rw [hs, ← hqe]; exact (hmem q.1 (List.mem_map.2 ⟨q, hq, rfl⟩)).2
        simp only [Array.getD, hlt, dif_pos] at this ⊢
        simpa using this
      · intro v w' hv hR' hst
        have hpp : (p.1, p.2) ∈ rem := hp
        rw [putAll_upd a0 p.1 p.2 u v rem hn hdn hpp]
        have hset : ∀ j, (listed.setIfInBounds p.1 true).getD j true = if j = p.1 then true else listed.getD j true := by
          intro j
          simp only [Array.getD_eq_getD_getElem?, Array.getElem?_setIfInBounds]
          by_cases hj : p.1 = j
          · subst hj
            simp
            split <;> simp
          · rw [if_neg hj, if_neg (Ne.symm hj)]
        refine ih _ _ _ (by simpa using hs) hR' ?_ ?_ ?_ ?_
        · intro j hj hjr
          have hjp : ¬ j = p.1 := fun e => hjr (by rw [e]; exact List.mem_map.2 ⟨p, hp, rfl⟩)
          rw [hset, if_neg hjp]
          exact hout j hj hjr
        · intro q hq hql
          rw [hset] at hql
          by_cases he : q.1 = p.1
          · rw [he]
            simpa [upd] using hv
          · rw [if_neg he] at hql
            simp only [upd, if_neg he]
            exact stab _ _ _ _ (hV q hq hql) hst
        · intro q hq hql o ho e he hb
          rw [hset]
          split
          · rfl
          · rw [hset] at hql
            by_cases hqp : q = p.1
            · subst hqp
              exact ready_deps hi2.2 o ho e he hb
            · rw [if_neg hqp] at hql
              exact hcl q hq hql o ho e he hb
        · have hlt : openOf (listed.setIfInBounds p.1 true) rem + 1 = openOf listed rem := by
            unfold openOf
            have h1 : ∀ (qs : List (Nat × Option Tmp)), (qs.map (·.1)).Nodup → p ∈ qs → (qs.filter fun q => !(listed.setIfInBounds p.1 true).getD q.1 true).length + 1 = (qs.filter fun q => !listed.getD q.1 true).length := by
              intro qs hqn hpq
              have heq : ∀ (rs : List (Nat × Option Tmp)), p.1 ∉ rs.map (·.1) → (rs.filter fun q => !(listed.setIfInBounds p.1 true).getD q.1 true) = (rs.filter fun q => !listed.getD q.1 true) := by
                intro rs hrs
                refine List.filter_congr fun q hq => ?_
                have hne : q.1 ≠ p.1 := fun e => hrs (e ▸ List.mem_map.2 ⟨q, hq, rfl⟩)
                rw [hset, if_neg hne]
              induction qs with
              | nil => cases hpq
              | cons r rs ihr =>
                rcases List.mem_cons.1 hpq with rfl | hpq'
                · have := heq rs (List.nodup_cons.1 hqn).1
                  rw [List.filter_cons, List.filter_cons, this, hset, if_pos rfl, hil]
                  simp
                · have ih2 := ihr (List.nodup_cons.1 hqn).2 hpq'
                  have hne : r.1 ≠ p.1 := by
                    intro e
                    exact (List.nodup_cons.1 hqn).1 (List.mem_map.2 ⟨p, hpq', e.symm⟩)
                  rw [List.filter_cons, List.filter_cons, hset, if_neg hne]
                  split <;> (try simp only [List.length_cons]) <;> omega
            exact h1 rem hn hp
          omega
end
end Go.Proofs.Ytleckhbmciiooaa
