/-
  A statement whose order Go leaves open, by an invariant: what each operation yields, whenever it comes; nothing that another one makes is undone.
-/
import Derived.Test.YtleckhbmciiooaaK
import Derived.RegionTactic
namespace Go.Proofs.Ytleckhbmciiooaa
open Go.RowKit

/-- the frame a0 with the values u of the operations that are listed here -/
def putAll (a0 : Act) : List (Nat × Option Tmp) → (Nat → Value) → Act
  | [], _ => a0
  | p :: ps, u => (putAll a0 ps u).put p.2 (u p.1)
def upd (u : Nat → Value) (i : Nat) (v : Value) : Nat → Value := fun j => if j = i then v else u j

/-- the operations ahead of number i, of those that are not yet listed -/
def depsOf (ops : Array Oper) (rem : List (Nat × Option Tmp)) (i : Nat) : List Nat :=
  match ops[i]? with
  | none => []
  | some o => (o.after.toList.filter fun e => Region.binds .any e && (rem.map (·.1)).contains e.on).map (·.on)

theorem depIn {ops : Array Oper} {rem : List (Nat × Option Tmp)} {i j : Nat} (h : (depsOf ops rem i).contains j = true) : j ∈ depsOf ops rem i := by simpa using h

/-- the list is in form: each once, with its own slot, and just those that are not yet listed; what is ahead has a smaller number -/
def remOk (ops : Array Oper) (listed : Array Bool) (rem : List (Nat × Option Tmp)) : Bool :=
  decide ((rem.map (·.1)).Nodup) && decide ((rem.filterMap (·.2)).Nodup) && decide (listed.size = ops.size) &&
  rem.all (fun p => match ops[p.1]? with
    | none => false
    | some o => (o.dst == p.2) && o.after.all (fun e => !Region.binds .any e || decide (e.on < p.1))) &&
  (List.range ops.size).all (fun i => (listed.getD i true != (rem.map (·.1)).contains i))

theorem Act.put_put_ne (a : Act) {x y : Option Tmp} (v u : Value) (h : ∀ d, x = some d → y ≠ some d) : (a.put x v).put y u = (a.put y u).put x v := Act.put_comm a v u h
theorem Act.put_twice (a : Act) (x : Option Tmp) (v u : Value) : (a.put x v).put x u = a.put x u := by
  cases x with
  | none => rfl
  | some d => simp [Act.put, Array.setIfInBounds_setIfInBounds]

theorem putAll_upd (a0 : Act) (i : Nat) (d : Option Tmp) (u : Nat → Value) (v : Value) : ∀ (rem : List (Nat × Option Tmp)), (rem.map (·.1)).Nodup → (rem.filterMap (·.2)).Nodup → (i, d) ∈ rem →
    (putAll a0 rem u).put d v = putAll a0 rem (upd u i v)
  | [], _, _, h => by cases h
  | p :: ps, hn, hd, h => by
    have same : ∀ (qs : List (Nat × Option Tmp)), i ∉ qs.map (·.1) → putAll a0 qs (upd u i v) = putAll a0 qs u := by
      intro qs
      induction qs with
      | nil => intro _; rfl
      | cons q qs ih =>
        intro hq
        simp only [List.map_cons, List.mem_cons, not_or] at hq
        simp only [putAll, ih hq.2, upd, if_neg (Ne.symm hq.1)]
    rcases List.mem_cons.1 h with rfl | h'
    · have hni : i ∉ ps.map (·.1) := by simpa using (List.nodup_cons.1 hn).1
      simp only [putAll, same ps hni, upd, if_true]
      exact Act.put_twice _ _ _ _
    · have hpi : p.1 ≠ i := by
        rintro rfl
        exact (List.nodup_cons.1 hn).1 (List.mem_map.2 ⟨_, h', rfl⟩)
      have hd' : (ps.filterMap (·.2)).Nodup := by
        cases hp : p.2 with
        | none => simpa [List.filterMap_cons, hp] using hd
        | some t => rw [List.filterMap_cons, hp] at hd; exact (List.nodup_cons.1 hd).2
      have ih := putAll_upd a0 i d u v ps (List.nodup_cons.1 hn).2 hd' h'
      simp only [putAll, upd, if_neg hpi]
      rw [← ih]
      refine Act.put_put_ne _ _ _ ?_
      intro t ht hdt
      rw [List.filterMap_cons, ht] at hd
      exact (List.nodup_cons.1 hd).1 (List.mem_filterMap.2 ⟨(i, d), h', hdt⟩)
theorem put_same (a : Act) (d : Tmp) : a.put (some d) (a.tmps.getD d undef) = a := by
  have : a.tmps.setIfInBounds d (a.tmps.getD d undef) = a.tmps := by
    apply Array.ext_getElem?
    intro j
    rw [Array.getElem?_setIfInBounds]
    split
    · rename_i h
      subst h
      split
      · rename_i h; simp [Array.getD, h]
      · rename_i h; simp [Array.getElem?_eq_none (Nat.le_of_not_lt h)]
    · rfl
  show ({ a with tmps := a.tmps.setIfInBounds d (a.tmps.getD d undef) } : Act) = a
  rw [this]
theorem putAll_far (a0 : Act) (u : Nat → Value) (i : Nat) (v : Value) : ∀ (qs : List (Nat × Option Tmp)), i ∉ qs.map (·.1) → putAll a0 qs (upd u i v) = putAll a0 qs u
  | [], _ => rfl
  | q :: qs, hq => by
    simp only [List.map_cons, List.mem_cons, not_or] at hq
    simp only [putAll, putAll_far a0 u i v qs hq.2, upd, if_neg (Ne.symm hq.1)]
theorem putAll_self (a0 : Act) : ∀ (rem : List (Nat × Option Tmp)), (rem.map (·.1)).Nodup → ∃ u, putAll a0 rem u = a0
  | [], _ => ⟨fun _ => undef, rfl⟩
  | p :: ps, hn => by
    obtain ⟨u, hu⟩ := putAll_self a0 ps (List.nodup_cons.1 hn).2
    have hni : p.1 ∉ ps.map (·.1) := (List.nodup_cons.1 hn).1
    refine ⟨upd u p.1 (match p.2 with | some d => a0.tmps.getD d undef | none => undef), ?_⟩
    simp only [putAll, putAll_far a0 u _ _ ps hni, hu, upd, if_true]
    cases p.2 with
    | none => rfl
    | some d => exact put_same a0 d

section
variable {P : Program} {ops : Array Oper} {Q : Exit → Act → World → Prop}
/-- how many are not yet listed -/
def openOf (listed : Array Bool) (rem : List (Nat × Option Tmp)) : Nat := (rem.filter fun p => !listed.getD p.1 true).length

theorem wpAny_inv (rem : List (Nat × Option Tmp)) (R : World → Prop) (V : Nat → Value → World → Prop) (Stab : World → World → Prop) {listed0 : Array Bool} (hok : remOk ops listed0 rem = true)
    (stab : ∀ j v w w', V j v w → Stab w w' → V j v w')
    {a0 : Act}
    (step : ∀ p ∈ rem, ∀ u w, R w → (∀ j ∈ depsOf ops rem p.1, V j (u j) w) → ∀ K : Act → World → Prop, (∀ v w', V p.1 v w' → R w' → Stab w w' → K ((putAll a0 rem u).put p.2 v) w') → wpOp P ops Q p.1 K (putAll a0 rem u) w)
    (done : ∀ u w, R w → (∀ p ∈ rem, V p.1 (u p.1) w) → Q .normal (putAll a0 rem u) w) {w0 : World} (hR : R w0) {fuel : Nat} (hf : rem.length ≤ fuel) :
    wpAny P .any ops Q fuel listed0 a0 w0 := by
  simp only [remOk, Bool.and_eq_true, decide_eq_true_eq] at hok
  obtain ⟨⟨⟨⟨hn, hdn⟩, hsz⟩, hall⟩, hcomp⟩ := hok
  have hall := List.all_eq_true.1 hall
  have hcomp := List.all_eq_true.1 hcomp
  have hin : ∀ i, i < ops.size → (i ∈ rem.map (·.1) ∨ listed0.getD i true = true) := by
    intro i hi
    have := hcomp i (List.mem_range.2 hi)
    simp only [bne_iff_ne, ne_eq] at this
    cases h : listed0.getD i true with
    | true => exact .inr rfl
    | false => rw [h] at this; left; simpa using this
  have hmem : ∀ i ∈ rem.map (·.1), listed0.getD i true = false ∧ i < ops.size := by
    intro i hi
    obtain ⟨p, hp, rfl⟩ := List.mem_map.1 hi
    have h1 := hall p hp
    have hlt : p.1 < ops.size := by
      rcases Nat.lt_or_ge p.1 ops.size with h | h
      · exact h
      · rw [Array.getElem?_eq_none h] at h1; simp at h1
    have := hcomp p.1 (List.mem_range.2 hlt)
    have hc : (rem.map (·.1)).contains p.1 = true := by simpa using hi
    rw [hc] at this
    exact ⟨by simpa using this, hlt⟩
  -- the invariant
  suffices H : ∀ fuel (listed : Array Bool) (u : Nat → Value) (w : World), listed.size = ops.size → R w → (∀ i, i < ops.size → i ∉ rem.map (·.1) → listed.getD i true = true) →
      (∀ p ∈ rem, listed.getD p.1 true = true → V p.1 (u p.1) w) → openOf listed rem ≤ fuel → wpAny P .any ops Q fuel listed (putAll a0 rem u) w by
    obtain ⟨u, hu⟩ := putAll_self a0 rem hn
    have h := H fuel listed0 u w0 hsz hR (fun i hi hni => (hin i hi).resolve_left hni) (fun p hp hl => by
      have := (hmem p.1 (List.mem_map.2 ⟨p, hp, rfl⟩)).1
      rw [this] at hl
      cases hl) (Nat.le_trans (List.length_filter_le _ _) hf)
    rwa [hu] at h
  intro fuel
  induction fuel with
  | zero =>
    intro listed u w hs hRw hout hV hopen
    have hopen0 : openOf listed rem = 0 := Nat.le_zero.1 hopen
    have hall' : ∀ p ∈ rem, listed.getD p.1 true = true := by
      intro p hp
      simp only [openOf, List.length_eq_zero_iff, List.filter_eq_nil_iff, Bool.not_eq_true', Bool.not_eq_false] at hopen0
      exact hopen0 p hp
    refine ⟨?_, done u w hRw (fun p hp => hV p hp (hall' p hp))⟩
    refine List.filter_eq_nil_iff.2 ?_
    intro i hi
    have hi' := List.mem_range.1 hi
    have : listed.getD i true = true := by
      by_cases hr : i ∈ rem.map (·.1)
      · obtain ⟨p, hp, rfl⟩ := List.mem_map.1 hr
        exact hall' p hp
      · exact hout i hi' hr
    simp [this]
  | succ fuel ih =>
    intro listed u w hs hRw hout hV hopen
    constructor
    · intro hnil
      refine done u w hRw (fun p hp => hV p hp ?_)
      -- none is ready: all are listed
      have key : ∀ i, i < ops.size → listed.getD i true = true := by
        intro i
        induction i using Nat.strongRecOn with
        | _ i ihi =>
          intro hi
          by_cases hr : i ∈ rem.map (·.1)
          · obtain ⟨p, hp, rfl⟩ := List.mem_map.1 hr
            have h1 := hall p hp
            cases hl : listed.getD p.1 true with
            | true => rfl
            | false =>
              exfalso
              have hready : p.1 ∈ Region.ready .any ops listed := by
                refine List.mem_filter.2 ⟨List.mem_range.2 hi, ?_⟩
                rw [Array.getElem?_eq_getElem hi] at h1 ⊢
                simp only [Bool.and_eq_true, beq_iff_eq] at h1
                simp only [hl, Bool.not_false, Option.map_some, Option.getD_some, Bool.true_and]
                rw [Array.all_eq_true_iff_forall_mem] at h1 ⊢
                intro e he
                have := h1.2 e he
                cases hb : Region.binds .any e with
                | false => rfl
                | true =>
                  rw [hb] at this
                  simp only [Bool.not_true, Bool.false_or, decide_eq_true_eq] at this
                  have hh := ihi e.on this (by omega)
                  have : e.on < listed.size := by rw [hs]; omega
                  simp only [Array.getD, this, dif_pos] at hh ⊢
                  simpa using hh
              rw [hnil] at hready
              cases hready
          · exact hout i hi hr
      exact key p.1 (hmem p.1 (List.mem_map.2 ⟨p, hp, rfl⟩)).2
    · intro i hi
      obtain ⟨hi1, hi2⟩ := List.mem_filter.1 hi
      have hilt := List.mem_range.1 hi1
      simp only [Bool.and_eq_true] at hi2
      have hil : listed.getD i true = false := by simpa using hi2.1
      have hir : i ∈ rem.map (·.1) := by
        by_cases h : i ∈ rem.map (·.1)
        · exact h
        · have := hout i hilt h
          rw [this] at hil
          cases hil
      obtain ⟨p, hp, rfl⟩ := List.mem_map.1 hir
      refine step p hp u w hRw ?_ _ ?_
      · intro j hj
        rw [depsOf, Array.getElem?_eq_getElem hilt] at hj
        obtain ⟨e, he, rfl⟩ := List.mem_map.1 hj
        obtain ⟨he1, he2⟩ := List.mem_filter.1 he
        simp only [Bool.and_eq_true] at he2
        have hjr : e.on ∈ rem.map (·.1) := by simpa using he2.2
        obtain ⟨q, hq, hqe⟩ := List.mem_map.1 hjr
        rw [← hqe]
        refine hV q hq ?_
        have h3 := hi2.2
        rw [Array.getElem?_eq_getElem hilt] at h3
        simp only [Option.map_some, Option.getD_some, Array.all_eq_true_iff_forall_mem] at h3
        have := h3 e (by simpa using he1)
        rw [he2.1] at this
        simp only [Bool.not_true, Bool.false_or] at this
        rw [hqe]
        have hlt : e.on < listed.size := by rw [hs, ← hqe]; exact (hmem q.1 (List.mem_map.2 ⟨q, hq, rfl⟩)).2
        simp only [Array.getD, hlt, dif_pos] at this ⊢
        simpa using this
      · intro v w' hv hR' hst
        have hpp : (p.1, p.2) ∈ rem := hp
        rw [putAll_upd a0 p.1 p.2 u v rem hn hdn hpp]
        have hset : ∀ j, (listed.setIfInBounds p.1 true).getD j true = if j = p.1 then true else listed.getD j true := by
          intro j
          simp only [Array.getD_eq_getD_getElem?, Array.getElem?_setIfInBounds]
          by_cases hj : p.1 = j
          · subst hj
            simp
            split <;> simp
          · rw [if_neg hj, if_neg (Ne.symm hj)]
        refine ih _ _ _ (by simpa using hs) hR' ?_ ?_ ?_
        · intro j hj hjr
          rw [hset]
          split
          · rfl
          · exact hout j hj hjr
        · intro q hq hql
          rw [hset] at hql
          by_cases he : q.1 = p.1
          · rw [he]
            simpa [upd] using hv
          · rw [if_neg he] at hql
            simp only [upd, if_neg he]
            exact stab _ _ _ _ (hV q hq hql) hst
        · have hlt : openOf (listed.setIfInBounds p.1 true) rem < openOf listed rem := by
            unfold openOf
            have h1 : ∀ (qs : List (Nat × Option Tmp)), (qs.map (·.1)).Nodup → p ∈ qs → (qs.filter fun q => !(listed.setIfInBounds p.1 true).getD q.1 true).length < (qs.filter fun q => !listed.getD q.1 true).length := by
              intro qs hqn hpq
              have hle : ∀ (rs : List (Nat × Option Tmp)), (rs.filter fun q => !(listed.setIfInBounds p.1 true).getD q.1 true).length ≤ (rs.filter fun q => !listed.getD q.1 true).length := by
                intro rs
                induction rs with
                | nil => simp
                | cons r rs ihr =>
                  simp only [List.filter_cons, hset]
                  by_cases hr : r.1 = p.1
                  · simp only [hr, if_true, Bool.not_true, Bool.false_eq_true, if_false, hil, Bool.not_false, List.length_cons]
                    simp only [hset] at ihr
                    omega
                  · simp only [if_neg hr]
                    simp only [hset] at ihr
                    split <;> (try simp only [List.length_cons]) <;> omega
              induction qs with
              | nil => cases hpq
              | cons r rs ihr =>
                rcases List.mem_cons.1 hpq with rfl | hpq'
                · have := hle rs
                  simp only [List.filter_cons, hset, if_true, Bool.not_true, Bool.false_eq_true, if_false, hil, Bool.not_false, List.length_cons]
                  simp only [hset] at this
                  omega
                · have ih2 := ihr (List.nodup_cons.1 hqn).2 hpq'
                  have hne : r.1 ≠ p.1 := by
                    intro e
                    exact (List.nodup_cons.1 hqn).1 (List.mem_map.2 ⟨p, hpq', e.symm⟩)
                  simp only [List.filter_cons, hset, if_neg hne]
                  simp only [hset] at ih2
                  split <;> (try simp only [List.length_cons]) <;> omega
            exact h1 rem hn hp
          omega

/-- the same for a part of the operations; 'listed1': what is listed behind them -/
def coreOk (ops : Array Oper) (listed listed1 : Array Bool) (rem : List (Nat × Option Tmp)) : Bool :=
  decide ((rem.map (·.1)).Nodup) && decide ((rem.filterMap (·.2)).Nodup) && decide (listed.size = ops.size) && decide (listed1.size = ops.size) &&
  rem.all (fun p => match ops[p.1]? with
    | none => false
    | some o => (o.dst == p.2) && o.after.all (fun e => !Region.binds .any e || (decide (e.on < p.1) && ((rem.map (·.1)).contains e.on || listed.getD e.on true)))) &&
  (List.range ops.size).all (fun i => if (rem.map (·.1)).contains i then !listed.getD i true && listed1.getD i true
    else (listed1.getD i true == listed.getD i true) && (listed.getD i true || rem.all (fun p => match ops[i]? with
      | none => false
      | some o => o.after.any (fun e => Region.binds .any e && e.on == p.1)) || (match ops[i]? with
      | none => false
      | some o => o.after.any (fun e => Region.binds .any e && decide (e.on < ops.size) && !listed.getD e.on true && !(rem.map (·.1)).contains e.on))))

/-- .. of some of the operations alone: all that are left want all of them ahead -/
theorem wpAny_core (rem : List (Nat × Option Tmp)) (R : World → Prop) (V : Nat → Value → World → Prop) (Stab : World → World → Prop) {listed0 : Array Bool} (listed1 : Array Bool) (hok : coreOk ops listed0 listed1 rem = true)
    (stab : ∀ j v w w', V j v w → Stab w w' → V j v w')
    {a0 : Act}
    (step : ∀ p ∈ rem, ∀ u w, R w → (∀ j ∈ depsOf ops rem p.1, V j (u j) w) → ∀ K : Act → World → Prop, (∀ v w', V p.1 v w' → R w' → Stab w w' → K ((putAll a0 rem u).put p.2 v) w') → wpOp P ops Q p.1 K (putAll a0 rem u) w)
    (n : Nat) (done : ∀ u w, R w → (∀ p ∈ rem, V p.1 (u p.1) w) → wpAny P .any ops Q n listed1 (putAll a0 rem u) w) {w0 : World} (hR : R w0) :
    wpAny P .any ops Q (rem.length + n) listed0 a0 w0 := by
  simp only [coreOk, Bool.and_eq_true, decide_eq_true_eq] at hok
  obtain ⟨⟨⟨⟨⟨hn, hdn⟩, hsz⟩, hsz1⟩, hall⟩, hcomp⟩ := hok
  have hall := List.all_eq_true.1 hall
  have hcomp := List.all_eq_true.1 hcomp
  have hmem : ∀ i ∈ rem.map (·.1), listed0.getD i true = false ∧ i < ops.size := by
    intro i hi
    obtain ⟨p, hp, rfl⟩ := List.mem_map.1 hi
    have h1 := hall p hp
    have hlt : p.1 < ops.size := by
      rcases Nat.lt_or_ge p.1 ops.size with h | h
      · exact h
      · rw [Array.getElem?_eq_none h] at h1; simp at h1
    have := hcomp p.1 (List.mem_range.2 hlt)
    have hc : (rem.map (·.1)).contains p.1 = true := by simpa using hi
    rw [hc] at this
    simp only [if_true, Bool.and_eq_true, Bool.not_eq_true'] at this
    exact ⟨this.1, hlt⟩
  have hone : ∀ i ∈ rem.map (·.1), listed1.getD i true = true := by
    intro i hi
    have := hcomp i (List.mem_range.2 (hmem i hi).2)
    have hc : (rem.map (·.1)).contains i = true := by simpa using hi
    rw [hc] at this
    simp only [if_true, Bool.and_eq_true] at this
    exact this.2
  have hrest : ∀ i, i < ops.size → i ∉ rem.map (·.1) → listed1.getD i true = listed0.getD i true ∧ ((listed0.getD i true = true ∨ ∀ p ∈ rem, ∃ o, ops[i]? = some o ∧ ∃ e ∈ o.after.toList, Region.binds .any e = true ∧ e.on = p.1) ∨ ∃ o, ops[i]? = some o ∧ ∃ e ∈ o.after.toList, Region.binds .any e = true ∧ e.on < ops.size ∧ listed0.getD e.on true = false ∧ e.on ∉ rem.map (·.1)) := by
    intro i hi hni
    have := hcomp i (List.mem_range.2 hi)
    have hc : (rem.map (·.1)).contains i = false := by
      cases h : (rem.map (·.1)).contains i with
      | false => rfl
      | true => exact absurd (by simpa using h) hni
    rw [hc] at this
    simp only [Bool.false_eq_true, if_false, Bool.and_eq_true, beq_iff_eq, Bool.or_eq_true] at this
    refine ⟨this.1, ?_⟩
    rcases this.2 with (h | h) | h
    · exact .inl (.inl h)
    · refine .inl (.inr fun p hp => ?_)
      have h := List.all_eq_true.1 h p hp
      rw [Array.getElem?_eq_getElem hi] at h
      refine ⟨ops[i], Array.getElem?_eq_getElem hi, ?_⟩
      simp only [Array.any_toList.symm, List.any_eq_true, Bool.and_eq_true, beq_iff_eq] at h
      obtain ⟨e, he, h1, h2⟩ := h
      exact ⟨e, he, h1, h2⟩
    · right
      rw [Array.getElem?_eq_getElem hi] at h
      refine ⟨ops[i], Array.getElem?_eq_getElem hi, ?_⟩
      simp only [Array.any_toList.symm, List.any_eq_true, Bool.and_eq_true, decide_eq_true_eq, Bool.not_eq_true'] at h
      obtain ⟨e, he, ⟨⟨h1, h2⟩, h3⟩, h4⟩ := h
      exact ⟨e, he, h1, h2, h3, by simpa using h4⟩
  -- the invariant
  suffices H : ∀ k (listed : Array Bool) (u : Nat → Value) (w : World), listed.size = ops.size → R w → (∀ i, i < ops.size → i ∉ rem.map (·.1) → listed.getD i true = listed0.getD i true) →
      (∀ p ∈ rem, listed.getD p.1 true = true → V p.1 (u p.1) w) → openOf listed rem = k → wpAny P .any ops Q (k + n) listed (putAll a0 rem u) w by
    obtain ⟨u, hu⟩ := putAll_self a0 rem hn
    have hopen : openOf listed0 rem = rem.length := by
      unfold openOf
      rw [List.filter_eq_self.2]
      intro p hp
      simp [(hmem p.1 (List.mem_map.2 ⟨p, hp, rfl⟩)).1]
    have h := H rem.length listed0 u w0 hsz hR (fun i hi hni => rfl) (fun p hp hl => by
      have := (hmem p.1 (List.mem_map.2 ⟨p, hp, rfl⟩)).1
      rw [this] at hl
      cases hl) hopen
    rwa [hu] at h
  intro k
  induction k with
  | zero =>
    intro listed u w hs hRw hout hV hopen
    have hall' : ∀ p ∈ rem, listed.getD p.1 true = true := by
      intro p hp
      simp only [openOf, List.length_eq_zero_iff, List.filter_eq_nil_iff, Bool.not_eq_true', Bool.not_eq_false] at hopen
      exact hopen p hp
    have hl : listed = listed1 := by
      apply Array.ext
      · rw [hs, hsz1]
      · intro i h1 h2
        have : listed.getD i true = listed1.getD i true := by
          by_cases hr : i ∈ rem.map (·.1)
          · rw [hone i hr]
            obtain ⟨p, hp, rfl⟩ := List.mem_map.1 hr
            exact hall' p hp
          · rw [hout i (by omega) hr, (hrest i (by omega) hr).1]
        simpa [Array.getD, h1, h2] using this
    rw [hl, Nat.zero_add]
    exact done u w hRw (fun p hp => hV p hp (hall' p hp))
  | succ k ih =>
    intro listed u w hs hRw hout hV hopen
    rw [Nat.add_right_comm]
    -- one of the list is not yet listed: none of the others is ready
    have hsome : ∃ p ∈ rem, listed.getD p.1 true = false := by
      have : (rem.filter fun p => !listed.getD p.1 true) ≠ [] := by
        intro h
        simp only [openOf, h, List.length_nil] at hopen
        omega
      obtain ⟨p, hp⟩ := List.exists_mem_of_ne_nil _ this
      obtain ⟨h1, h2⟩ := List.mem_filter.1 hp
      exact ⟨p, h1, by simpa using h2⟩
    have hno : ∀ i, i ∈ Region.ready .any ops listed → i ∈ rem.map (·.1) := by
      intro i hi
      obtain ⟨hi1, hi2⟩ := List.mem_filter.1 hi
      have hilt := List.mem_range.1 hi1
      simp only [Bool.and_eq_true] at hi2
      have hil : listed.getD i true = false := by simpa using hi2.1
      by_cases hr : i ∈ rem.map (·.1)
      · exact hr
      · exfalso
        obtain ⟨h1, h2⟩ := hrest i hilt hr
        rw [hout i hilt hr] at hil
        rcases h2 with (h2 | h2) | h2
        · rw [h2] at hil; cases hil
        rotate_left
        · obtain ⟨o, ho, e, he, hb, hsz2, hl0, hnr⟩ := h2
          have h3 := hi2.2
          rw [ho] at h3
          simp only [Option.map_some, Option.getD_some, Array.all_eq_true_iff_forall_mem] at h3
          have := h3 e (by simpa using he)
          rw [hb] at this
          simp only [Bool.not_true, Bool.false_or] at this
          have hlt : e.on < listed.size := by rw [hs]; exact hsz2
          have e1 : listed.getD e.on false = listed.getD e.on true := by simp only [Array.getD, hlt, dif_pos]
          rw [e1, hout e.on hsz2 hnr, hl0] at this
          cases this
        · obtain ⟨p, hp, hpl⟩ := hsome
          obtain ⟨o, ho, e, he, hb, heo⟩ := h2 p hp
          have h3 := hi2.2
          rw [ho] at h3
          simp only [Option.map_some, Option.getD_some, Array.all_eq_true_iff_forall_mem] at h3
          have := h3 e (by simpa using he)
          rw [hb, heo] at this
          simp only [Bool.not_true, Bool.false_or] at this
          have hlt : p.1 < listed.size := by rw [hs]; exact (hmem p.1 (List.mem_map.2 ⟨p, hp, rfl⟩)).2
          have e1 : listed.getD p.1 false = listed.getD p.1 true := by simp only [Array.getD, hlt, dif_pos]
          rw [e1, hpl] at this
          cases this
    constructor
    · intro hnil
      -- the least one that is not listed is ready
      exfalso
      have key : ∀ i, i < ops.size → i ∈ rem.map (·.1) → listed.getD i true = true := by
        intro i
        induction i using Nat.strongRecOn with
        | _ i ihi =>
          intro hi hr
          obtain ⟨p, hp, rfl⟩ := List.mem_map.1 hr
          have h1 := hall p hp
          cases hl : listed.getD p.1 true with
          | true => rfl
          | false =>
            exfalso
            have hready : p.1 ∈ Region.ready .any ops listed := by
              refine List.mem_filter.2 ⟨List.mem_range.2 hi, ?_⟩
              rw [Array.getElem?_eq_getElem hi] at h1 ⊢
              simp only [Bool.and_eq_true, beq_iff_eq] at h1
              simp only [hl, Bool.not_false, Option.map_some, Option.getD_some, Bool.true_and]
              rw [Array.all_eq_true_iff_forall_mem] at h1 ⊢
              intro e he
              have := h1.2 e he
              cases hb : Region.binds .any e with
              | false => rfl
              | true =>
                rw [hb] at this
                simp only [Bool.not_true, Bool.false_or, Bool.and_eq_true, decide_eq_true_eq, Bool.or_eq_true] at this
                have hlt : e.on < listed.size := by rw [hs]; omega
                have hh : listed.getD e.on true = true := by
                  rcases this.2 with h | h
                  · exact ihi e.on this.1 (by omega) (by simpa using h)
                  · by_cases hr' : e.on ∈ rem.map (·.1)
                    · exact ihi e.on this.1 (by omega) hr'
                    · rw [hout e.on (by omega) hr']; exact h
                simp only [Array.getD, hlt, dif_pos] at hh ⊢
                simpa using hh
            rw [hnil] at hready
            cases hready
      obtain ⟨p, hp, hpl⟩ := hsome
      have := key p.1 (hmem p.1 (List.mem_map.2 ⟨p, hp, rfl⟩)).2 (List.mem_map.2 ⟨p, hp, rfl⟩)
      rw [this] at hpl
      cases hpl
    · intro i hi
      have hir := hno i hi
      obtain ⟨hi1, hi2⟩ := List.mem_filter.1 hi
      have hilt := List.mem_range.1 hi1
      simp only [Bool.and_eq_true] at hi2
      have hil : listed.getD i true = false := by simpa using hi2.1
      obtain ⟨p, hp, rfl⟩ := List.mem_map.1 hir
      refine step p hp u w hRw ?_ _ ?_
      · intro j hj
        rw [depsOf, Array.getElem?_eq_getElem hilt] at hj
        obtain ⟨e, he, rfl⟩ := List.mem_map.1 hj
        obtain ⟨he1, he2⟩ := List.mem_filter.1 he
        simp only [Bool.and_eq_true] at he2
        have hjr : e.on ∈ rem.map (·.1) := by simpa using he2.2
        obtain ⟨q, hq, hqe⟩ := List.mem_map.1 hjr
        rw [← hqe]
        refine hV q hq ?_
        have h3 := hi2.2
        rw [Array.getElem?_eq_getElem hilt] at h3
        simp only [Option.map_some, Option.getD_some, Array.all_eq_true_iff_forall_mem] at h3
        have := h3 e (by simpa using he1)
        rw [he2.1] at this
        simp only [Bool.not_true, Bool.false_or] at this
        rw [hqe]
        have hlt : e.on < listed.size := by rw [hs, ← hqe]; exact (hmem q.1 (List.mem_map.2 ⟨q, hq, rfl⟩)).2
        simp only [Array.getD, hlt, dif_pos] at this ⊢
        simpa using this
      · intro v w' hv hR' hst
        have hpp : (p.1, p.2) ∈ rem := hp
        rw [putAll_upd a0 p.1 p.2 u v rem hn hdn hpp]
        have hset : ∀ j, (listed.setIfInBounds p.1 true).getD j true = if j = p.1 then true else listed.getD j true := by
          intro j
          simp only [Array.getD_eq_getD_getElem?, Array.getElem?_setIfInBounds]
          by_cases hj : p.1 = j
          · subst hj
            simp
            split <;> simp
          · rw [if_neg hj, if_neg (Ne.symm hj)]
        refine ih _ _ _ (by simpa using hs) hR' ?_ ?_ ?_
        · intro j hj hjr
          have hjp : ¬ j = p.1 := fun e => hjr (by rw [e]; exact List.mem_map.2 ⟨p, hp, rfl⟩)
          rw [hset, if_neg hjp]
          exact hout j hj hjr
        · intro q hq hql
          rw [hset] at hql
          by_cases he : q.1 = p.1
          · rw [he]
            simpa [upd] using hv
          · rw [if_neg he] at hql
            simp only [upd, if_neg he]
            exact stab _ _ _ _ (hV q hq hql) hst
        · have hlt : openOf (listed.setIfInBounds p.1 true) rem + 1 = openOf listed rem := by
            unfold openOf
            have h1 : ∀ (qs : List (Nat × Option Tmp)), (qs.map (·.1)).Nodup → p ∈ qs → (qs.filter fun q => !(listed.setIfInBounds p.1 true).getD q.1 true).length + 1 = (qs.filter fun q => !listed.getD q.1 true).length := by
              intro qs hqn hpq
              have heq : ∀ (rs : List (Nat × Option Tmp)), p.1 ∉ rs.map (·.1) → (rs.filter fun q => !(listed.setIfInBounds p.1 true).getD q.1 true) = (rs.filter fun q => !listed.getD q.1 true) := by
                intro rs hrs
                refine List.filter_congr fun q hq => ?_
                have hne : q.1 ≠ p.1 := fun e => hrs (e ▸ List.mem_map.2 ⟨q, hq, rfl⟩)
                rw [hset, if_neg hne]
              induction qs with
              | nil => cases hpq
              | cons r rs ihr =>
                rcases List.mem_cons.1 hpq with rfl | hpq'
                · have := heq rs (List.nodup_cons.1 hqn).1
                  rw [List.filter_cons, List.filter_cons, this, hset, if_pos rfl, hil]
                  simp
                · have ih2 := ihr (List.nodup_cons.1 hqn).2 hpq'
                  have hne : r.1 ≠ p.1 := by
                    intro e
                    exact (List.nodup_cons.1 hqn).1 (List.mem_map.2 ⟨p, hpq', e.symm⟩)
                  rw [List.filter_cons, List.filter_cons, hset, if_neg hne]
                  split <;> (try simp only [List.length_cons]) <;> omega
            exact h1 rem hn hp
          omega
end

section
variable {P : Program} {ops : Array Oper} {Q : Exit → Act → World → Prop}
/-- operations that only read, of which it is known what each yields -/
theorem wpAny_reads (rem : List (Nat × Option Tmp)) (f : Nat → Value) {listed0 : Array Bool} (listed1 : Array Bool) (hok : coreOk ops listed0 listed1 rem = true) {a0 : Act} {w : World} {n : Nat}
    (step : ∀ p ∈ rem, ∀ u : Nat → Value, (∀ j ∈ depsOf ops rem p.1, u j = f j) → ∀ K : Act → World → Prop, K ((putAll a0 rem u).put p.2 (f p.1)) w → wpOp P ops Q p.1 K (putAll a0 rem u) w)
    (done : wpAny P .any ops Q n listed1 (putAll a0 rem f) w) : wpAny P .any ops Q (rem.length + n) listed0 a0 w := by
  refine wpAny_core rem (fun w' => w' = w) (fun i v _ => v = f i) (fun _ _ => True) listed1 hok (fun _ _ _ _ h _ => h) ?_ n ?_ rfl
  · rintro p hp u w' rfl hD K hK
    exact step p hp u hD K (hK _ _ rfl rfl trivial)
  · rintro u w' rfl hV
    have : ∀ qs : List (Nat × Option Tmp), (∀ p ∈ qs, u p.1 = f p.1) → putAll a0 qs u = putAll a0 qs f := by
      intro qs
      induction qs with
      | nil => intro _; rfl
      | cons q qs ih =>
        intro h
        simp only [putAll, ih (fun p hp => h p (List.mem_cons_of_mem _ hp)), h q List.mem_cons_self]
    rw [this rem hV]
    exact done
end
theorem cast_K {K : Act → World → Prop} {a b : Act} {w : World} (h : K a w) (e : a = b) : K b w := e ▸ h
section
variable {P : Program} {ops : Array Oper} {o : Oper} {a : Act} {w w' : World} {K : Act → World → Prop} {Q : Exit → Act → World → Prop} {E : Prop}
/-- an operation that yields a value -/
theorem step_run (hgd : o.guard = none) (v : Value) (hrun : (execOp a.eval o).run P w = .ok (.value v) w') (hK : K (a.put o.dst v) w') : if Region.wanted o (yielded ops a.tmps) = true then Oper.wp P o a w K Q else E := by
  have hw : Region.wanted o (yielded ops a.tmps) = true := by simp [Region.wanted, hgd]
  rw [if_pos hw, Oper.wp, hrun]
  exact hK
theorem step_assign (hgd : o.guard = none) (x : Operand) (ho : o.op = .assign x) (v : Value) (hx : a.eval x = v) (hK : K (a.put o.dst v) w) : if Region.wanted o (yielded ops a.tmps) = true then Oper.wp P o a w K Q else E :=
  step_run hgd v (by simp [execOp, ho, hx]) hK
/-- a slice literal of nothing -/
theorem step_build0 (hgd : o.guard = none) (t e : TypeId) (i : TypeInfo) (ho : o.op = .buildSlice t 0 #[]) (ht : P.underlying t = some (.slice e)) (hi : P.info? e = some i) (hz : ∃ z, i.zero = some z) (hK : K (a.put o.dst (.slice (some ⟨w.heap.size, 0, none⟩) 0 0)) (w.alloc (.cells #[] e))) : if Region.wanted o (yielded ops a.tmps) = true then Oper.wp P o a w K Q else E := by
  obtain ⟨z, hz⟩ := hz
  refine step_run hgd (.slice (some ⟨w.heap.size, 0, none⟩) 0 0) ?_ hK
  simp [execOp, ho, Instr.buildSlice, run_underlying ht, sizeOf, typeInfo, hi, zeroValue, hz, newRow, Instr.fill, Array.range_zero']
end
end Go.Proofs.Ytleckhbmciiooaa
