/-
  Steps of a region that draws its order, each operation by itself: loads, indexes, literals; values known ahead, and values told by a word.
-/
import Derived.Test.YtleckhbmciiooaaRegion
namespace Go.Proofs.Ytleckhbmciiooaa
open Go.RowKit

/-- what the operations yield: those whose value is known ahead (f), and the others (g) -/
def VF (f : Nat → Option Value) (g : Nat → Value → World → Prop) (i : Nat) (v : Value) (w : World) : Prop := match f i with
  | some c => v = c
  | none => g i v w
theorem VF.stab {f : Nat → Option Value} {g : Nat → Value → World → Prop} {Stab : World → World → Prop} (h : ∀ j v w w', f j = none → g j v w → Stab w w' → g j v w') (j : Nat) (v : Value) (w w' : World) (hv : VF f g j v w) (hs : Stab w w') : VF f g j v w' := by
  unfold VF at *
  cases hf : f j with
  | some c => rw [hf] at hv; exact hv
  | none => rw [hf] at hv; exact h j v w w' hf hv hs
theorem VF.k {f : Nat → Option Value} {g : Nat → Value → World → Prop} {i : Nat} {v c : Value} {w : World} (h : VF f g i v w) (hf : f i = some c) : v = c := by unfold VF at h; rw [hf] at h; exact h
theorem VF.g {f : Nat → Option Value} {g : Nat → Value → World → Prop} {i : Nat} {v : Value} {w : World} (h : VF f g i v w) (hf : f i = none) : g i v w := by unfold VF at h; rw [hf] at h; exact h
theorem VF.mk {f : Nat → Option Value} {g : Nat → Value → World → Prop} {i : Nat} {c : Value} {w : World} (hf : f i = some c) : VF f g i c w := by unfold VF; rw [hf]
theorem VF.mg {f : Nat → Option Value} {g : Nat → Value → World → Prop} {i : Nat} {v : Value} {w : World} (hf : f i = none) (h : g i v w) : VF f g i v w := by unfold VF; rw [hf]; exact h

/-- what an operation is, but for its place and its edges -/
def opAt (ops : Array Oper) (i : Nat) : Option (Option (Nat × Bool) × Op × TypeId × Option Tmp) := (ops[i]?).map fun o => (o.guard, o.op, o.type, o.dst)
def exec2 (ρ : Operand → Value) (op : Op) (t : TypeId) : Sem Next := execOp ρ { dst := none, op := op, type := t, pos := "", after := #[], guard := none }
theorem exec2_eq (ρ : Operand → Value) (o : Oper) : execOp ρ o = exec2 ρ o.op o.type := rfl
section
variable {P : Program} {ops : Array Oper} {i : Nat} {op : Op} {t : TypeId} {d : Option Tmp} {a : Act} {w w' : World} {K : Act → World → Prop} {Q : Exit → Act → World → Prop}
theorem op_any (hi : opAt ops i = some (none, op, t, d)) (h : ∀ o : Oper, o.op = op → o.type = t → o.dst = d → o.upon P a K Q ((exec2 a.eval op t).run P w)) : wpOp P ops Q i K a w := by
  unfold opAt at hi
  obtain ⟨o, ho, he⟩ := Option.map_eq_some_iff.1 hi
  simp only [Prod.mk.injEq] at he
  obtain ⟨h1, h2, h3, h4⟩ := he
  unfold wpOp
  simp only [ho]
  rw [if_pos (by simp [Region.wanted, h1])]
  refine .inl ?_
  rw [Oper.wp, exec2_eq, h2, h3]
  exact h o h2 h3 h4
theorem op_run (hi : opAt ops i = some (none, op, t, d)) (v : Value) (hrun : (exec2 a.eval op t).run P w = .ok (.value v) w') (hK : K (a.put d v) w') : wpOp P ops Q i K a w :=
  op_any hi fun o _ _ hd => by rw [hrun, Oper.upon_value, hd]; exact hK
theorem op_skip (hi : opAt ops i = some (none, op, t, d)) (hrun : (exec2 a.eval op t).run P w = .ok .skip w') (hK : K (a.put d undef) w') : wpOp P ops Q i K a w :=
  op_any hi fun o _ _ hd => by rw [hrun, Oper.upon_skip, hd]; exact hK
theorem op_ld {T : TypeId} {x : Operand} (hi : opAt ops i = some (none, .load T x, t, d)) (p : Value) (hx : a.eval x = p) (v : Value) (hrun : (Instr.loadAt T p).run P w = .ok v w) (hK : K (a.put d v) w) : wpOp P ops Q i K a w :=
  op_run hi v (by simp [exec2, execOp, hx, hrun]) hK
theorem op_ix {T : TypeId} {x y : Operand} (hi : opAt ops i = some (none, .indexAddr T x y, t, d)) (p q : Value) (hx : a.eval x = p) (hy : a.eval y = q) (v : Value) (hrun : (Instr.indexAt T p q).run P w = .ok v w) (hK : K (a.put d v) w) : wpOp P ops Q i K a w :=
  op_run hi v (by simp [exec2, execOp, hx, hy, hrun]) hK
theorem op_bs0 {T : TypeId} (hi : opAt ops i = some (none, .buildSlice T 0 #[], t, d)) (v : Value) (hrun : (Instr.buildSlice T 0 #[]).run P w = .ok v w') (hK : K (a.put d v) w') : wpOp P ops Q i K a w :=
  op_run hi v (by simp [exec2, execOp, hrun]) hK
theorem op_bs1 {T : TypeId} {x : Operand} (hi : opAt ops i = some (none, .buildSlice T 1 #[(0, x)], t, d)) (p : Value) (hx : a.eval x = p) (v : Value) (hrun : (Instr.buildSlice T 1 #[(0, p)]).run P w = .ok v w') (hK : K (a.put d v) w') : wpOp P ops Q i K a w :=
  op_run hi v (by simp [exec2, execOp, hx, hrun]) hK
theorem op_st {T : TypeId} {x y : Operand} (hi : opAt ops i = some (none, .store T x y, t, d)) (p v : Value) (hx : a.eval x = p) (hy : a.eval y = v) (hrun : (Instr.storeAt T p v).run P w = .ok () w') (hK : K (a.put d undef) w') : wpOp P ops Q i K a w :=
  op_skip hi (by simp [exec2, execOp, hx, hy, hrun]) hK
theorem op_mv {x : Operand} (hi : opAt ops i = some (none, .move x, t, d)) (v : Value) (hx : a.eval x = v) (hK : K (a.put d v) w) : wpOp P ops Q i K a w :=
  op_run hi v (by simp [exec2, execOp, hx]) hK
theorem op_as {x : Operand} (hi : opAt ops i = some (none, .assign x, t, d)) (v : Value) (hx : a.eval x = v) (hK : K (a.put d v) w) : wpOp P ops Q i K a w :=
  op_run hi v (by simp [exec2, execOp, hx]) hK
/-- append(s, x...) -/
theorem op_app {s x : Operand} {t1 t2 : TypeId} (hi : opAt ops i = some (none, .call { callee := .builtin .append, args := #[s, x], argTypes := #[t1, t2] }, t, d)) (p q : Value) (hs : a.eval s = p) (hx : a.eval x = q) (v : Value) (hrun : (Builtin.append_ #[t1, t2] t #[p, q]).run P w = .ok v w') (hK : K (a.put d v) w') : wpOp P ops Q i K a w :=
  op_run hi v (by simp [exec2, execOp, resolve, invoke, builtin, Sem.run_bind, Sem.run_pure, Result.andThen_ok, hs, hx, hrun]) hK
/-- a call of a Go function, of so many arguments: what they are, args says -/
theorem op_call {f : Nat} {xs : Array Operand} {ts : Array TypeId} (hi : opAt ops i = some (none, .call { callee := .value (.func f), args := xs, argTypes := ts }, t, d)) (args : Array Value) (hf : (callFunc f args).run P w = .ok (.enter f args) w) (hargs : xs.map a.eval = args) (R : Ending → World → Prop) (hc : Calls P f args w R) (hK : ∀ e w', R e w' → ∃ v, e = .returned v ∧ K (a.put d v) w') : wpOp P ops Q i K a w :=
  op_any hi fun o _ _ hd => by
    have e1 : (exec2 a.eval (.call { callee := .value (.func f), args := xs, argTypes := ts }) t).run P w = .ok (.enter f args) w := by
      simp [exec2, execOp, resolve, invoke, Sem.run_bind, Sem.run_pure, Result.andThen_ok, hargs, Deferred.ofValue, Act.eval, hf]
    rw [e1, Oper.upon_enter]
    refine hc.mono fun e w1 he => ?_
    obtain ⟨v, rfl, hk⟩ := hK e w1 he
    rw [hd]
    exact hk
/-- the same where a guard lets it -/
theorem op_anyG {g : Nat × Bool} (hi : opAt ops i = some (some g, op, t, d)) (hg : yielded ops a.tmps g.1 = some g.2) (h : ∀ o : Oper, o.op = op → o.type = t → o.dst = d → o.upon P a K Q ((exec2 a.eval op t).run P w)) : wpOp P ops Q i K a w := by
  unfold opAt at hi
  obtain ⟨o, ho, he⟩ := Option.map_eq_some_iff.1 hi
  simp only [Prod.mk.injEq] at he
  obtain ⟨h1, h2, h3, h4⟩ := he
  unfold wpOp
  simp only [ho]
  rw [if_pos (by simp [Region.wanted, h1, hg])]
  refine .inl ?_
  rw [Oper.wp, exec2_eq, h2, h3]
  exact h o h2 h3 h4
theorem op_ldG {g : Nat × Bool} {T : TypeId} {x : Operand} (hi : opAt ops i = some (some g, .load T x, t, d)) (hg : yielded ops a.tmps g.1 = some g.2) (p : Value) (hx : a.eval x = p) (v : Value) (hrun : (Instr.loadAt T p).run P w = .ok v w) (hK : K (a.put d v) w) : wpOp P ops Q i K a w :=
  op_anyG hi hg fun o _ _ hd => by
    have e1 : (exec2 a.eval (.load T x) t).run P w = .ok (.value v) w := by simp [exec2, execOp, hx, hrun]
    rw [e1, Oper.upon_value, hd]
    exact hK
theorem op_callG {g : Nat × Bool} {f : Nat} {xs : Array Operand} {ts : Array TypeId} (hi : opAt ops i = some (some g, .call { callee := .value (.func f), args := xs, argTypes := ts }, t, d)) (hg : yielded ops a.tmps g.1 = some g.2) (args : Array Value) (hf : (callFunc f args).run P w = .ok (.enter f args) w) (hargs : xs.map a.eval = args) (R : Ending → World → Prop) (hc : Calls P f args w R) (hK : ∀ e w', R e w' → ∃ v, e = .returned v ∧ K (a.put d v) w') : wpOp P ops Q i K a w :=
  op_anyG hi hg fun o _ _ hd => by
    have e1 : (exec2 a.eval (.call { callee := .value (.func f), args := xs, argTypes := ts }) t).run P w = .ok (.enter f args) w := by
      simp [exec2, execOp, resolve, invoke, Sem.run_bind, Sem.run_pure, Result.andThen_ok, hargs, Deferred.ofValue, Act.eval, hf]
    rw [e1, Oper.upon_enter]
    refine hc.mono fun e w1 he => ?_
    obtain ⟨v, rfl, hk⟩ := hK e w1 he
    rw [hd]
    exact hk
/-- take an operation first: of no guard; whose guard lets it; whose guard shuts it out -/
theorem wpAny_T {md : Region.Mode} {listed : Array Bool} {n : Nat} {v : Value} (hi : opAt ops i = some (none, op, t, d)) (hs : Region.noSelect ops = true) (hf : Region.free md ops listed i = true) (hr : (Region.ready md ops listed).contains i = true)
    (hQ : ∀ c a w, Q (.panic c) (a.put d v) w → Q (.panic c) a w) (hy : ∀ u, (exec2 a.eval op t).run P u = .ok (.value v) u) (h : wpAny P md ops Q n (listed.setIfInBounds i true) (a.put d v) w) : wpAny P md ops Q (n + 1) listed a w := by
  unfold opAt at hi
  obtain ⟨o, ho, he⟩ := Option.map_eq_some_iff.1 hi
  simp only [Prod.mk.injEq] at he
  obtain ⟨h1, rfl, rfl, rfl⟩ := he
  exact wpAny_take ho hs hf hr hQ (.inl ⟨by simp [Region.wanted, h1], hy⟩) h
theorem wpAny_G {md : Region.Mode} {listed : Array Bool} {n : Nat} {v : Value} {g : Nat × Bool} (hi : opAt ops i = some (some g, op, t, d)) (hs : Region.noSelect ops = true) (hf : Region.free md ops listed i = true) (hr : (Region.ready md ops listed).contains i = true)
    (hQ : ∀ c a w, Q (.panic c) (a.put d v) w → Q (.panic c) a w) (hg : yielded ops a.tmps g.1 = some g.2) (hy : ∀ u, (exec2 a.eval op t).run P u = .ok (.value v) u) (h : wpAny P md ops Q n (listed.setIfInBounds i true) (a.put d v) w) : wpAny P md ops Q (n + 1) listed a w := by
  unfold opAt at hi
  obtain ⟨o, ho, he⟩ := Option.map_eq_some_iff.1 hi
  simp only [Prod.mk.injEq] at he
  obtain ⟨h1, rfl, rfl, rfl⟩ := he
  exact wpAny_take ho hs hf hr hQ (.inl ⟨by simp [Region.wanted, h1, hg], hy⟩) h
theorem wpAny_S {md : Region.Mode} {listed : Array Bool} {n : Nat} {g : Nat × Bool} {b : Bool} (hi : opAt ops i = some (some g, op, t, d)) (hs : Region.noSelect ops = true) (hf : Region.free md ops listed i = true) (hr : (Region.ready md ops listed).contains i = true)
    (hQ : ∀ c a w, Q (.panic c) (a.put d undef) w → Q (.panic c) a w) (hg : yielded ops a.tmps g.1 = some b) (hb : (b != g.2) = true) (h : wpAny P md ops Q n (listed.setIfInBounds i true) (a.put d undef) w) : wpAny P md ops Q (n + 1) listed a w := by
  unfold opAt at hi
  obtain ⟨o, ho, he⟩ := Option.map_eq_some_iff.1 hi
  simp only [Prod.mk.injEq] at he
  obtain ⟨h1, rfl, rfl, rfl⟩ := he
  refine wpAny_take ho hs hf hr hQ (.inr ⟨?_, rfl⟩) h
  obtain ⟨g1, g2⟩ := g
  simp only at hg hb
  cases b <;> cases g2 <;> simp_all [Region.wanted]
theorem wpAny_one {md : Region.Mode} {listed : Array Bool} (i : Nat) (h1 : Region.ready md ops listed = [i]) (h2 : Region.ready md ops (listed.setIfInBounds i true) = []) (h : wpOp P ops Q i (fun a w => Q .normal a w) a w) : wpAny P md ops Q 1 listed a w :=
  ⟨fun h0 => absurd (h1.symm.trans h0) (by simp), fun j hj => by
    rw [h1] at hj
    obtain rfl : j = i := by simpa using hj
    exact wpOp_mono (fun _ _ hq => ⟨h2, hq⟩) h⟩
theorem wpAny_next {md : Region.Mode} {listed : Array Bool} {n : Nat} (i : Nat) (h1 : Region.ready md ops listed = [i]) (h : wpOp P ops Q i (wpAny P md ops Q n (listed.setIfInBounds i true)) a w) : wpAny P md ops Q (n + 1) listed a w :=
  ⟨fun h0 => absurd (h1.symm.trans h0) (by simp), fun j hj => by
    rw [h1] at hj
    obtain rfl : j = i := by simpa using hj
    exact h⟩
end
/-- x[lo:]: of elements of size cells each -/
theorem run_from {P : Program} {t e : TypeId} {i0 : TypeInfo} {size : Nat} (ht : P.underlying t = some (.slice e)) (hi : P.info? e = some i0) (hsz : i0.size = size) (A : Option Addr) (n c lo : Nat) (L : Int) (hL : L = (lo : Int)) (h1 : lo ≤ n) (h2 : n ≤ c) (u : World) :
    (Instr.sliceAt t (.slice A n c) (some (.int .i64 L)) none none).run P u = .ok (.slice (if c = lo then A else A.map (·.add (lo * size))) (n - lo) (c - lo)) u := by
  subst hL
  have he : P.elem t = e := by simp [Program.elem, ht]
  have h0 : (0 : Int) ≤ (lo : Int) ∧ (lo : Int) ≤ (n : Int) := by omega
  have ht' : P.underlying t = some (.slice (P.elem t)) := by rw [he]; exact ht
  simp [run_sliceAt_slice, ht', Instr.slice, run_underlying ht, Instr.sliceBounds, Instr.sliceBound, asIntOf, h0, h1, sizeOf, typeInfo, hi, hsz]
/-- what a slice expression yields, in whatever world -/
theorem yield_from {P : Program} {a : Act} {T t : TypeId} {x y : Operand} {X L v : Value} (hx : a.eval x = X) (hy : a.eval y = L) (hrun : ∀ u, (Instr.sliceAt T X (some L) none none).run P u = .ok v u) (u : World) : (exec2 a.eval (.slice T x (some y) none none) t).run P u = .ok (.value v) u := by
  simp [exec2, execOp, hx, hy, hrun]
theorem RdI.drop {w : World} {A : Option Addr} {xs : List Int} {c lo : Nat} (h : RdI w A xs) (h1 : lo ≤ xs.length) (h2 : xs.length ≤ c) : RdI w (if c = lo then A else A.map (·.add (lo * 1))) (xs.drop lo) := by
  by_cases hc : c = lo
  · left
    exact List.drop_of_length_le (by omega)
  · rw [if_neg hc]
    rcases h with rfl | ⟨b, off, rfl, hb, hcc⟩
    · left; simp
    · refine .inr ⟨b, off + lo, by simp [Addr.add], hb, fun j x hj => ?_⟩
      rw [List.getElem?_drop] at hj
      have := hcc (lo + j) x hj
      rwa [← Nat.add_assoc] at this
theorem Ints.drop {xs : List Int} (h : Ints xs) (n : Nat) : Ints (xs.drop n) := fun x hx => h x (List.mem_of_mem_drop hx)
end Go.Proofs.Ytleckhbmciiooaa
