/-
  A region that draws its order, inside a fence that bars nothing: the laws of a walk outside a fence serve.
-/
import Derived.Test.YtpngflmngnjjoaaDoorAssignW1
namespace Go.Proofs.YtpngflmngnjjoaaDoor
open Go

/-- only what ends as it should -/
def onNormal (K : Act → World → Prop) : Exit → Act → World → Prop
  | .normal, a, w => K a w
  | _, _, _ => False
theorem onNormal_i {K : Act → World → Prop} {a : Act} {w : World} (h : K a w) : onNormal K .normal a w := h
theorem onNormal_out {K : Act → World → Prop} (h : LetsOut (onNormal K)) : False := by
  obtain ⟨a, w, h⟩ := h
  exact h
section
variable {F : Fence} {n : Nat} {P : Program} {ops : Array Oper} {Q : Exit → Act → World → Prop} {K : Act → World → Prop}
theorem fenced_open (h1 : ∀ f, F.fn f) (h2 : F.depth = none) (h3 : F.alive = false) (m : Machine) : m.fenced P F := by
  intro g _
  refine ⟨fun h => ?_, Or.inl (h1 _), fun _ _ => h1 _, fun _ h => ?_⟩
  · rw [h3] at h; cases h
  · rw [h2] at h; cases h
theorem callsIn_open (h1 : ∀ f, F.fn f) (h2 : F.depth = none) (h3 : F.alive = false) {f : FuncId} {args : Array Value} {w : World} {R : Ending → World → Prop} (h : Calls P f args w R) : CallsIn F n P f args w R := by
  refine ⟨h1 _, fun cs _ => ?_⟩
  obtain ⟨e, w', fr, r, s, x⟩ := h cs
  refine ⟨e, w', fr, r, ?_, x⟩
  cases e with
  | returned v => exact (StepsIn.of_steps s).mono fun m _ => fenced_open h1 h2 h3 m
  | panicked chain => exact (StepsIn.of_steps s).mono fun m _ => fenced_open h1 h2 h3 m
  | outgrown => exact s
theorem rowsIn_open (h1 : ∀ f, F.fn f) (h2 : F.depth = none) (h3 : F.alive = false) {row : String} {args : Array Value} {w : World} {R : Value → World → Prop} (h : Rows P row args w R) : RowsIn F n P row args w R := by
  intro c cs _
  obtain ⟨v, w', r, s⟩ := h c cs
  exact ⟨v, w', r, (StepsIn.of_steps s).mono fun m _ => fenced_open h1 h2 h3 m⟩
theorem wpIn_of_wp {o : Oper} {a : Act} {w : World} {K1 K2 : Act → World → Prop} (hd : ∀ c, o.op ≠ .defer c) (h1 : ∀ f, F.fn f) (h2 : F.depth = none) (h3 : F.alive = false) (hK : ∀ a w, K1 a w → K2 a w)
    (h : o.wp P a w K1 (onNormal K)) : o.wpIn F n P a w K2 Q := by
  unfold Oper.wpIn
  refine ⟨fun f _ => h1 f, ?_⟩
  rw [Oper.semAt_eq _ _ _ hd]
  unfold Oper.wp at h
  generalize (execOp a.eval o).run P w = r at *
  cases r with
  | ok x w' =>
    cases x <;> simp only [Oper.upon] at h <;> simp only [Oper.uponIn]
    case value => exact hK _ _ h
    case skip => exact hK _ _ h
    case defer => exact hK _ _ h
    case enter f args =>
      refine ⟨fun h => (by rw [h2] at h; cases h), (callsIn_open h1 h2 h3 h).mono fun e w'' he => ?_⟩
      cases e with
      | returned v => exact hK _ _ he
      | panicked chain => exact he.elim
      | outgrown => exact (onNormal_out he).elim
    case row row args =>
      exact ⟨fun h => (by rw [h2] at h; cases h), (rowsIn_open h1 h2 h3 h).mono fun v w'' he => hK _ _ he⟩
  | halt x w' =>
    cases x <;> simp only [Oper.upon] at h
    exact h.elim
theorem wpAnyIn_of_wpAny {md : Region.Mode} (hd : ∀ (i : Nat) (o : Oper), ops[i]? = some o → ∀ c, o.op ≠ .defer c) (h1 : ∀ f, F.fn f) (h2 : F.depth = none) (h3 : F.alive = false) :
    ∀ (fuel : Nat) (listed : Array Bool) (a : Act) (w : World), wpAny P md ops (onNormal (Q .normal)) fuel listed a w → wpAnyIn F n P md ops Q fuel listed a w
  | 0, _, _, _, h => ⟨h.1, h.2⟩
  | fuel + 1, _, _, _, h => by
    refine ⟨fun h0 => h.1 h0, fun i hi => ?_⟩
    have h4 := h.2 i hi
    unfold wpOp at h4
    unfold wpOpIn
    split
    · rename_i ho
      simp only [ho] at h4
      exact wpAnyIn_of_wpAny hd h1 h2 h3 fuel _ _ _ h4
    · rename_i o ho
      simp only [ho] at h4
      split
      · rename_i hw
        simp only [hw, if_true] at h4
        rcases h4 with h4 | h4
        · exact wpIn_of_wp (hd i o ho) h1 h2 h3 (fun a w h => wpAnyIn_of_wpAny hd h1 h2 h3 fuel _ a w h) h4
        · exact (onNormal_out h4.2).elim
      · rename_i hw
        simp only [hw] at h4
        exact ⟨fun f _ => h1 f, wpAnyIn_of_wpAny hd h1 h2 h3 fuel _ _ _ h4⟩
theorem wpIn_region_open {id : Nat} {a : Act} {w : World} {l : List Oper} (hm : P.follows .mixedOrders = true) (hd : l.all (fun o => !isDefer o) = true) (h1 : ∀ f, F.fn f) (h2 : F.depth = none) (h3 : F.alive = false)
    (h : wpAny P .any l.toArray (onNormal (Q .normal)) l.toArray.size (Array.replicate l.toArray.size false) a w.drew) : (Code.region id l.toArray true).wpIn F n P Q a w := by
  refine wpIn_region_any hm (wpAnyIn_of_wpAny ?_ h1 h2 h3 _ _ _ _ h)
  intro i o ho c hc
  have h1 : o ∈ l := by
    have h2 : l[i]? = some o := by simpa using ho
    exact List.mem_of_getElem? h2
  have h3 := List.all_eq_true.1 hd o h1
  obtain ⟨dst, op, ty, pos, af, gu⟩ := o
  simp only at hc
  subst hc
  simp [isDefer] at h3
end
section
variable {P : Program} {ops : Array Oper} {Q : Exit → Act → World → Prop}
/-- operations that only read, of which it is known what each yields; what is left may wait for them through others -/
theorem wpAny_reads2 (rem : List (Nat × Option Tmp)) (f : Nat → Value) {listed0 : Array Bool} (listed1 : Array Bool) (hok : coreOk2 ops listed0 listed1 rem = true) {a0 : Act} {w : World} {n : Nat}
    (step : ∀ p ∈ rem, ∀ u : Nat → Value, (∀ j ∈ depsOf ops rem p.1, u j = f j) → ∀ K : Act → World → Prop, K ((putAll a0 rem u).put p.2 (f p.1)) w → wpOp P ops Q p.1 K (putAll a0 rem u) w)
    (done : wpAny P .any ops Q n listed1 (putAll a0 rem f) w) : wpAny P .any ops Q (rem.length + n) listed0 a0 w := by
  refine wpAny_core2 rem (fun w' => w' = w) (fun i v _ => v = f i) (fun _ _ => True) listed1 hok (fun _ _ _ _ h _ => h) ?_ n ?_ rfl
  · rintro p hp u w' rfl hD K hK
    exact step p hp u hD K (hK _ _ rfl rfl trivial)
  · rintro u w' rfl hV
    have : ∀ qs : List (Nat × Option Tmp), (∀ p ∈ qs, u p.1 = f p.1) → putAll a0 qs u = putAll a0 qs f := by
      intro qs
      induction qs with
      | nil => intro _; rfl
      | cons q qs ih =>
        intro h
        simp only [putAll, ih (fun p hp => h p (List.mem_cons_of_mem _ hp)), h q List.mem_cons_self]
    rw [this rem hV]
    exact done
end
end Go.Proofs.YtpngflmngnjjoaaDoor
