/-
  An assignment by prices, plainly: the two loops of a round; how many are not seen yet.
-/
import Derived.Test.YtleckhbmciiooaaHungQ
import Derived.Test.YtleckhbmciiooaaArr
namespace Go.Proofs.Ytleckhbmciiooaa

/-- the columns below k have been looked at: sl is what they cost over the row of where one stands -/
structure LookR (n : Nat) (far : Int) (sl : Nat → Int) (S : Nat → Bool) (a : Nat) (least least' : Nat → Int) (frm frm' : Nat → Nat) (k next : Nat) (step : Int) : Prop where
  done : ∀ c, 1 ≤ c → c < k → S c = false → (sl c < least c ∧ least' c = sl c ∧ frm' c = a) ∨ (least c ≤ sl c ∧ least' c = least c ∧ frm' c = frm c)
  keep : ∀ c, c < 1 ∨ k ≤ c ∨ S c = true → least' c = least c ∧ frm' c = frm c
  best : (step = far ∧ next = 0 ∧ ∀ c, 1 ≤ c → c < k → S c = true) ∨ (1 ≤ next ∧ next < k ∧ S next = false ∧ step = least' next ∧ ∀ c, 1 ≤ c → c < k → S c = false → step ≤ least' c)
section
variable {n : Nat} {far : Int} {sl : Nat → Int} {S : Nat → Bool} {a : Nat} {least least' : Nat → Int} {frm frm' : Nat → Nat} {k next : Nat} {step : Int}
theorem LookR.start : LookR n far sl S a least least frm frm 1 0 far :=
  ⟨fun c h1 h2 => by omega, fun _ _ => ⟨rfl, rfl⟩, .inl ⟨rfl, rfl, fun c h1 h2 => by omega⟩⟩
theorem LookR.skip (h : LookR n far sl S a least least' frm frm' k next step) (hs : S k = true) : LookR n far sl S a least least' frm frm' (k + 1) next step := by
  have lt : ∀ c, c < k + 1 → c ≠ k → c < k := fun c h1 h2 => by omega
  refine ⟨fun c h1 h2 h3 => ?_, fun c hc => ?_, ?_⟩
  · refine h.done c h1 (lt c h2 ?_) h3
    rintro rfl
    rw [hs] at h3
    cases h3
  · refine h.keep c ?_
    rcases hc with hc | hc | hc
    · exact .inl hc
    · exact .inr (.inl (by omega))
    · exact .inr (.inr hc)
  · rcases h.best with ⟨b1, b2, b3⟩ | ⟨b1, b2, b3, b4, b5⟩
    · refine .inl ⟨b1, b2, fun c h1 h2 => ?_⟩
      by_cases e : c = k
      · rw [e]; exact hs
      · exact b3 c h1 (lt c h2 e)
    · refine .inr ⟨b1, by omega, b3, b4, fun c h1 h2 h3 => b5 c h1 (lt c h2 ?_) h3⟩
      rintro rfl
      rw [hs] at h3
      cases h3
/-- a column that isn't seen: its least one is what it was, or what it costs now -/
theorem LookR.look {l2 : Nat → Int} {f2 : Nat → Nat} {x : Int} (h : LookR n far sl S a least least' frm frm' k next step) (hs : S k = false) (k1 : 1 ≤ k) (hx : (sl k < least k ∧ x = sl k ∧ f2 k = a) ∨ (least k ≤ sl k ∧ x = least k ∧ f2 k = frm k))
    (hl : ∀ c, l2 c = if c = k then x else least' c) (hf : ∀ c, c ≠ k → f2 c = frm' c) (hfar : x < far) :
    (x < step → LookR n far sl S a least l2 frm f2 (k + 1) k x) ∧ (step ≤ x → LookR n far sl S a least l2 frm f2 (k + 1) next step) := by
  have d : ∀ c, 1 ≤ c → c < k + 1 → S c = false → (sl c < least c ∧ l2 c = sl c ∧ f2 c = a) ∨ (least c ≤ sl c ∧ l2 c = least c ∧ f2 c = frm c) := fun c h1 h2 h3 => by
    by_cases e : c = k
    · subst e
      rw [hl, if_pos rfl]
      exact hx
    · rw [hl, if_neg e, hf c e]
      exact h.done c h1 (by omega) h3
  have kp : ∀ c, c < 1 ∨ k + 1 ≤ c ∨ S c = true → l2 c = least c ∧ f2 c = frm c := fun c hc => by
    have e : c ≠ k := by
      rintro rfl
      rcases hc with hc | hc | hc
      · omega
      · omega
      · rw [hs] at hc
        cases hc
    rw [hl, if_neg e, hf c e]
    refine h.keep c ?_
    rcases hc with hc | hc | hc
    · exact .inl hc
    · exact .inr (.inl (by omega))
    · exact .inr (.inr hc)
  have ek : l2 k = x := by rw [hl, if_pos rfl]
  refine ⟨fun hlt => ⟨d, kp, .inr ⟨k1, by omega, hs, ek.symm, fun c h1 h2 h3 => ?_⟩⟩, fun hle => ⟨d, kp, ?_⟩⟩
  · by_cases e : c = k
    · subst e; omega
    · rw [hl, if_neg e]
      rcases h.best with ⟨b1, b2, b3⟩ | ⟨b1, b2, b3, b4, b5⟩
      · rw [b3 c h1 (by omega)] at h3
        cases h3
      · have := b5 c h1 (by omega) h3
        omega
  · rcases h.best with ⟨b1, b2, b3⟩ | ⟨b1, b2, b3, b4, b5⟩
    · omega
    · refine .inr ⟨b1, by omega, b3, ?_, fun c h1 h2 h3 => ?_⟩
      · rw [hl, if_neg (by omega)]
        exact b4
      · by_cases e : c = k
        · subst e; omega
        · rw [hl, if_neg e]
          exact b5 c h1 (by omega) h3
end
/-- the columns below k have been turned by a step -/
structure TurnR (S : Nat → Bool) (has : Nat → Nat) (step : Int) (u v least u' v' least' : Nat → Int) (k : Nat) : Prop where
  u : ∀ i, u' i = if ∃ s, s < k ∧ S s = true ∧ has s = i then u i + step else u i
  v : ∀ c, 1 ≤ c → v' c = if c < k ∧ S c = true then v c - step else v c
  l : ∀ c, least' c = if c < k ∧ S c = false then least c - step else least c
section
variable {S : Nat → Bool} {has : Nat → Nat} {step : Int} {u v least u' v' least' : Nat → Int} {k : Nat}
theorem TurnR.start : TurnR S has step u v least u v least 0 :=
  ⟨fun i => by rw [if_neg]; rintro ⟨s, h, _⟩; omega, fun c _ => by rw [if_neg (by omega)], fun c => by rw [if_neg (by omega)]⟩
theorem TurnR.seen {v2 : Nat → Int} (h : TurnR S has step u v least u' v' least' k) (hs : S k = true) (inj : ∀ s, s < k → S s = true → has s ≠ has k) (h2 : ∀ c, 1 ≤ c → v2 c = if c = k then v' k - step else v' c) :
    u' (has k) = u (has k) ∧ (1 ≤ k → v' k = v k) ∧ TurnR S has step u v least (fun i => if i = has k then u' (has k) + step else u' i) v2 least' (k + 1) := by
  have e1 : u' (has k) = u (has k) := by
    rw [h.u, if_neg]
    rintro ⟨s, a, b, c⟩
    exact inj s a b c
  refine ⟨e1, fun h1 => by rw [h.v k h1, if_neg (by omega)], ⟨fun i => ?_, fun c hc => ?_, fun c => ?_⟩⟩
  · by_cases e : i = has k
    · rw [if_pos e, e1, if_pos ⟨k, by omega, hs, e.symm⟩, e]
    · rw [if_neg e, h.u]
      by_cases hx : ∃ s, s < k ∧ S s = true ∧ has s = i
      · obtain ⟨s, a, b, c⟩ := hx
        rw [if_pos ⟨s, a, b, c⟩, if_pos ⟨s, by omega, b, c⟩]
      · rw [if_neg hx, if_neg]
        rintro ⟨s, a, b, c⟩
        by_cases e2 : s = k
        · subst e2; exact e c.symm
        · exact hx ⟨s, by omega, b, c⟩
  · rw [h2 c hc]
    by_cases e : c = k
    · subst e
      rw [if_pos rfl, if_pos ⟨by omega, hs⟩, h.v c hc, if_neg (by omega)]
    · rw [if_neg e, h.v c hc]
      by_cases h3 : c < k ∧ S c = true
      · rw [if_pos h3, if_pos ⟨by omega, h3.2⟩]
      · rw [if_neg h3, if_neg]
        rintro ⟨a, b⟩
        exact h3 ⟨by omega, b⟩
  · rw [h.l]
    by_cases e : c = k
    · subst e
      rw [if_neg (by omega), if_neg]
      rintro ⟨_, b⟩
      rw [hs] at b
      cases b
    · by_cases h3 : c < k ∧ S c = false
      · rw [if_pos h3, if_pos ⟨by omega, h3.2⟩]
      · rw [if_neg h3, if_neg]
        rintro ⟨a, b⟩
        exact h3 ⟨by omega, b⟩
theorem TurnR.unseen (h : TurnR S has step u v least u' v' least' k) (hs : S k = false) :
    least' k = least k ∧ TurnR S has step u v least u' v' (fun c => if c = k then least' k - step else least' c) (k + 1) := by
  have e1 : least' k = least k := by rw [h.l, if_neg (by omega)]
  refine ⟨e1, ⟨fun i => ?_, fun c hc => ?_, fun c => ?_⟩⟩
  · rw [h.u]
    by_cases hx : ∃ s, s < k ∧ S s = true ∧ has s = i
    · obtain ⟨s, a, b, c⟩ := hx
      rw [if_pos ⟨s, a, b, c⟩, if_pos ⟨s, by omega, b, c⟩]
    · rw [if_neg hx, if_neg]
      rintro ⟨s, a, b, c⟩
      by_cases e2 : s = k
      · subst e2
        rw [hs] at b
        cases b
      · exact hx ⟨s, by omega, b, c⟩
  · rw [h.v c hc]
    by_cases h3 : c < k ∧ S c = true
    · rw [if_pos h3, if_pos ⟨by omega, h3.2⟩]
    · rw [if_neg h3, if_neg]
      rintro ⟨a, b⟩
      by_cases e : c = k
      · subst e
        rw [hs] at b
        cases b
      · exact h3 ⟨by omega, b⟩
  · by_cases e : c = k
    · subst e
      rw [if_pos rfl, e1, if_pos ⟨by omega, hs⟩]
    · rw [if_neg e, h.l]
      by_cases h3 : c < k ∧ S c = false
      · rw [if_pos h3, if_pos ⟨by omega, h3.2⟩]
      · rw [if_neg h3, if_neg]
        rintro ⟨a, b⟩
        exact h3 ⟨by omega, b⟩
end
/-- how many truth values of a block are false -/
def leftB (w : World) (g : Nat) : Nat := match w.heap[g]? with
  | some (.cells cs _ _) => cs.toList.countP fun v => match v with | .bool b => !b | _ => false
  | _ => 0
theorem ArrB.left {w : World} {g n : Nat} {S : Nat → Bool} (h : ArrB w g n S) : leftB w g = (List.range n).countP fun i => !S i := by
  unfold ArrB Blk at h
  unfold leftB
  rw [h]
  simp only [List.countP_map]
  rfl
theorem countP_less {α : Type} {p q : α → Bool} {a : α} : ∀ {l : List α}, a ∈ l → p a = true → q a = false → (∀ x, q x = true → p x = true) → l.countP q < l.countP p
  | [], h, _, _, _ => by cases h
  | x :: l, h, hp, hq, hs => by
    have hle : l.countP q ≤ l.countP p := List.countP_mono_left fun y _ hy => hs y hy
    rw [List.countP_cons, List.countP_cons]
    rcases List.mem_cons.1 h with rfl | h
    · rw [hp, hq]
      simp
      omega
    · have ih := countP_less h hp hq hs
      have : (if q x = true then 1 else 0) ≤ (if p x = true then 1 else 0) := by
        cases hqx : q x
        · simp
        · rw [hs x hqx]
          simp
      omega
/-- who is seen now wasn't: fewer are left -/
theorem left_less {n a : Nat} {S S' : Nat → Bool} (ha : a < n) (h1 : S a = false) (h2 : ∀ i, S' i = if i = a then true else S i) : ((List.range n).countP fun i => !S' i) < (List.range n).countP fun i => !S i := by
  refine countP_less (a := a) (List.mem_range.2 ha) (by simp [h1]) (by simp [h2]) fun x hx => ?_
  rw [h2] at hx
  split at hx
  · simp at hx
  · exact hx
end Go.Proofs.Ytleckhbmciiooaa
