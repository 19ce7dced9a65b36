/-
  log.Join: its comparison, its sort, what it answers.
-/
import Derived.Test.YtpngflmngnjjoaaRecF
import Derived.Test.YtpngflmngnjjoaaLogD
namespace Go.Proofs.Ytpngflmngnjjoaa
open Go.RowKit Go.ChangeShapes Go.WideShapes Go.ChangeAt Go.Deep

theorem ahd_asym : ∀ (p q : List Int), ahd p q = true → ahd q p = false
  | [], [], h => by simp [ahd] at h
  | [], _ :: _, _ => rfl
  | _ :: _, [], h => by simp [ahd] at h
  | x :: p, y :: q, h => by
    by_cases e : x = y
    · subst e
      simp [ahd] at h ⊢
      exact ahd_asym p q h
    · have e' : ¬ y = x := fun z => e z.symm
      simp [ahd, e] at h
      simp [ahd, e']
      omega
theorem ahd_neg : ∀ (p q r : List Int), ahd p r = true → ahd p q = true ∨ ahd q r = true
  | [], [], _, h => .inr h
  | [], _ :: _, _, _ => .inl rfl
  | _ :: _, _, [], h => by simp [ahd] at h
  | _ :: _, [], _ :: _, _ => .inr rfl
  | x :: p, y :: q, z :: r, h => by
    rcases Int.lt_trichotomy x y with a | rfl | a
    · left
      simp [ahd, show ¬ x = y by omega, a]
    · by_cases e : x = z
      · subst e
        simp [ahd] at h ⊢
        exact ahd_neg p q r h
      · simp [ahd, e] at h ⊢
        exact .inr h
    · right
      by_cases e : x = z
      · subst e
        simp [ahd, show ¬ y = x by omega, a]
      · simp [ahd, e] at h
        simp [ahd, show ¬ y = z by omega]
        omega
def recAt (rs : List Rec) (i : Nat) : Rec := rs.getD i ⟨0, []⟩
theorem recAt_get {rs : List Rec} {i : Nat} (hi : i < rs.length) : rs[i]? = some (recAt rs i) := by simp [recAt, hi]
theorem recAt_mem {rs : List Rec} {i : Nat} (hi : i < rs.length) : recAt rs i ∈ rs := List.mem_of_getElem? (recAt_get hi)
def cfR (rs : List Rec) (x y : Nat) : Int := cmpL (recAt rs x).path (recAt rs y).path
theorem ltR_eq (rs : List Rec) (x y : Nat) : ltC (cfR rs) x y = ahd (recAt rs x).path (recAt rs y).path := cmpL_ahd _ _
theorem weakR (rs : List Rec) : Weak (ltC (cfR rs)) := ⟨fun a b h => by rw [ltR_eq] at *; exact ahd_asym _ _ h, fun a b c h => by rw [ltR_eq] at *; rw [ltR_eq]; exact ahd_neg _ _ _ h⟩
/-- records, in order -/
def sortI (rs : List Rec) : List Nat := sortP (ltC (cfR rs)) (List.range rs.length)
def sortedR (rs : List Rec) : List Rec := (sortI rs).map (recAt rs)
theorem sortI_len (rs : List Rec) : (sortI rs).length = rs.length := by rw [sortI, sortP_len, List.length_range]
theorem sortedR_len (rs : List Rec) : (sortedR rs).length = rs.length := by rw [sortedR, List.length_map, sortI_len]
theorem range_rise (n : Nat) : (List.range n).Pairwise (· < ·) := List.pairwise_lt_range
theorem sortI_mem {rs : List Rec} {x : Nat} (h : x ∈ sortI rs) : x < rs.length := by
  have := (sortP_is (weakR rs) (range_rise rs.length)).mem.1 h
  simpa using this
theorem sortedR_mem {rs : List Rec} {r : Rec} (h : r ∈ sortedR rs) : r ∈ rs := by
  obtain ⟨x, hx, rfl⟩ := List.mem_map.1 h
  exact recAt_mem (sortI_mem hx)
/-- records in memory, by their numbers -/
def rbOf (b : Nat) (rs : List Rec) (vs : List Value) : RB where
  b := b
  kd := fun i => (recAt rs i).kind
  ad := fun i => match vs[i * 2 + 1]? with | some (.slice A _ _) => A | _ => none
  ln := fun i => (recAt rs i).path.length
  cp := fun i => match vs[i * 2 + 1]? with | some (.slice _ _ c) => c | _ => 0
section
variable {w : World} {base b : Nat} {vs : List Value} {rs : List Rec}
theorem rb_at (h : RecsO w base vs rs) {i : Nat} (hi : i < rs.length) : vs[i * 2]? = some (.int .i64 ((rbOf b rs vs).kd i)) ∧ vs[i * 2 + 1]? = some (.slice ((rbOf b rs vs).ad i) ((rbOf b rs vs).ln i) ((rbOf b rs vs).cp i)) ∧ OwI w base ((rbOf b rs vs).ad i) ((rbOf b rs vs).cp i) (recAt rs i).path := by
  obtain ⟨A, c, h1, h2, h3⟩ := h.2 i _ (recAt_get hi)
  have ea : (rbOf b rs vs).ad i = A := by simp [rbOf, h2]
  have ec : (rbOf b rs vs).cp i = c := by simp [rbOf, h2]
  rw [ea, ec]
  exact ⟨h1, h2, h3⟩
theorem flat_range (h : RecsO w base vs rs) : flatR (rbOf b rs vs) (List.range rs.length) = vs := by
  apply List.ext_getElem?
  intro j
  by_cases hj : j < rs.length * 2
  · rcases Nat.mod_two_eq_zero_or_one j with e | e
    · obtain ⟨i, rfl⟩ : ∃ i, j = i * 2 := ⟨j / 2, by omega⟩
      have hi : i < rs.length := by omega
      rw [(flatR_get (rbOf b rs vs) (l := List.range rs.length) (k := i) (n := i) (by simp [hi])).1, (rb_at (b := b) h hi).1]
    · obtain ⟨i, rfl⟩ : ∃ i, j = i * 2 + 1 := ⟨j / 2, by omega⟩
      have hi : i < rs.length := by omega
      rw [(flatR_get (rbOf b rs vs) (l := List.range rs.length) (k := i) (n := i) (by simp [hi])).2, (rb_at (b := b) h hi).2.1]
  · rw [List.getElem?_eq_none (by rw [flatR_len, List.length_range]; omega), List.getElem?_eq_none (by rw [h.1]; omega)]
theorem recs_map (h : RecsO w base vs rs) {L : List Nat} (hL : ∀ x ∈ L, x < rs.length) : RecsO w base (flatR (rbOf b rs vs) L) (L.map (recAt rs)) :=
  ⟨by rw [flatR_len, List.length_map], fun i r hi => by
    rw [List.getElem?_map] at hi
    cases hx : L[i]? with
    | none => rw [hx] at hi; cases hi
    | some x =>
      rw [hx] at hi
      simp only [Option.map_some, Option.some.injEq] at hi
      subst hi
      obtain ⟨_, _, h3⟩ := rb_at (b := b) h (hL x (List.mem_of_getElem? hx))
      obtain ⟨g1, g2⟩ := flatR_get (rbOf b rs vs) hx
      exact ⟨_, _, g1, g2, h3⟩⟩
end
theorem OwV.modOf {w w' : World} {base n c g : Nat} {E : TypeId} {vs : List Value} (h : OwV w base E 2 (some ⟨g, 0, none⟩) n c vs) (hm : Mod (fun z => z = g) w w') : ModT base [E] w w' := by
  refine Mod.mono hm fun i _ hi => ?_
  subst hi
  rcases h.cases with ⟨h0, _⟩ | ⟨g', cur, hA, hb, hg, _⟩
  · cases h0
  · injection hA with hA
    injection hA with hA
    subst hA
    exact ⟨hb, cur, _, hg, by simp⟩

set_option maxRecDepth 100000 in
theorem cmp25_any (r q : Rec) (A B : Option Addr) (c d : Nat) (w : World) (hA : RdI w A r.path) (hB : RdI w B q.path) (lr : r.path.length ≤ 1000) (lq : q.path.length ≤ 1000) :
    Calls Try.prog 14 #[.agg #[.int .i64 r.kind, .slice A r.path.length c], .agg #[.int .i64 q.kind, .slice B q.path.length d]] w fun e w' => e = .returned (.int .i64 (cmpL r.path q.path)) ∧ Ext w w' := by
  replace hA := Lib.hid hA
  replace hB := Lib.hid hB
  go_enter Try.func14, Try.ntmps14
  go_wp2_with (fail)
  refine (slCompare _ _ _ _ r.path q.path _ (hA.out.ext (by (repeat (first | assumption | exact Ext.rf _ | apply Ext.drew | apply Ext.drewN | apply Ext.alloc)))) (hB.out.ext (by (repeat (first | assumption | exact Ext.rf _ | apply Ext.drew | apply Ext.drewN | apply Ext.alloc)))) (by simp only [maxLen]; omega) (by simp only [maxLen]; omega)).mono ?_
  rintro e w' ⟨rfl, rfl⟩
  go_wp2_with (fail)
  go_ret
  exact ⟨rfl, by (repeat (first | assumption | exact Ext.rf _ | apply Ext.drew | apply Ext.drewN | apply Ext.alloc))⟩
theorem join1_enters : ∀ args w, (callFunc 14 args).run Try.prog w = .ok (.enter 14 args) w := enters_of Try.func14 (by kernel_rfl) rfl
theorem cmpok_recs {w : World} {base b g : Nat} {vs : List Value} {rs : List Rec} {n c : Nat} (ho : OwV w base 43 2 (some ⟨g, 0, none⟩) n c vs) (h : RecsO w base vs rs) (hp : ∀ r ∈ rs, r.path.length ≤ 1000) : CmpOk (rbOf b rs vs) 14 #[] (cfR rs) rs.length g w := by
  intro W x y hx hy hm
  have h' := h.modT (ho.modOf hm) (by decide)
  exact cmp25_any (recAt rs x) (recAt rs y) _ _ _ _ W (rb_at (b := b) h' hx).2.2.read (rb_at (b := b) h' hy).2.2.read (hp _ (recAt_mem hx)) (hp _ (recAt_mem hy))
set_option maxRecDepth 100000 in
theorem insnil (fv : Value) (w : World) : Calls Try.prog 22 #[.slice none 0 0, .int .i64 0, .int .i64 0, fv] w fun e w' => e = .returned (.tuple #[]) ∧ Ext w w' := by
  go_enter Try.func22, Try.ntmps22
  go_wp2_with (fail)
  go_loopw [8] (fun v wr => v = .int .i64 1 ∧ Ext w wr) (fun v _ => (intOf v).toNat)
  case atStart => exact ⟨by first | rfl | go_num, Ext.rf _⟩
  case round =>
    obtain ⟨rfl, X⟩ := hrel
    go_wp2_with (fail)
    go_end0
    exact ⟨rfl, X⟩
set_option maxRecDepth 100000 in
theorem stabnil (fv : Value) (w : World) : Calls Try.prog 19 #[.slice none 0 0, .int .i64 0, fv] w fun e w' => e = .returned (.tuple #[]) ∧ Ext w w' := by
  go_enter Try.func19, Try.ntmps19
  go_wp2_with (fail)
  go_loopw [7, 8] (fun u v wr => u = .int .i64 0 ∧ v = .int .i64 20 ∧ Ext w wr) (fun v _ _ => (intOf v).toNat)
  case atStart => exact ⟨rfl, rfl, Ext.rf _⟩
  case round =>
    obtain ⟨rfl, rfl, X⟩ := hrel
    go_wp2_with (fail)
    refine (insnil _ _).mono ?_
    rintro e w1 ⟨rfl, x1⟩
    have X1 := X.tr x1
    go_wp2_with (fail)
    go_loopw [6] (fun u wr => u = .int .i64 20 ∧ Ext w wr) (fun v _ => (intOf v).toNat)
    case atStart => exact ⟨rfl, X1⟩
    case round =>
      obtain ⟨rfl, Y⟩ := hrel
      go_wp2_with (fail)
      go_end0
      exact ⟨rfl, Y⟩
set_option maxRecDepth 100000 in
theorem sortnil (fv : Value) (w : World) : Calls Try.prog 13 #[.slice none 0 0, fv] w fun e w' => e = .returned (.tuple #[]) ∧ Ext w w' := by
  go_enter Try.func13, Try.ntmps13
  go_wp2_with (fail)
  refine (stabnil _ _).mono ?_
  rintro e w1 ⟨rfl, x1⟩
  go_wp2_with (fail)
  go_end0
  exact ⟨rfl, x1⟩
/-- the sort of a call's own records -/
theorem sortrecs_any (base : Nat) (A : Option Addr) (c : Nat) (rs : List Rec) (w : World) (H : RecSl w base 43 A c rs) (hl : rs.length ≤ 1000) (hp : ∀ r ∈ rs, r.path.length ≤ 1000) :
    Calls Try.prog 13 #[.slice A rs.length c, .func (.func 14) #[] #[]] w fun e w' => e = .returned (.tuple #[]) ∧ RecSl w' base 43 A c (sortedR rs) ∧ ModT base [43] w w' := by
  obtain ⟨vs, ho, hr⟩ := H
  rcases ho.cases with ⟨rfl, rfl, h0, rfl⟩ | ⟨g, cur, rfl, hb, _⟩
  · obtain rfl : rs = [] := List.eq_nil_of_length_eq_zero h0
    refine (sortnil _ w).mono ?_
    rintro e w1 ⟨rfl, x1⟩
    exact ⟨rfl, ⟨[], OwV.nil _ _ _ _, by simpa [sortedR, sortI, sortP, msortP] using RecsO.nil w1 base⟩, ModT.of_ext x1⟩
  · have hflat := flat_range (b := base) hr
    have hN : OwN w (rbOf base rs vs) g c (List.range rs.length) := by
      unfold OwN
      rw [hflat, List.length_range]
      exact ho
    refine (sortstable_any (rbOf base rs vs) g c 14 #[] (cfR rs) rs.length rs.length (List.range rs.length) w (weakR rs) join1_enters (cmpok_recs ho hr hp) hN (by simp) (range_rise _) (by simp) (by omega)).mono ?_
    rintro e w1 ⟨rfl, o1, m1⟩
    have M := ho.modOf m1
    refine ⟨rfl, ⟨flatR (rbOf base rs vs) (sortI rs), ?_, recs_map (hr.modT M (by decide)) fun x hx => sortI_mem hx⟩, M⟩
    have h1 : OwV w1 base 43 2 (some ⟨g, 0, none⟩) (sortI rs).length c (flatR (rbOf base rs vs) (sortI rs)) := o1
    rw [sortedR_len, ← sortI_len rs]
    exact h1
end Go.Proofs.Ytpngflmngnjjoaa
