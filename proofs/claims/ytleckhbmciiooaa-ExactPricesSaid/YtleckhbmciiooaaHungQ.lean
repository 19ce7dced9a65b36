/-
  An assignment by prices, plainly: bounds of the prices; turning a way; the answer at the end costs least.
-/
import Derived.Test.YtleckhbmciiooaaHungP
import Derived.Test.YtleckhbmciiooaaCostP
import Derived.Test.YtleckhbmciiooaaK
namespace Go.Proofs.Ytleckhbmciiooaa

section
variable {n R : Nat} {cst : Nat → Nat → Int} {far M : Int} {has frm : Nat → Nat} {L : List Nat} {a : Nat} {u v least : Nat → Int}
theorem GI.bound (h : GI n cst far R has L a u v least frm) (ho : HasOk n R has) (hRn : R ≤ n) (hf : ∃ c, 1 ≤ c ∧ c ≤ n ∧ has c = 0) (num : ∀ i c, 1 ≤ i → i ≤ n → 1 ≤ c → c ≤ n → 0 ≤ cst i c ∧ cst i c ≤ M) :
    (∀ i, 1 ≤ i → i ≤ n → 0 ≤ u i ∧ u i ≤ M) ∧ ∀ c, 1 ≤ c → c ≤ n → -M ≤ v c ∧ v c ≤ 0 := by
  obtain ⟨c0, k1, k2, k3⟩ := hf
  have hu : ∀ i, 1 ≤ i → i ≤ n → 0 ≤ u i ∧ u i ≤ M := fun i h1 h2 => by
    have a1 := h.slack i c0 h1 h2 k1 k2
    have a2 := h.free c0 k1 k2 k3
    have a3 := (num i c0 h1 h2 k1 k2).2
    have a4 := h.pos i
    omega
  refine ⟨hu, fun c h1 h2 => ?_⟩
  have hM : 0 ≤ M := by
    have := num 1 c0 (by omega) (by omega) k1 k2
    omega
  have a1 := h.neg c h1 h2
  by_cases hc : has c = 0
  · have := h.free c h1 h2 hc
    omega
  · have a2 := h.tight c h1 h2 hc
    have a3 := ho.le c h2
    have a4 := hu (has c) (by omega) (by omega)
    have a5 := num (has c) c (by omega) (by omega) h1 h2
    omega
end
/-- while a way is turned: at the hole nobody stands -/
structure TI (n : Nat) (cst : Nat → Nat → Int) (R : Nat) (u v : Nat → Int) (has : Nat → Nat) (hole : Nat) : Prop where
  all : ∀ i, 1 ≤ i → i ≤ R → ∃ c, c ≤ n ∧ c ≠ hole ∧ has c = i
  inj : ∀ c c', c ≤ n → c' ≤ n → c ≠ hole → c' ≠ hole → has c = has c' → has c ≠ 0 → c = c'
  le : ∀ c, c ≤ n → c ≠ hole → has c ≤ R
  tight : ∀ c, 1 ≤ c → c ≤ n → c ≠ hole → has c ≠ 0 → cst (has c) c = u (has c) + v c
  free : ∀ c, 1 ≤ c → c ≤ n → c ≠ hole → has c = 0 → v c = 0
section
variable {n R : Nat} {cst : Nat → Nat → Int} {far : Int} {has has' hs frm : Nat → Nat} {L : List Nat} {a hole : Nat} {u v least : Nat → Int}
theorem GI.turn (h : GI n cst far R has L a u v least frm) (ho : HasOk n R has) (ha : has a = 0) : TI n cst R u v has a where
  all := fun i h1 h2 => by
    obtain ⟨c, k1, k2⟩ := ho.all i h1 h2
    refine ⟨c, k1, ?_, k2⟩
    rintro rfl
    omega
  inj := fun c c' h1 h2 _ _ => ho.inj c c' h1 h2
  le := fun c h1 _ => ho.le c h1
  tight := fun c h1 h2 _ => h.tight c h1 h2
  free := fun c h1 h2 _ => h.free c h1 h2
/-- the hole goes back by one -/
theorem TI.back {p : Nat} (h : TI n cst R u v hs hole) (hh : hole ≤ n) (hp : p ≤ n) (hne : p ≠ hole) (hp0 : hs p ≠ 0) (ht : cst (hs p) hole = u (hs p) + v hole) (hn : ∀ c, has' c = if c = hole then hs p else hs c) : TI n cst R u v has' p where
  all := fun i h1 h2 => by
    obtain ⟨c, k1, k2, k3⟩ := h.all i h1 h2
    by_cases e : c = p
    · subst e
      exact ⟨hole, hh, fun e => hne e.symm, by rw [hn, if_pos rfl, k3]⟩
    · exact ⟨c, k1, e, by rw [hn, if_neg k2, k3]⟩
  inj := fun c c' h1 h2 h3 h4 e h0 => by
    rw [hn] at e h0
    rw [hn c'] at e
    by_cases e1 : c = hole
    · by_cases e2 : c' = hole
      · rw [e1, e2]
      · rw [if_pos e1, if_neg e2] at e
        exact absurd (h.inj p c' hp h2 hne e2 e hp0).symm h4
    · by_cases e2 : c' = hole
      · rw [if_neg e1, if_pos e2] at e
        rw [if_neg e1] at h0
        exact absurd (h.inj c p h1 hp e1 hne e h0) h3
      · rw [if_neg e1, if_neg e2] at e
        rw [if_neg e1] at h0
        exact h.inj c c' h1 h2 e1 e2 e h0
  le := fun c h1 h2 => by
    rw [hn]
    split
    · exact h.le p hp hne
    · rename_i e
      exact h.le c h1 e
  tight := fun c h1 h2 h3 h4 => by
    rw [hn] at h4 ⊢
    by_cases e : c = hole
    · subst e
      rw [if_pos rfl]
      exact ht
    · rw [if_neg e] at h4 ⊢
      exact h.tight c h1 h2 e h4
  free := fun c h1 h2 h3 h4 => by
    rw [hn] at h4
    by_cases e : c = hole
    · rw [if_pos e] at h4
      exact absurd h4 hp0
    · rw [if_neg e] at h4
      exact h.free c h1 h2 e h4
theorem TI.done (h : TI n cst R u v hs 0) (slack : ∀ i c, 1 ≤ i → i ≤ n → 1 ≤ c → c ≤ n → u i + v c ≤ cst i c) (neg : ∀ c, 1 ≤ c → c ≤ n → v c ≤ 0) (pos : ∀ i, 0 ≤ u i) (fresh : ∀ i, R < i → u i = 0) : HI n cst R u v hs where
  le := fun c h1 h2 => h.le c h2 (by omega)
  all := fun i h1 h2 => by
    obtain ⟨c, k1, k2, k3⟩ := h.all i h1 h2
    exact ⟨c, by omega, k1, k3⟩
  inj := fun c c' h1 h2 h3 h4 => h.inj c c' h2 h4 (by omega) (by omega)
  slack := slack
  tight := fun c h1 h2 => h.tight c h1 h2 (by omega)
  free := fun c h1 h2 => h.free c h1 h2 (by omega)
  neg := neg
  pos := pos
  fresh := fresh
/-- the way back: what is still as it was -/
structure BackI (n : Nat) (has : Nat → Nat) (full : List Nat) (hs : Nat → Nat) (hole : Nat) : Prop where
  path : ∃ A B, full = A ++ hole :: B ∧ ∀ c ∈ A, hs c = has c
theorem GI.back (h : GI n cst far R has L a u v least frm) (ho : HasOk n R has) (hb : BackI n has (L ++ [a]) hs hole) (ht : TI n cst R u v hs hole) (h0 : hole ≠ 0) (hn : ∀ c, has' c = if c = hole then hs (frm hole) else hs c) :
    frm hole ≤ n ∧ TI n cst R u v has' (frm hole) ∧ BackI n has (L ++ [a]) has' (frm hole) ∧ ∃ A B, L ++ [a] = A ++ hole :: B ∧ frm hole ∈ A := by
  obtain ⟨A, B, e, hA⟩ := hb.path
  have hA0 : A ≠ [] := by
    rintro rfl
    have := h.first
    rw [e] at this
    simp at this
    exact h0 this
  obtain ⟨m1, m2⟩ := h.way A B hole e hA0
  have hmem : ∀ c ∈ A ++ hole :: B, c ≤ n := fun c hc => h.le c (by rw [e]; exact hc)
  have hp : frm hole ≤ n := hmem _ (by simp [m1])
  have hnd := h.nodup
  rw [e] at hnd
  have hne : frm hole ≠ hole := fun e2 => (List.nodup_append.1 hnd).2.2 (frm hole) m1 hole (by simp) e2
  have hseen : has (frm hole) ≠ 0 := by
    have hAL : ∀ c ∈ A, c ∈ L := by
      intro c hc
      have h1 : c ∈ L ++ [a] := by rw [e]; simp [hc]
      rcases List.mem_append.1 h1 with h2 | h2
      · exact h2
      · obtain rfl := List.mem_singleton.1 h2
        exfalso
        -- c = a stands last, but A is ahead of something
        rcases List.eq_nil_or_concat B with rfl | ⟨B', b, rfl⟩
        · have e' : L ++ [c] = A ++ [hole] := e
          have := (List.append_inj' e' rfl).2
          have e3 : c = hole := by simpa using this
          exact (List.nodup_append.1 hnd).2.2 c hc hole (by simp) e3
        · rw [List.concat_eq_append] at e hnd
          have e' : L ++ [c] = (A ++ hole :: B') ++ [b] := by simpa using e
          have := (List.append_inj' e' rfl).2
          have e3 : c = b := by simpa using this
          exact (List.nodup_append.1 hnd).2.2 c hc b (by simp) e3
    exact h.seen _ (hAL _ m1)
  have e1 : hs (frm hole) = has (frm hole) := hA _ m1
  refine ⟨hp, ht.back (hmem hole (by simp)) hp hne (by rw [e1]; exact hseen) (by rw [e1]; exact m2) hn, ⟨?_⟩, A, B, e, m1⟩
  obtain ⟨A1, A2, e2⟩ := List.append_of_mem m1
  refine ⟨A1, A2 ++ hole :: B, by rw [e, e2]; simp, fun c hc => ?_⟩
  have hcA : c ∈ A := by rw [e2]; simp [hc]
  rw [hn, if_neg (fun e3 => (List.nodup_append.1 hnd).2.2 c hcA hole (by simp) e3), hA c hcA]
end
theorem costF_tight {F : Nat → Int} : ∀ {rows : List (List Int)} {off : List Int} {q : List Nat}, rows.length = q.length → off.length = q.length → (∀ (k c : Nat) (x : List Int) (o : Int), rows[k]? = some x → off[k]? = some o → q[k]? = some c → x.getD c 0 = o + F c) → costF rows (intsN q) = sumL off + sumL (q.map F)
  | [], off, q, h1, h2, _ => by
    have : q = [] := List.eq_nil_of_length_eq_zero (by simpa using h1.symm)
    subst this
    have : off = [] := List.eq_nil_of_length_eq_zero (by simpa using h2)
    subst this
    simp [sumL, costF, intsN]
  | r :: rows, [], q, h1, h2, _ => by
    exfalso
    simp at h1 h2
    omega
  | r :: rows, o :: off, [], h1, _, _ => by simp at h1
  | r :: rows, o :: off, c :: q, h1, h2, h => by
    have h3 := h 0 c r o rfl rfl rfl
    have ih := costF_tight (F := F) (rows := rows) (off := off) (q := q) (by simpa using h1) (by simpa using h2) fun k c x o a b d => h (k + 1) c x o a b d
    simp only [intsN, List.map_cons, sumL, costF] at ih ⊢
    rw [Int.toNat_natCast]
    omega
/-- at the end: no order costs less -/
theorem hung_min {n : Nat} {rows : List (List Int)} {u v : Nat → Int} {has : Nat → Nat} {x : List Nat} (hr : rows.length = n) (h : HI n (fun i c => (rows.getD (i - 1) []).getD (c - 1) 0) n u v has) (hx : x.length = n) (hxc : ∀ c, 1 ≤ c → c ≤ n → x[has c - 1]? = some (c - 1)) :
    x.Perm (List.range n) ∧ ∀ q : List Nat, q.Perm (List.range n) → costF rows (intsN x) ≤ costF rows (intsN q) := by
  have at' : ∀ i, i < n → ∃ c, 1 ≤ c ∧ c ≤ n ∧ has c = i + 1 ∧ x[i]? = some (c - 1) := fun i hi => by
    obtain ⟨c, k1, k2, k3⟩ := h.all (i + 1) (by omega) (by omega)
    have := hxc c k1 k2
    rw [k3, Nat.add_sub_cancel] at this
    exact ⟨c, k1, k2, k3, this⟩
  have hperm : x.Perm (List.range n) := by
    have hd : x.Nodup := by
      refine List.pairwise_iff_getElem.2 fun i j hi hj hij e => ?_
      obtain ⟨c, k1, k2, k3, k4⟩ := at' i (by omega)
      obtain ⟨d, m1, m2, m3, m4⟩ := at' j (by omega)
      rw [List.getElem?_eq_getElem hi] at k4
      rw [List.getElem?_eq_getElem hj] at m4
      have e1 := Option.some.inj k4
      have e2 := Option.some.inj m4
      have : c = d := by omega
      subst this
      omega
    refine (List.perm_ext_iff_of_nodup hd List.nodup_range).2 fun y => ?_
    rw [List.mem_range]
    constructor
    · intro hy
      obtain ⟨i, hi, rfl⟩ := List.mem_iff_getElem.1 hy
      obtain ⟨c, k1, k2, k3, k4⟩ := at' i (by omega)
      rw [List.getElem?_eq_getElem hi] at k4
      have := Option.some.inj k4
      omega
    · intro hy
      have hne : has (y + 1) ≠ 0 := by
        -- every column has a row: as many rows as columns
        intro e0
        have hl := nodup_le (l := (List.range n).map fun i => x.getD i 0) (n := n) ?_ ?_
        · have hs : y ∈ x := by
            cases hd2 : decide (y ∈ x) with
            | true => exact of_decide_eq_true hd2
            | false =>
              exfalso
              have hny := of_decide_eq_false hd2
              have h2 := nodup_le (l := y :: x) (n := n) (List.nodup_cons.2 ⟨hny, hd⟩) ?_
              · rw [List.length_cons, hx] at h2
                omega
              · intro z hz
                rcases List.mem_cons.1 hz with rfl | hz
                · exact hy
                · obtain ⟨i, hi, rfl⟩ := List.mem_iff_getElem.1 hz
                  obtain ⟨c, k1, k2, k3, k4⟩ := at' i (by omega)
                  rw [List.getElem?_eq_getElem hi] at k4
                  have := Option.some.inj k4
                  omega
          obtain ⟨i, hi, e⟩ := List.mem_iff_getElem.1 hs
          obtain ⟨c, k1, k2, k3, k4⟩ := at' i (by omega)
          rw [List.getElem?_eq_getElem hi, e] at k4
          have := Option.some.inj k4
          have e5 : c = y + 1 := by omega
          subst e5
          omega
        · refine List.pairwise_map.2 (List.Pairwise.imp_of_mem ?_ List.nodup_range)
          intro i j hi hj hij e
          have hi := List.mem_range.1 hi
          have hj := List.mem_range.1 hj
          obtain ⟨c, k1, k2, k3, k4⟩ := at' i hi
          obtain ⟨d, m1, m2, m3, m4⟩ := at' j hj
          rw [getD_some k4, getD_some m4] at e
          have : c = d := by omega
          subst this
          omega
        · intro z hz
          obtain ⟨i, hi, rfl⟩ := List.mem_map.1 hz
          obtain ⟨c, k1, k2, k3, k4⟩ := at' i (List.mem_range.1 hi)
          rw [getD_some k4]
          omega
      have := hxc (y + 1) (by omega) (by omega)
      rw [Nat.add_sub_cancel] at this
      exact List.mem_of_getElem? this
  refine ⟨hperm, fun q hq => ?_⟩
  have hoff : ∀ k, ((List.range n).map fun i => u (i + 1))[k]? = if k < n then some (u (k + 1)) else none := fun k => by
    rw [List.getElem?_map]
    by_cases hk : k < n
    · rw [List.getElem?_range hk, if_pos hk]; rfl
    · rw [List.getElem?_eq_none (by simp; omega), if_neg hk]; rfl
  have hge := costF_ge (F := fun c => v (c + 1)) (rows := rows) (off := (List.range n).map fun i => u (i + 1)) (q := q) (by rw [hr, hq.length_eq, List.length_range]) (by simp [hq.length_eq]) fun k c r o h1 h2 h3 => by
    have hk : k < n := by rw [← hr]; exact (List.getElem?_eq_some_iff.1 h1).1
    rw [hoff, if_pos hk] at h2
    obtain rfl := Option.some.inj h2
    have hc : c < n := List.mem_range.1 (hq.mem_iff.1 (List.mem_of_getElem? h3))
    have := h.slack (k + 1) (c + 1) (by omega) (by omega) (by omega) (by omega)
    simp only [Nat.add_sub_cancel] at this
    rw [show rows.getD k [] = r from getD_some h1] at this
    exact this
  have hle : costF rows (intsN x) = sumL ((List.range n).map fun i => u (i + 1)) + sumL (x.map fun c => v (c + 1)) := by
    refine costF_tight (by rw [hr, hx]) (by simp [hx]) fun k c r o h1 h2 h3 => ?_
    have hk : k < n := by rw [← hr]; exact (List.getElem?_eq_some_iff.1 h1).1
    rw [hoff, if_pos hk] at h2
    obtain rfl := Option.some.inj h2
    obtain ⟨d, k1, k2, k3, k4⟩ := at' k hk
    rw [h3] at k4
    have e : c = d - 1 := Option.some.inj k4
    subst e
    have := h.tight d k1 k2 (by omega)
    rw [k3] at this
    simp only [Nat.add_sub_cancel] at this
    rw [show rows.getD k [] = r from getD_some h1] at this
    rw [show d - 1 + 1 = d by omega]
    exact this
  have e := sumL_perm ((hperm.trans hq.symm).map fun c => v (c + 1))
  omega
end Go.Proofs.Ytleckhbmciiooaa
