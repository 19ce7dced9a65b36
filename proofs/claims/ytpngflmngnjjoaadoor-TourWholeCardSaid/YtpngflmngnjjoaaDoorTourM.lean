/-
  A tour, plainly: the document's square of what is left costs at least what the kernel reckons; the beginnings as a tree.
-/
import Derived.Test.YtpngflmngnjjoaaDoorTourQ
import Derived.Test.YtpngflmngnjjoaaDoorRefG
namespace Go.Proofs.YtpngflmngnjjoaaDoor

theorem leastN_mem {f : Nat → Int} : ∀ {l : List Nat} {b : Int}, (∀ x ∈ l, 0 ≤ f x) → (0 ≤ b ∨ l ≠ []) → (leastN f b l = b ∧ 0 ≤ b) ∨ ∃ x ∈ l, leastN f b l = f x
  | [], b, _, h => by
    rcases h with h | h
    · exact .inl ⟨rfl, h⟩
    · exact absurd rfl h
  | x :: l, b, h, _ => by
    have hx := h x (by simp)
    have ih := leastN_mem (f := f) (l := l) (b := if b < 0 then f x else if f x < b then f x else b) (fun y hy => h y (by simp [hy])) (.inl (by split <;> (try split) <;> omega))
    have e : leastN f b (x :: l) = leastN f (if b < 0 then f x else if f x < b then f x else b) l := rfl
    rw [e]
    rcases ih with ⟨e, _⟩ | ⟨y, hy, e⟩
    · rw [e]
      split
      · exact .inr ⟨x, by simp, rfl⟩
      · split
        · exact .inr ⟨x, by simp, rfl⟩
        · exact .inl ⟨rfl, by omega⟩
    · exact .inr ⟨y, by simp [hy], e⟩
theorem leastN_perm {f : Nat → Int} {l l' : List Nat} (hp : l.Perm l') (h : ∀ x ∈ l, 0 ≤ f x) : leastN f (-1) l = leastN f (-1) l' := by
  by_cases hl : l = []
  · subst hl
    rw [List.Perm.eq_nil hp.symm]
  · have h' : ∀ x ∈ l', 0 ≤ f x := fun x hx => h x (hp.mem_iff.2 hx)
    have hl' : l' ≠ [] := fun e => hl (List.Perm.eq_nil (e ▸ hp))
    rcases leastN_mem h (b := -1) (.inr hl) with ⟨_, h1⟩ | ⟨x, hx, h1⟩
    · omega
    · rcases leastN_mem h' (b := -1) (.inr hl') with ⟨_, h2⟩ | ⟨y, hy, h2⟩
      · omega
      · have a1 := (leastN_le (b := -1) h).1 y (hp.mem_iff.2 hy)
        have a2 := (leastN_le (b := -1) h').1 x (hp.mem_iff.1 hx)
        omega
theorem leastN_congr {f g : Nat → Int} : ∀ {l : List Nat} {b : Int}, (∀ x ∈ l, f x = g x) → leastN f b l = leastN g b l
  | [], _, _ => rfl
  | x :: l, b, h => by
    show leastN f (if b < 0 then f x else if f x < b then f x else b) l = leastN g (if b < 0 then g x else if g x < b then g x else b) l
    rw [h x (by simp)]
    exact leastN_congr fun y hy => h y (by simp [hy])
theorem leastG_map (f : Nat → Int) : ∀ (l : List Nat) (b : Int), leastG b (l.map f) = leastN f b (l.filter fun x => decide (0 ≤ f x))
  | [], b => rfl
  | x :: l, b => by
    show leastG (if 0 ≤ f x ∧ (b < 0 ∨ f x < b) then f x else b) (l.map f) = _
    rw [leastG_map f l]
    by_cases h : 0 ≤ f x
    · rw [List.filter_cons_of_pos (by simpa using h)]
      show _ = leastN f (if b < 0 then f x else if f x < b then f x else b) _
      congr 1
      split <;> split <;> (try split) <;> omega
    · rw [List.filter_cons_of_neg (by simpa using h), if_neg (fun h2 => h h2.1)]
theorem colG_map (r : Nat → List Int) (o : Nat → Int) (c : Nat) : ∀ (S : List Nat) (b : Int), colG c b (S.map r) (S.map o) = leastN (fun s => (r s).getD c 0 - o s) b (S.filter fun s => decide (0 ≤ (r s).getD c 0))
  | [], b => rfl
  | s :: S, b => by
    simp only [List.map_cons, colG]
    rw [colG_map r o c S]
    by_cases h : 0 ≤ (r s).getD c 0
    · rw [List.filter_cons_of_pos (by simpa using h)]
      show _ = leastN _ (if b < 0 then (r s).getD c 0 - o s else if (r s).getD c 0 - o s < b then (r s).getD c 0 - o s else b) _
      congr 1
      split <;> split <;> (try split) <;> omega
    · rw [List.filter_cons_of_neg (by simpa using h), if_neg (fun h2 => h h2.1)]
section
variable {rows : List (List Int)} {us : List Nat} {last : Nat}
/-- the document's square -/
def entT (rows : List (List Int)) (us : List Nat) (last src dst : Nat) : Int := if dst ∈ colsT us last src then costAt rows src dst else -1
def matT (rows : List (List Int)) (us : List Nat) (last : Nat) : List (List Int) := (last :: us).map fun src => (us ++ [0]).map fun dst => entT rows us last src dst
theorem entT_nonneg (num : ∀ a b, (a = last ∨ a ∈ us) → (b = 0 ∨ b ∈ us) → 0 ≤ costAt rows a b) {src dst : Nat} (hs : src ∈ last :: us) (hd : dst ∈ us ++ [0]) : decide (0 ≤ entT rows us last src dst) = decide (dst ∈ colsT us last src) := by
  have h := num src dst (List.mem_cons.1 hs) (by
    rcases List.mem_append.1 hd with h | h
    · exact .inr h
    · exact .inl (List.mem_singleton.1 h))
  unfold entT
  by_cases hc : dst ∈ colsT us last src
  · rw [if_pos hc, decide_eq_true hc, decide_eq_true h]
  · rw [if_neg hc, decide_eq_false hc]
    rfl
theorem offG_mat (num : ∀ a b, (a = last ∨ a ∈ us) → (b = 0 ∨ b ∈ us) → 0 ≤ costAt rows a b) (hl : last ∉ us) (h0 : 0 ∉ us) : offG (matT rows us last) = (last :: us).map fun src => offT rows us last src := by
  unfold offG matT
  rw [List.map_map]
  refine List.map_congr_left fun src hs => ?_
  show max (leastG (-1) ((us ++ [0]).map fun dst => entT rows us last src dst)) 0 = offT rows us last src
  have hf : (us ++ [0]).filter (fun x => decide (0 ≤ entT rows us last src x)) = (us ++ [0]).filter fun x => decide (x ∈ colsT us last src) := List.filter_congr fun x hx => entT_nonneg num hs hx
  rw [leastG_map, hf]
  have e1 : leastN (fun dst => entT rows us last src dst) (-1) ((us ++ [0]).filter fun x => decide (x ∈ colsT us last src)) = leastN (fun dst => costAt rows src dst) (-1) ((us ++ [0]).filter fun x => decide (x ∈ colsT us last src)) := leastN_congr fun x hx => by
    unfold entT
    rw [if_pos (of_decide_eq_true (List.mem_filter.1 hx).2)]
  have e2 : ((us ++ [0]).filter fun x => decide (x ∈ colsT us last src)).Perm (colsT us last src) := by
    unfold colsT
    by_cases e : src = last
    · rw [if_pos e, List.filter_append, List.filter_eq_self.2 (fun x hx => decide_eq_true hx), List.filter_cons_of_neg (by simpa using h0)]
      simp
    · rw [if_neg e, List.filter_append]
      have a1 : us.filter (fun x => decide (x ∈ 0 :: us.filter fun x => decide (src ≠ x))) = us.filter fun x => decide (src ≠ x) := List.filter_congr fun x hx => by
        rw [decide_eq_decide, List.mem_cons, List.mem_filter]
        constructor
        · rintro (h | h)
          · subst h; exact absurd hx h0
          · exact of_decide_eq_true h.2
        · exact fun h => .inr ⟨hx, decide_eq_true h⟩
      have a2 : [0].filter (fun x => decide (x ∈ 0 :: us.filter fun x => decide (src ≠ x))) = [0] := by simp
      rw [a1, a2]
      exact List.perm_append_comm (l₂ := [0])
  rw [e1, leastN_perm e2 fun x hx => num src x (List.mem_cons.1 hs) (by
    rcases List.mem_append.1 (List.mem_filter.1 hx).1 with h | h
    · exact .inr h
    · exact .inl (List.mem_singleton.1 h))]
  rfl
theorem getD_map_app {f : Nat → Int} {D : List Nat} {c d : Nat} (h : D[c]? = some d) : (D.map f).getD c 0 = f d := by
  simp [List.getD, h]
theorem reduceG_mat (num : ∀ a b, (a = last ∨ a ∈ us) → (b = 0 ∨ b ∈ us) → 0 ≤ costAt rows a b) (hl : last ∉ us) (h0 : 0 ∉ us) : rreduceG (matT rows us last) (us.length + 1) = reduceT rows us last := by
  have ho := offG_mat num hl h0
  have hc : ∀ (c d : Nat), (us ++ [0])[c]? = some d → colG c (-1) (matT rows us last) (offG (matT rows us last)) = colT rows us last d := fun c d hd => by
    rw [ho]
    unfold matT
    refine Eq.trans (colG_map (fun src => (us ++ [0]).map fun dst => entT rows us last src dst) (fun src => offT rows us last src) c (last :: us) (-1)) ?_
    have hdm := List.mem_of_getElem? hd
    have e1 : (last :: us).filter (fun s => decide (0 ≤ ((us ++ [0]).map fun dst => entT rows us last s dst).getD c 0)) = (last :: us).filter fun s => decide (d ∈ colsT us last s) := List.filter_congr fun s hs => by
      rw [getD_map_app hd]
      exact entT_nonneg num hs hdm
    rw [e1]
    unfold colT
    refine leastN_congr fun s hs => ?_
    rw [getD_map_app hd]
    unfold entT
    rw [if_pos (of_decide_eq_true (List.mem_filter.1 hs).2)]
  unfold rreduceG reduceT
  rw [ho]
  congr 1
  have e2 : rcolG (matT rows us last) (us.length + 1) = (us ++ [0]).map fun dst => max (colT rows us last dst) 0 := by
    have hr : (List.range (us.length + 1)).map (fun c => (us ++ [0]).getD c 0) = us ++ [0] := by
      apply List.ext_getElem
      · simp
      · intro k h1 h2
        rw [List.getElem_map, List.getElem_range]
        simp only [List.getD]
        rw [List.getElem?_eq_getElem h2]
        rfl
    refine Eq.trans ?_ (congrArg (List.map fun dst => max (colT rows us last dst) 0) hr)
    rw [List.map_map]
    unfold rcolG
    refine List.map_congr_left fun c hcr => ?_
    have hk : c < (us ++ [0]).length := by
      have := List.mem_range.1 hcr
      simp only [List.length_append, List.length_singleton]
      exact this
    obtain ⟨d, hd⟩ : ∃ d, (us ++ [0])[c]? = some d := ⟨_, List.getElem?_eq_getElem hk⟩
    have e3 : (us ++ [0]).getD c 0 = d := getD_some hd
    simp only [Function.comp_apply]
    rw [hc c d hd, e3]
  rw [e2]
  exact sumL_perm ((List.perm_append_comm (l₁ := us) (l₂ := [0])).map _)
theorem mat_len : (matT rows us last).length = us.length + 1 := by simp [matT]
theorem mat_row : ∀ row ∈ matT rows us last, row.length = us.length + 1 := fun row h => by
  obtain ⟨s, _, rfl⟩ := List.mem_map.1 h
  simp
theorem mat_num {B : Int} (hB : 0 ≤ B) (num : ∀ a b, (a = last ∨ a ∈ us) → (b = 0 ∨ b ∈ us) → 0 ≤ costAt rows a b ∧ costAt rows a b ≤ B) : ∀ row ∈ matT rows us last, ∀ x ∈ row, -1 ≤ x ∧ x ≤ B := fun row h x hx => by
  obtain ⟨s, hs, rfl⟩ := List.mem_map.1 h
  obtain ⟨d, hd, rfl⟩ := List.mem_map.1 hx
  have h2 := num s d (List.mem_cons.1 hs) (by
    rcases List.mem_append.1 hd with h | h
    · exact .inr h
    · exact .inl (List.mem_singleton.1 h))
  unfold entT
  split <;> omega
end
/-! the beginnings as a tree -/
section
variable {rows : List (List Int)}
theorem kidsT_of {p : List Int} {m last : Nat} {cost : Int} (hp : walkP rows p = some (m, last, cost)) : ∃ l : List Nat, (kidsT rows p).1 = intsN l ∧ l.Perm (memsM m) ∧ (kidsT rows p).2 = 0 := by
  refine ⟨sortP (ltC (cfR (rows.getD last []))) (memsM m), ?_, msortP_perm _ _ _, ?_⟩ <;> (unfold kidsT; rw [hp])
def lvT (rows : List (List Int)) : Nat → List Int → List (List Int)
  | 0, p => [p]
  | f + 1, p => (kidsT rows p).1.reverse.flatMap fun x => lvT rows f (p ++ [x])
theorem lvT_ext : ∀ (f : Nat) (p y : List Int), y ∈ lvT rows f p → ∃ s, y = p ++ s
  | 0, p, y, h => by
    simp [lvT] at h
    exact ⟨[], by simp [h]⟩
  | f + 1, p, y, h => by
    simp only [lvT, List.mem_flatMap] at h
    obtain ⟨x, _, h⟩ := h
    obtain ⟨s, rfl⟩ := lvT_ext f _ y h
    exact ⟨x :: s, by simp⟩
theorem walkP_len (h1 : 1 ≤ rows.length) (h24 : rows.length ≤ 24) {p : List Int} {m last : Nat} {cost : Int} (h : walkP rows p = some (m, last, cost)) : (memsM m).length + p.length = rows.length - 1 := by
  obtain ⟨l, W⟩ := walk_ok h1 h24 h
  have := W.len
  rw [W.eq, intsN_len]
  exact this
theorem lvT_ok (h1 : 1 ≤ rows.length) (h24 : rows.length ≤ 24) : ∀ (f : Nat) (p : List Int) (m last : Nat) (cost : Int), walkP rows p = some (m, last, cost) → f = rows.length - 1 - p.length → (lvT rows f p).length = factN f ∧ (lvT rows f p).Nodup ∧ ∀ y ∈ lvT rows f p, (∃ s, walkP rows y = some s) ∧ y.length = rows.length - 1
  | 0, p, m, last, cost, hp, hf => by
    have hlen := walkP_len h1 h24 hp
    refine ⟨rfl, List.nodup_cons.2 ⟨List.not_mem_nil, List.Pairwise.nil⟩, fun y hy => ?_⟩
    simp [lvT] at hy
    subst hy
    exact ⟨⟨_, hp⟩, by omega⟩
  | f + 1, p, m, last, cost, hp, hf => by
    have hlen := walkP_len h1 h24 hp
    obtain ⟨l, k1, k2, _⟩ := kidsT_of hp
    have ih : ∀ x ∈ (kidsT rows p).1.reverse, (lvT rows f (p ++ [x])).length = factN f ∧ (lvT rows f (p ++ [x])).Nodup ∧ ∀ y ∈ lvT rows f (p ++ [x]), (∃ s, walkP rows y = some s) ∧ y.length = rows.length - 1 := fun x hx => by
      rw [k1] at hx
      obtain ⟨c, hc, rfl⟩ := List.mem_map.1 (List.mem_reverse.1 hx)
      exact lvT_ok h1 h24 f _ _ _ _ (walkP_snoc h1 h24 hp (k2.mem_iff.1 hc)) (by rw [List.length_append, List.length_singleton]; omega)
    refine ⟨?_, ?_, fun y hy => ?_⟩
    · show ((kidsT rows p).1.reverse.flatMap fun x => lvT rows f (p ++ [x])).length = _
      rw [List.length_flatMap, sum_const _ (factN f) _ fun x hx => (ih x hx).1, List.length_reverse, k1, intsN_len, k2.length_eq, show (memsM m).length = f + 1 by omega]
      rfl
    · show ((kidsT rows p).1.reverse.flatMap fun x => lvT rows f (p ++ [x])).Pairwise _
      rw [List.pairwise_flatMap]
      refine ⟨fun x hx => (ih x hx).2.1, ?_⟩
      have hnd : (kidsT rows p).1.reverse.Nodup := by
        rw [k1]
        refine List.pairwise_reverse.2 ?_
        have hl : l.Nodup := k2.nodup_iff.2 ((memsM_sorted m).imp fun h => Nat.ne_of_lt h)
        unfold intsN
        exact List.Pairwise.map _ (fun a b h e => h (by omega)) hl
      refine hnd.imp fun {a b} hab => ?_
      intro x hx y hy e
      obtain ⟨s, rfl⟩ := lvT_ext f _ x hx
      obtain ⟨s', hs⟩ := lvT_ext f _ y hy
      rw [hs] at e
      simp only [List.append_assoc, List.append_cancel_left_eq, List.singleton_append, List.cons.injEq] at e
      exact hab e.1
    · simp only [lvT, List.mem_flatMap] at hy
      obtain ⟨x, hx, hy⟩ := hy
      exact (ih x hx).2.2 y hy
theorem walkP_root : walkP rows [] = some (restM rows.length, 0, 0) := by
  unfold walkP
  rw [if_neg (by simp)]
  rfl
theorem tree_tour (h1 : 1 ≤ rows.length) (h5 : rows.length ≤ 6) : TreeP (rows.length - 1) (fun p => ∃ s, walkP rows p = some s) (fun p => (kidsT rows p).1) (fun p => lvT rows (rows.length - 1 - p.length) p) (fun p => 0 :: p) (factN (rows.length - 1)) := by
  have h24 : rows.length ≤ 24 := by omega
  have hroot := lvT_ok h1 h24 (rows.length - 1 - 0) [] _ _ _ walkP_root rfl
  refine ⟨⟨_, walkP_root⟩, ?_, ?_, ?_, ?_, ?_, ?_, ?_, ?_, hroot.1, ?_⟩
  · rintro p ⟨⟨m, last, cost⟩, h⟩
    have := walkP_len h1 h24 h
    omega
  · rintro p ⟨⟨m, last, cost⟩, h⟩
    rw [(lvT_ok h1 h24 _ p m last cost h rfl).1]
    exact factN_pos _
  · rintro p ⟨⟨m, last, cost⟩, h⟩ hl
    rw [hl, Nat.sub_self]
    rfl
  · rintro p ⟨⟨m, last, cost⟩, h⟩ hl
    obtain ⟨l, k1, k2, _⟩ := kidsT_of h
    have hlen := walkP_len h1 h24 h
    rw [k1]
    have : l = [] := List.eq_nil_of_length_eq_zero (by rw [k2.length_eq]; omega)
    subst this
    rfl
  · rintro p ⟨⟨m, last, cost⟩, h⟩ hl
    show lvT rows (rows.length - 1 - p.length) p = _
    rw [show rows.length - 1 - p.length = (rows.length - 1 - (p.length + 1)) + 1 by omega]
    show (kidsT rows p).1.reverse.flatMap _ = _
    congr 1
    funext x
    show _ = lvT rows (rows.length - 1 - (p ++ [x]).length) (p ++ [x])
    rw [List.length_append, List.length_singleton]
  · rintro p ⟨⟨m, last, cost⟩, h⟩ hl x hx
    obtain ⟨l, k1, k2, _⟩ := kidsT_of h
    rw [k1] at hx
    obtain ⟨c, hc, rfl⟩ := List.mem_map.1 hx
    exact ⟨_, walkP_snoc h1 h24 h (k2.mem_iff.1 hc)⟩
  · rintro p ⟨⟨m, last, cost⟩, h⟩ hl
    obtain ⟨l, k1, k2, _⟩ := kidsT_of h
    have hlen := walkP_len h1 h24 h
    rw [k1, intsN_len, k2.length_eq]
    omega
  · show (lvT rows (rows.length - 1 - 0) []).length ≤ 3000
    rw [hroot.1]
    have := factN_le5 (n := rows.length - 1 - 0) (by omega)
    omega
  · show ((lvT rows (rows.length - 1 - 0) []).map fun p => 0 :: p).Nodup
    exact List.Pairwise.map _ (fun a b h e => h (List.cons.inj e).2) hroot.2.1
end
end Go.Proofs.YtpngflmngnjjoaaDoor
