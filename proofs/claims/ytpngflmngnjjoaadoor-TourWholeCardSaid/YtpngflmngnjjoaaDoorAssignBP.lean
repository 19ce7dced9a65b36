/-
  An assignment, plainly: what the columns of a beginning are; no answer that begins so costs less than the bound; the least cost by trying.
-/
import Derived.Test.YtpngflmngnjjoaaDoorRefFcd
namespace Go.Proofs.YtpngflmngnjjoaaDoor

theorem clr_mem {m c x : Nat} (h : m < 18446744073709551616) : x ∈ memsM (clrM m c) ↔ x ∈ memsM m ∧ x ≠ c := by
  rw [memsM_clr h, List.mem_filter]
  constructor
  · rintro ⟨h1, h2⟩
    exact ⟨h1, fun e => by subst e; simp at h2⟩
  · rintro ⟨h1, h2⟩
    exact ⟨h1, by simp; exact fun e => h2 e.symm⟩
/-- a beginning's columns -/
theorem freeM_cols {n : Nat} : ∀ {p : List Int} {m q : Nat}, SubN n m → freeM m p = some q → ∃ l : List Nat, p = intsN l ∧ l.Nodup ∧ (∀ x ∈ l, x ∈ memsM m) ∧ ∀ x, x ∈ memsM q ↔ x ∈ memsM m ∧ x ∉ l
  | [], m, q, _, e => by
    simp only [freeM, Option.some.injEq] at e
    subst e
    exact ⟨[], rfl, List.Pairwise.nil, by simp, by simp⟩
  | c :: p, m, q, h, e => by
    unfold freeM at e
    split at e
    · rename_i hc
      obtain ⟨l, rfl, h1, h2, h3⟩ := freeM_cols (h.clr _) e
      have hm : c.toNat ∈ memsM m := memsM_mem.2 ⟨by omega, hc.2.2⟩
      have hnot : c.toNat ∉ l := fun hl => ((clr_mem h.1).1 (h2 _ hl)).2 rfl
      refine ⟨c.toNat :: l, ?_, List.nodup_cons.2 ⟨hnot, h1⟩, ?_, fun x => ?_⟩
      · simp only [intsN, List.map_cons, List.cons.injEq, and_true]
        omega
      · intro x hx
        rcases List.mem_cons.1 hx with rfl | hx
        · exact hm
        · exact ((clr_mem h.1).1 (h2 x hx)).1
      · rw [h3 x, clr_mem h.1]
        simp only [List.mem_cons, not_or]
        exact ⟨fun ⟨⟨a, b⟩, c⟩ => ⟨a, b, c⟩, fun ⟨a, b, c⟩ => ⟨⟨a, b⟩, c⟩⟩
    · cases e
theorem freeP_cols {n : Nat} (h24 : n ≤ 24) {p : List Int} {q : Nat} (e : freeP n p = some q) : ∃ l : List Nat, p = intsN l ∧ l.Nodup ∧ (∀ x ∈ l, x < n) ∧ ∀ x, x ∈ memsM q ↔ x < n ∧ x ∉ l := by
  unfold freeP at e
  split at e
  · cases e
  · obtain ⟨l, h1, h2, h3, h4⟩ := freeM_cols (subN_full h24) e
    have hm : ∀ x, x ∈ memsM (2 ^ n - 1) ↔ x < n := fun x => by rw [memsM_full (by omega), List.mem_range]
    exact ⟨l, h1, h2, fun x hx => (hm x).1 (h3 x hx), fun x => by rw [h4 x, hm x]⟩
/-- one step on -/
theorem freeP_snoc {n : Nat} (h24 : n ≤ 24) {p : List Int} {m c : Nat} (e : freeP n p = some m) (hc : c ∈ memsM m) : freeP n (p ++ [(c : Int)]) = some (clrM m c) := by
  have hlen := freeP_len h24 e
  have hpos : 0 < (memsM m).length := List.length_pos_of_mem hc
  unfold freeP at e ⊢
  rw [if_neg (by omega)] at e
  rw [if_neg (by rw [List.length_append, List.length_singleton]; omega)]
  have key : ∀ {p : List Int} {m0 : Nat}, freeM m0 p = some m → freeM m0 (p ++ [(c : Int)]) = some (clrM m c) := by
    intro p
    induction p with
    | nil =>
      intro m0 h
      simp only [freeM, Option.some.injEq] at h
      subst h
      have := memsM_mem.1 hc
      show freeM m0 ((c : Int) :: []) = _
      unfold freeM
      rw [if_pos ⟨by omega, by omega, by rw [Int.toNat_natCast]; exact this.2⟩, Int.toNat_natCast]
      rfl
    | cons d p ih =>
      intro m0 h
      show freeM m0 (d :: (p ++ [(c : Int)])) = _
      unfold freeM at h ⊢
      split at h
      · rename_i hd
        rw [if_pos hd]
        exact ih h
      · cases h
  exact key e
theorem costF_app : ∀ (rows : List (List Int)) (p q : List Int), costF rows (p ++ q) = costF rows p + costF (rows.drop p.length) q
  | rows, [], q => by cases rows <;> simp [costF]
  | [], c :: p, q => by simp [costF]
  | r :: rows, c :: p, q => by
    have := costF_app rows p q
    simp only [List.cons_append, costF, List.length_cons, List.drop_succ_cons]
    omega
theorem colF_le {c : Nat} : ∀ {rows : List (List Int)} {off : List Int} {b : Int}, (∀ (k : Nat) (x : List Int) (o : Int), rows[k]? = some x → off[k]? = some o → 0 ≤ x.getD c 0 - o) → (0 ≤ b → colF c b rows off ≤ b) ∧ ∀ (k : Nat) (x : List Int) (o : Int), rows[k]? = some x → off[k]? = some o → colF c b rows off ≤ x.getD c 0 - o
  | [], off, b, _ => ⟨fun _ => by cases off <;> exact Int.le_refl _, fun k x o h => by simp at h⟩
  | row :: rows, [], b, _ => ⟨fun _ => Int.le_refl _, fun k x o _ h => by simp at h⟩
  | row :: rows, o :: off, b, h => by
    have hx := h 0 row o rfl rfl
    have ih := colF_le (rows := rows) (off := off) (b := if b < 0 then row.getD c 0 - o else if row.getD c 0 - o < b then row.getD c 0 - o else b) (fun k x o h1 h2 => h (k + 1) x o h1 h2)
    unfold colF
    refine ⟨fun hb => ?_, fun k x o' h1 h2 => ?_⟩
    · refine Int.le_trans (ih.1 ?_) ?_ <;> split <;> (try split) <;> omega
    · cases k with
      | zero =>
        simp only [List.getElem?_cons_zero, Option.some.injEq] at h1 h2
        subst h1 h2
        refine Int.le_trans (ih.1 ?_) ?_ <;> split <;> (try split) <;> omega
      | succ k => exact ih.2 k x o' (by simpa using h1) (by simpa using h2)
/-- each row at its column costs no less than its least one and the column's -/
theorem costF_ge {F : Nat → Int} : ∀ {rows : List (List Int)} {off : List Int} {q : List Nat}, rows.length = q.length → off.length = q.length → (∀ (k c : Nat) (x : List Int) (o : Int), rows[k]? = some x → off[k]? = some o → q[k]? = some c → o + F c ≤ x.getD c 0) → sumL off + sumL (q.map F) ≤ costF rows (intsN q)
  | [], off, q, h1, h2, _ => by
    have : q = [] := List.eq_nil_of_length_eq_zero (by simpa using h1.symm)
    subst this
    have : off = [] := List.eq_nil_of_length_eq_zero (by simpa using h2)
    subst this
    simp [sumL, costF, intsN]
  | r :: rows, [], q, h1, h2, _ => by
    exfalso
    simp at h1 h2
    omega
  | r :: rows, o :: off, [], h1, _, _ => by simp at h1
  | r :: rows, o :: off, c :: q, h1, h2, h => by
    have h3 := h 0 c r o rfl rfl rfl
    have ih := costF_ge (F := F) (rows := rows) (off := off) (q := q) (by simpa using h1) (by simpa using h2) fun k c x o a b d => h (k + 1) c x o a b d
    simp only [intsN, List.map_cons, sumL, costF] at ih ⊢
    rw [Int.toNat_natCast]
    omega
theorem leastN_eq (row : List Int) (l : List Nat) : leastN (fun c => row.getD c 0) (-1) l = leastL (-1) (l.map fun c => row.getD c 0) := (leastL_map _ _ _).symm
theorem reduce_le {rows : List (List Int)} {l q : List Nat} (hq : q.Perm l) (hl : rows.length = l.length) (num : ∀ row ∈ rows, ∀ c ∈ l, 0 ≤ row.getD c 0) : reduceP rows l ≤ costF rows (intsN q) := by
  have ho : ∀ (k : Nat) (x : List Int) (o : Int), rows[k]? = some x → (offL rows l)[k]? = some o → ∀ c ∈ l, 0 ≤ x.getD c 0 - o := fun k x o h1 h2 c hc => by
    unfold offL at h2
    rw [List.getElem?_map, h1] at h2
    obtain rfl := Option.some.inj h2
    have hx := List.mem_of_getElem? h1
    have h3 := (leastL_le (l := l.map fun c => x.getD c 0) (b := -1) fun y hy => by
      obtain ⟨c', hc', rfl⟩ := List.mem_map.1 hy
      exact num x hx c' hc').1 (x.getD c 0) (List.mem_map.2 ⟨c, hc, rfl⟩)
    show 0 ≤ x.getD c 0 - leastN (fun c => x.getD c 0) (-1) l
    rw [leastN_eq]
    omega
  have h := costF_ge (F := fun c => colF c (-1) rows (offL rows l)) (rows := rows) (off := offL rows l) (q := q) (by rw [hq.length_eq]; exact hl) (by simp [offL, hq.length_eq, hl]) fun k c x o h1 h2 h3 => by
    have hc : c ∈ l := hq.mem_iff.1 (List.mem_of_getElem? h3)
    have := (colF_le (c := c) (b := -1) (rows := rows) (off := offL rows l) fun k x o a b => ho k x o a b c hc).2 k x o h1 h2
    omega
  have e := sumL_perm (hq.map fun c => colF c (-1) rows (offL rows l))
  unfold reduceP
  omega
theorem sumL_pos {l : List Int} (h : ∀ x ∈ l, 0 ≤ x) : 0 ≤ sumL l := sumL_nonneg h
theorem reduce_pos {rows : List (List Int)} {l : List Nat} (hl : l ≠ []) (hr : rows ≠ []) (num : ∀ row ∈ rows, ∀ c ∈ l, 0 ≤ row.getD c 0 ∧ row.getD c 0 ≤ 2147483647) : 0 ≤ reduceP rows l := by
  have ho : ∀ x ∈ offL rows l, 0 ≤ x ∧ x ≤ 2147483647 := fun x hx => by
    obtain ⟨row, h, rfl⟩ := List.mem_map.1 hx
    rw [leastN_eq]
    refine leastL_bd (fun y hy => ?_) (by omega) (.inr (by simpa using hl))
    obtain ⟨c, hc, rfl⟩ := List.mem_map.1 hy
    exact num row h c hc
  have hc : ∀ x ∈ l.map (fun c => colF c (-1) rows (offL rows l)), 0 ≤ x := fun x hx => by
    obtain ⟨c, hc, rfl⟩ := List.mem_map.1 hx
    refine (colF_pos (B := 2147483647) (fun k x o h1 h2 => ?_) (by simp [offL]) (by omega) (.inr hr)).1
    have hx := List.mem_of_getElem? h1
    have hob := ho o (List.mem_of_getElem? h2)
    unfold offL at h2
    rw [List.getElem?_map, h1] at h2
    obtain rfl := Option.some.inj h2
    have h3 := (leastL_le (l := l.map fun c => x.getD c 0) (b := -1) fun y hy => by
      obtain ⟨c', hc', rfl⟩ := List.mem_map.1 hy
      exact (num x hx c' hc').1).1 (x.getD c 0) (List.mem_map.2 ⟨c, hc, rfl⟩)
    have h4 := num x hx c hc
    simp only [leastN_eq] at hob ⊢
    omega
  have h1 := sumL_pos fun x hx => (ho x hx).1
  have h2 := sumL_pos hc
  unfold reduceP
  omega
/-- the least cost of all answers that begin so, by trying -/
def bestA (rows : List (List Int)) (n : Nat) : Nat → List Int → Int
  | 0, p => costF rows p
  | f + 1, p => leastF (fun x => bestA rows n f (p ++ [x])) (-1) (match freeP n p with | none => [] | some m => intsN (memsM m))
theorem leastF_in {f : Int → Int} : ∀ {l : List Int} {b : Int}, (∀ x ∈ l, 0 ≤ f x) → (0 ≤ b ∨ l ≠ []) → (leastF f b l = b ∧ 0 ≤ b) ∨ ∃ x ∈ l, leastF f b l = f x
  | [], b, _, h => by
    rcases h with h | h
    · exact .inl ⟨rfl, h⟩
    · exact absurd rfl h
  | x :: l, b, h, _ => by
    have hx := h x (by simp)
    have ih := leastF_in (f := f) (l := l) (b := if b < 0 then f x else if f x < b then f x else b) (fun y hy => h y (by simp [hy])) (.inl (by split <;> (try split) <;> omega))
    unfold leastF
    rcases ih with ⟨e, _⟩ | ⟨y, hy, e⟩
    · rw [e]
      split
      · exact .inr ⟨x, by simp, rfl⟩
      · split
        · exact .inr ⟨x, by simp, rfl⟩
        · exact .inl ⟨rfl, by omega⟩
    · exact .inr ⟨y, by simp [hy], e⟩
theorem best_some {rows : List (List Int)} (h24 : rows.length ≤ 24) (num : ∀ row ∈ rows, ∀ c, c < rows.length → 0 ≤ row.getD c 0) : ∀ (f : Nat) (p : List Int) (m : Nat), freeP rows.length p = some m → f = rows.length - p.length → ∃ q : List Nat, q.Perm (memsM m) ∧ bestA rows rows.length f p = costF rows (p ++ intsN q)
  | 0, p, m, hp, hf => by
    have hlen := freeP_len h24 hp
    refine ⟨[], ?_, by simp [bestA, intsN]⟩
    rw [List.eq_nil_of_length_eq_zero (show (memsM m).length = 0 by omega)]
  | f + 1, p, m, hp, hf => by
    have hlen := freeP_len h24 hp
    have hsub := (freeP_in h24 hp).2.2
    have ih : ∀ c ∈ memsM m, ∃ q : List Nat, q.Perm (memsM (clrM m c)) ∧ bestA rows rows.length f (p ++ [(c : Int)]) = costF rows (p ++ [(c : Int)] ++ intsN q) := fun c hc =>
      best_some h24 num f _ _ (freeP_snoc h24 hp hc) (by rw [List.length_append, List.length_singleton]; omega)
    have hpos : ∀ x ∈ intsN (memsM m), 0 ≤ bestA rows rows.length f (p ++ [x]) := fun x hx => by
      obtain ⟨c, hc, rfl⟩ := List.mem_map.1 hx
      obtain ⟨q, h1, h2⟩ := ih c hc
      rw [h2]
      have hin := (freeP_in h24 hp).2.1
      have : ∀ (rs : List (List Int)) (l : List Int), (∀ row ∈ rs, row ∈ rows) → (∀ x ∈ l, 0 ≤ x ∧ x < rows.length) → 0 ≤ costF rs l := by
        intro rs
        induction rs with
        | nil => intro l _ _; simp [costF]
        | cons r rs ihr =>
          intro l h3 h4
          cases l with
          | nil => simp [costF]
          | cons d l =>
            have h5 := h4 d (by simp)
            have h6 := num r (h3 r (by simp)) d.toNat (by omega)
            have h7 := ihr l (fun y hy => h3 y (by simp [hy])) (fun y hy => h4 y (by simp [hy]))
            simp only [costF]
            omega
      refine this rows _ (fun _ h => h) fun y hy => ?_
      rcases List.mem_append.1 hy with hy | hy
      · rcases List.mem_append.1 hy with hy | hy
        · exact hin y hy
        · obtain rfl := List.mem_singleton.1 hy
          have := hsub.2 c hc
          omega
      · obtain ⟨d, hd, rfl⟩ := List.mem_map.1 hy
        have := hsub.2 d (((clr_mem hsub.1).1 (h1.mem_iff.1 hd)).1)
        omega
    have hne : memsM m ≠ [] := by
      intro e
      rw [e] at hlen
      simp at hlen
      omega
    have e : bestA rows rows.length (f + 1) p = leastF (fun x => bestA rows rows.length f (p ++ [x])) (-1) (intsN (memsM m)) := by
      show leastF _ (-1) (match freeP rows.length p with | none => [] | some m => intsN (memsM m)) = _
      rw [hp]
    rcases leastF_in (b := -1) hpos (.inr (by simpa [intsN] using hne)) with ⟨_, h⟩ | ⟨x, hx, h⟩
    · omega
    · obtain ⟨c, hc, rfl⟩ := List.mem_map.1 hx
      obtain ⟨q, h1, h2⟩ := ih c hc
      refine ⟨c :: q, ?_, ?_⟩
      · refine (h1.cons c).trans ?_
        refine (List.perm_ext_iff_of_nodup ?_ ((memsM_sorted m).imp fun h => Nat.ne_of_lt h)).2 fun x => ?_
        · refine List.nodup_cons.2 ⟨fun h => ((clr_mem hsub.1).1 h).2 rfl, (memsM_sorted _).imp fun h => Nat.ne_of_lt h⟩
        · rw [List.mem_cons, clr_mem hsub.1]
          constructor
          · rintro (rfl | ⟨h, _⟩)
            · exact hc
            · exact h
          · intro h
            by_cases e : x = c
            · exact .inl e
            · exact .inr ⟨h, e⟩
      · rw [e, h, h2]
        simp [intsN]
theorem bounda_below {rows : List (List Int)} (ok : RowsOk rows) {p : List Int} {m : Nat} (hp : freeP rows.length p = some m) : 0 ≤ (boundA rows p).1 ∧ (boundA rows p).1 ≤ bestA rows rows.length (rows.length - p.length) p ∧ (boundA rows p).2 = 0 := by
  have h24 := ok.n2
  have hlen := freeP_len h24 hp
  obtain ⟨hpl, hin, hsub⟩ := freeP_in h24 hp
  have num : ∀ row ∈ rows, ∀ c, c < rows.length → 0 ≤ row.getD c 0 := fun row hr c hc => (ok.get hr hc).1
  obtain ⟨q, h1, h2⟩ := best_some h24 num _ p m hp rfl
  have hb : boundA rows p = (costF rows p + (if p.length < rows.length then reduceP (rows.drop p.length) (memsM m) else 0), 0) := by unfold boundA; rw [hp]
  have hc := (costF_bd (B := 2147483647) (rows := rows) (p := p) (by omega) fun row hr c hc => by
    have := hin c hc
    exact ok.get hr (by omega)).1
  rw [hb, h2, costF_app]
  simp only
  by_cases hlt : p.length < rows.length
  · rw [if_pos hlt]
    have h3 := reduce_le (rows := rows.drop p.length) h1 (by rw [List.length_drop]; omega) fun row hr c hc => num row (List.mem_of_mem_drop hr) c (hsub.2 c hc)
    have h4 := reduce_pos (rows := rows.drop p.length) (l := memsM m) (by intro e; rw [e] at hlen; simp at hlen; omega) (by intro e; have := congrArg List.length e; rw [List.length_drop] at this; simp at this; omega) fun row hr c hc => ok.get (List.mem_of_mem_drop hr) (hsub.2 c hc)
    exact ⟨by omega, by omega, trivial⟩
  · rw [if_neg hlt]
    have : q = [] := List.eq_nil_of_length_eq_zero (by rw [h1.length_eq]; omega)
    subst this
    have e : costF (rows.drop p.length) (intsN []) = 0 := by cases rows.drop p.length <;> rfl
    rw [e]
    exact ⟨by omega, by omega, trivial⟩
theorem whole_cols {n : Nat} (h24 : n ≤ 24) {p : List Int} {m : Nat} (hp : freeP n p = some m) (hl : p.length = n) : ∃ l : List Nat, p = intsN l ∧ l.Perm (List.range n) := by
  obtain ⟨l, h1, h2, h3, h4⟩ := freeP_cols h24 hp
  have hlen := freeP_len h24 hp
  have he : memsM m = [] := List.eq_nil_of_length_eq_zero (by omega)
  refine ⟨l, h1, (List.perm_ext_iff_of_nodup h2 List.nodup_range).2 fun x => ?_⟩
  rw [List.mem_range]
  refine ⟨h3 x, fun hx => ?_⟩
  by_cases hxl : x ∈ l
  · exact hxl
  · exfalso
    have := (h4 x).2 ⟨hx, hxl⟩
    rw [he] at this
    cases this
end Go.Proofs.YtpngflmngnjjoaaDoor
