/-
  A certificate's word, plainly: what is taken of it behind a beginning; that a stack of beginnings does the same; that a word that is taken shows the least cost.
  The kernel of a problem's kind, plainly: what may follow, what it costs at least; the search over it.
  What the checker knows of a problem, plainly: a knapsack's order and bound.
  The document's great numbers, of two parts: a number's size, a product, which is less, a difference.
    The document's great numbers: products of small numbers.
    The document's Times, of small numbers.
  The document's great numbers with a sign: of small numbers, products.
  The document's great numbers: which is less, and a difference.
  The document's great numbers with a sign: a sum of two of other signs.
  The document's Cmp, of products of small numbers.
  The document's word on which of two items stands ahead.
  The document's ByRatio.
  The document's kernel of a knapsack: where a beginning has come to.
  What the checker knows of a problem of any kind, plainly: how deep, which numbers may follow (rising), what it costs at least.
  The word of the document's search, by a list of beginnings that wait; that it is read as a whole search; how long it is.
  The document's Perm (kurganref08), of all lists.
  The document's Cost (kurganref08), of all problems and lists.
  The least cost behind the empty beginning is that of all answers.
  value.Value of all problems and lists; kurganref08.Of.
  An answer, as the checker goes through it.
-/
import Derived.Test.YtcpadkaljnnieaaCheckWordsP4
namespace Go.Proofs.Ytcpadkaljnnieaa

abbrev Wd : Type := List UInt8
/-- one kid behind the other, till an error -/
def seqC (g : Int → Wd → Int × Wd) : List Int → Wd → Int × Wd
  | [], w => (0, w)
  | n :: l, w => if (g n w).1 = 0 then seqC g l (g n w).2 else g n w
/-- the letters of a beginning and of all that is behind it: the error, and what is left of the word -/
def nodeC (D : Nat) (kids : List Int → List Int) (bound : List Int → Int) (cost : Int) : Nat → List Int → Wd → Int × Wd
  | 0, _, w => (0, w)
  | _ + 1, _, [] => (6, [])
  | f + 1, p, c :: w =>
    if c = 98 then (if p.length = D then (8, w) else seqC (fun n v => nodeC D kids bound cost f (p ++ [n]) v) (kids p) w)
    else if c = 108 then (if p.length = D then (if bound p < cost then (13, w) else (0, w)) else (8, w))
    else if c = 112 then (if bound p < cost then (13, w) else (0, w))
    else (2, w)
/-- the whole check -/
def wholeC (D : Nat) (kids : List Int → List Int) (bound : List Int → Int) (cost : Int) (w : Wd) : Int :=
  if (nodeC D kids bound cost (D + 1) [] w).1 = 0 then (if (nodeC D kids bound cost (D + 1) [] w).2 = [] then 0 else 7) else (nodeC D kids bound cost (D + 1) [] w).1
section
variable {D : Nat} {kids : List Int → List Int} {bound : List Int → Int} {cost : Int}
theorem nodeC_cons (f : Nat) (c : UInt8) (w : Wd) (p : List Int) : nodeC D kids bound cost (f + 1) p (c :: w) = if c = 98 then (if p.length = D then (8, w) else seqC (fun n v => nodeC D kids bound cost f (p ++ [n]) v) (kids p) w)
    else if c = 108 then (if p.length = D then (if bound p < cost then (13, w) else (0, w)) else (8, w))
    else if c = 112 then (if bound p < cost then (13, w) else (0, w))
    else (2, w) := by rw [nodeC]
end
section
variable {D : Nat} {kids : List Int → List Int} {bound : List Int → Int} {okp : List Int → Prop} {bx : List Int → Int} {cost : Int}
/-- the word that the document's search gives, behind a beginning -/
def wordC (D : Nat) (kids : List Int → List Int) (bound : List Int → Int) (cost : Int) : Nat → List Int → Wd
  | 0, _ => []
  | f + 1, p => if cost ≤ bound p then [112] else if p.length = D then [108] else 98 :: ((kids p).map fun n => wordC D kids bound cost f (p ++ [n])).flatten
/-- it is taken as far as no answer of less cost comes -/
theorem node_word (H : KrnOk D kids bound okp bx) : ∀ (f : Nat) (p : List Int) (r : Wd), okp p → f + p.length = D + 1 →
    (cost ≤ bx p → nodeC D kids bound cost f p (wordC D kids bound cost f p ++ r) = (0, r)) ∧ (bx p < cost → (nodeC D kids bound cost f p (wordC D kids bound cost f p ++ r)).1 = 13)
  | 0, p, r, ho, hf => by have := H.len p ho; omega
  | f + 1, p, r, ho, hf => by
    have hl := H.len p ho
    have hlow := H.low p ho
    unfold wordC
    by_cases h1 : cost ≤ bound p
    · rw [if_pos h1]
      refine ⟨fun _ => ?_, fun h => by omega⟩
      simp only [List.cons_append, List.nil_append, nodeC]
      simp [show ¬ bound p < cost by omega]
    · rw [if_neg h1]
      by_cases h2 : p.length = D
      · rw [if_pos h2]
        have h3 := H.leaf p ho h2
        refine ⟨fun h => by omega, fun _ => ?_⟩
        simp only [List.cons_append, List.nil_append, nodeC]
        simp [h2, show bound p < cost by omega]
      · rw [if_neg h2]
        have hlt : p.length < D := by omega
        have key : ∀ (l : List Int) (r : Wd), (∀ n ∈ l, okp (p ++ [n])) →
            ((∀ n ∈ l, cost ≤ bx (p ++ [n])) → seqC (fun n v => nodeC D kids bound cost f (p ++ [n]) v) l ((l.map fun n => wordC D kids bound cost f (p ++ [n])).flatten ++ r) = (0, r)) ∧ ((∃ n ∈ l, bx (p ++ [n]) < cost) → (seqC (fun n v => nodeC D kids bound cost f (p ++ [n]) v) l ((l.map fun n => wordC D kids bound cost f (p ++ [n])).flatten ++ r)).1 = 13) := by
          intro l
          induction l with
          | nil => intro r _; exact ⟨fun _ => rfl, fun ⟨n, hn, _⟩ => by cases hn⟩
          | cons m l ih =>
            intro r hk
            have h3 := node_word H f (p ++ [m]) ((l.map fun n => wordC D kids bound cost f (p ++ [n])).flatten ++ r) (hk m (by simp)) (by simp; omega)
            simp only [List.map_cons, List.flatten_cons, seqC, List.append_assoc]
            by_cases hm : cost ≤ bx (p ++ [m])
            · rw [h3.1 hm]
              simp only [if_true]
              obtain ⟨i1, i2⟩ := ih r fun n hn => hk n (by simp [hn])
              refine ⟨fun h => i1 fun n hn => h n (by simp [hn]), fun ⟨n, hn, hb⟩ => ?_⟩
              rcases List.mem_cons.1 hn with rfl | hn
              · omega
              · exact i2 ⟨n, hn, hb⟩
            · have h4 := h3.2 (by omega)
              rw [if_neg (by rw [h4]; decide)]
              exact ⟨fun h => absurd (h m (by simp)) hm, fun _ => h4⟩
        obtain ⟨⟨n, hn, en⟩, hall⟩ := H.node p ho hlt
        obtain ⟨k1, k2⟩ := key (kids p) r (H.kid p ho hlt)
        simp only [List.cons_append, nodeC]
        simp only [h2, if_true, if_false]
        refine ⟨fun h => k1 fun m hm => ?_, fun h => k2 ⟨n, hn, by omega⟩⟩
        have := hall m hm
        omega
/-- the search's word is taken just of a best answer's cost -/
theorem whole_word (H : KrnOk D kids bound okp bx) (h0 : okp []) : wholeC D kids bound cost (wordC D kids bound cost (D + 1) []) = 0 ↔ cost ≤ bx [] := by
  obtain ⟨k1, k2⟩ := node_word (cost := cost) H (D + 1) [] [] h0 (by simp)
  rw [List.append_nil] at k1 k2
  unfold wholeC
  by_cases h : cost ≤ bx []
  · rw [k1 h]
    simp [h]
  · have h2 := k2 (by omega)
    rw [if_neg (by rw [h2]; decide), h2]
    simp [h]
end
end Go.Proofs.Ytcpadkaljnnieaa
namespace Go.Proofs.Ytcpadkaljnnieaa

theorem leastF_le {f : Int → Int} : ∀ {l : List Int} {b : Int}, (∀ x ∈ l, 0 ≤ f x) → (∀ x ∈ l, leastF f b l ≤ f x) ∧ (0 ≤ b → leastF f b l ≤ b)
  | [], b, _ => ⟨(fun x hx => by cases hx), fun _ => Int.le_refl _⟩
  | y :: l, b, h => by
    have hy := h y (by simp)
    have ih := leastF_le (l := l) (b := if b < 0 then f y else if f y < b then f y else b) fun x hx => h x (by simp [hx])
    have hb : 0 ≤ (if b < 0 then f y else if f y < b then f y else b) := by split <;> (try split) <;> omega
    have h2 := ih.2 hb
    refine ⟨fun x hx => ?_, fun h0 => ?_⟩
    · rcases List.mem_cons.1 hx with rfl | hx
      · refine Int.le_trans h2 ?_
        split <;> (try split) <;> omega
      · exact ih.1 x hx
    · refine Int.le_trans h2 ?_
      split <;> (try split) <;> omega
theorem node_of {f : Int → Int} {l : List Int} {v : Int} (h : ∀ x ∈ l, 0 ≤ f x) (hne : l ≠ []) (e : leastF f (-1) l = v) : (∃ n ∈ l, f n = v) ∧ ∀ n ∈ l, v ≤ f n := by
  subst e
  refine ⟨?_, (leastF_le h).1⟩
  rcases leastF_in (b := -1) h (.inr hne) with ⟨_, h0⟩ | ⟨x, hx, h0⟩
  · omega
  · exact ⟨x, hx, h0.symm⟩
theorem node_perm {f : Int → Int} {l l' : List Int} {v : Int} (hp : ∀ x, x ∈ l ↔ x ∈ l') (h : (∃ n ∈ l, f n = v) ∧ ∀ n ∈ l, v ≤ f n) : (∃ n ∈ l', f n = v) ∧ ∀ n ∈ l', v ≤ f n :=
  ⟨by obtain ⟨n, hn, e⟩ := h.1; exact ⟨n, (hp n).1 hn, e⟩, fun n hn => h.2 n ((hp n).2 hn)⟩
/-- a knapsack's -/
theorem krn_knap {cap : Int} {ws vs : List Int} (h0 : 0 ≤ cap) (hw : ∀ x ∈ ws, 0 ≤ x) (hv : ∀ x ∈ vs, 0 ≤ x ∧ x ≤ 2147483647) (hl : ws.length = vs.length) (hf : Falls ws vs) :
    KrnOk ws.length (fun p => (kidsP cap ws vs p).1) (fun p => (boundP cap ws vs p).1) (fun p => ∃ q, stP cap 0 ws vs p = some q) (bestAt cap ws vs) where
  len := fun p ⟨q, h⟩ => by
    rcases Nat.lt_or_ge ws.length p.length with h1 | h1
    · rw [stP_long h1] at h; cases h
    · exact h1
  kid := fun p ⟨⟨r, o⟩, h⟩ hlt n hn => by
    obtain ⟨w, ws', e1⟩ : ∃ w ws', ws.drop p.length = w :: ws' := ⟨_, _, List.drop_eq_getElem_cons hlt⟩
    obtain ⟨v, vs', e2⟩ : ∃ v vs', vs.drop p.length = v :: vs' := ⟨_, _, List.drop_eq_getElem_cons (by omega)⟩
    have hr := (stP_room hw h0 h).1
    unfold kidsP at hn
    rw [h] at hn
    simp only [e1] at hn
    split at hn
    · rename_i hle
      simp at hn
      rcases hn with rfl | rfl
      · exact ⟨_, stP_snoc1 h e1 e2 hle⟩
      · exact ⟨_, stP_snoc0 h e1 e2 hr⟩
    · simp at hn
      subst hn
      exact ⟨_, stP_snoc0 h e1 e2 hr⟩
  leaf := fun p ⟨⟨r, o⟩, h⟩ hpl => by
    have := whole_at h hpl hl
    simp only [this.1, this.2]
  low := fun p ⟨⟨r, o⟩, h⟩ => by
    rcases bound_err cap ws vs p with he | ⟨_, he⟩
    · exact (bound_below h0 hw hv hl hf he).2
    · rw [h] at he; cases he
  node := fun p ⟨⟨r, o⟩, h⟩ hlt => by
    have hr := (stP_room hw h0 h).1
    have ho := (stP_out hv h).1
    have hvn : ∀ x ∈ vs, 0 ≤ x := fun x hx => (hv x hx).1
    have e := leastF_kids h hr hlt hl hvn ho
    obtain ⟨w, ws', e1⟩ : ∃ w ws', ws.drop p.length = w :: ws' := ⟨_, _, List.drop_eq_getElem_cons hlt⟩
    obtain ⟨v, vs', e2⟩ : ∃ v vs', vs.drop p.length = v :: vs' := ⟨_, _, List.drop_eq_getElem_cons (by omega)⟩
    have hvs : ∀ x ∈ v :: vs', 0 ≤ x := fun x hx => hvn x (List.mem_of_mem_drop (e2 ▸ hx))
    refine node_of (fun x hx => ?_) ?_ e
    · unfold kidsP at hx
      rw [h] at hx
      simp only [e1] at hx
      split at hx
      · rename_i hle
        simp at hx
        rcases hx with rfl | rfl
        · rw [bestAt_1 h e1 e2 hle]; exact bestP_nonneg ho fun x hx => hvs x (by simp [hx])
        · rw [bestAt_0 h e1 e2 hr]; exact bestP_nonneg (by have := hvs v (by simp); omega) fun x hx => hvs x (by simp [hx])
      · simp at hx
        subst hx
        rw [bestAt_0 h e1 e2 hr]
        exact bestP_nonneg (by have := hvs v (by simp); omega) fun x hx => hvs x (by simp [hx])
    · unfold kidsP
      rw [h]
      simp only [e1]
      split <;> simp
theorem krn_assign {rows : List (List Int)} (ok : RowsOk rows) :
    KrnOk rows.length (fun p => (kidsA rows p).1) (fun p => (boundA rows p).1) (fun p => ∃ m, freeP rows.length p = some m) (fun p => bestA rows rows.length (rows.length - p.length) p) where
  len := fun p ⟨m, h⟩ => by have := freeP_len ok.n2 h; omega
  kid := fun p ⟨m, h⟩ hlt n hn => by
    obtain ⟨l, e1, e2, _⟩ := kidsA_of h
    rw [e1] at hn
    obtain ⟨c, hc, rfl⟩ := List.mem_map.1 hn
    exact ⟨_, freeP_snoc ok.n2 h (e2.mem_iff.1 hc)⟩
  leaf := fun p ⟨m, h⟩ hpl => by
    have h1 := (bounda_below ok h).2.1
    obtain ⟨l, rfl, hl⟩ := whole_cols ok.n2 h hpl
    show (boundA rows (intsN l)).1 = _
    rw [show rows.length - (intsN l).length = 0 by omega]
    unfold boundA
    rw [h]
    simp only
    rw [if_neg (by omega), Int.add_zero]
    rfl
  low := fun p ⟨m, h⟩ => (bounda_below ok h).2.1
  node := fun p ⟨m, h⟩ hlt => by
    have hlen := freeP_len ok.n2 h
    obtain ⟨l, e1, e2, _⟩ := kidsA_of h
    obtain ⟨f, hf⟩ : ∃ f, rows.length - p.length = f + 1 := ⟨rows.length - p.length - 1, by omega⟩
    have ef : ∀ c : Int, rows.length - (p ++ [c]).length = f := fun c => by simp; omega
    have e : leastF (fun x => bestA rows rows.length f (p ++ [x])) (-1) (intsN (memsM m)) = bestA rows rows.length (rows.length - p.length) p := by
      rw [hf]
      show _ = leastF _ (-1) (match freeP rows.length p with | none => [] | some m => intsN (memsM m))
      rw [h]
    have hpos : ∀ x ∈ intsN (memsM m), 0 ≤ bestA rows rows.length f (p ++ [x]) := fun x hx => by
      obtain ⟨c, hc, rfl⟩ := List.mem_map.1 hx
      have h4 := bounda_below ok (freeP_snoc ok.n2 h hc)
      rw [ef] at h4
      omega
    have hN := node_of hpos (by intro h0; have := congrArg List.length h0; rw [intsN_len] at this; simp at this; rw [this] at hlen; simp at hlen; omega) e
    have hN2 := node_perm (l' := (kidsA rows p).1) (fun x => by
      rw [e1]
      constructor
      · intro hx
        obtain ⟨c, hc, rfl⟩ := List.mem_map.1 hx
        exact List.mem_map.2 ⟨c, e2.mem_iff.2 hc, rfl⟩
      · intro hx
        obtain ⟨c, hc, rfl⟩ := List.mem_map.1 hx
        exact List.mem_map.2 ⟨c, e2.mem_iff.1 hc, rfl⟩) hN
    refine ⟨?_, fun n hn => ?_⟩
    · obtain ⟨n, hn, e⟩ := hN2.1
      exact ⟨n, hn, by rw [ef]; exact e⟩
    · rw [ef]; exact hN2.2 n hn
theorem krn_tour {rows : List (List Int)} {mi : Bool} (ok : RowsOk rows) (num : ∀ a b, a < rows.length → b < rows.length → 0 ≤ costAt rows a b ∧ costAt rows a b ≤ 2147483647) (sym : mi = true → ∀ a b, a < rows.length → b < rows.length → costAt rows a b = costAt rows b a) :
    KrnOk (rows.length - 1) (fun p => (kidsT rows p).1) (fun p => (boundT rows mi p).1) (fun p => ∃ s, walkP rows p = some s) (fun p => bestT rows (rows.length - 1 - p.length) p) where
  len := fun p ⟨s, h⟩ => by have := walkP_len ok.n1 ok.n2 (m := s.1) (last := s.2.1) (cost := s.2.2) h; omega
  kid := fun p ⟨s, h⟩ hlt n hn => by
    obtain ⟨l, e1, e2, _⟩ := kidsT_of (m := s.1) (last := s.2.1) (cost := s.2.2) h
    rw [e1] at hn
    obtain ⟨c, hc, rfl⟩ := List.mem_map.1 hn
    exact ⟨_, walkP_snoc ok.n1 ok.n2 (m := s.1) (last := s.2.1) (cost := s.2.2) h (e2.mem_iff.1 hc)⟩
  leaf := fun p ⟨s, h⟩ hpl => by
    obtain ⟨l, WO⟩ := walk_ok ok.n1 ok.n2 (m := s.1) (last := s.2.1) (cost := s.2.2) h
    have hwl := WO.len
    have hll : l.length = rows.length - 1 := by rw [← hpl, WO.eq, intsN_len]
    have hm0 : memsM s.1 = [] := List.eq_nil_of_length_eq_zero (by omega)
    show (boundT rows mi p).1 = _
    have e1 : bestT rows (rows.length - 1 - p.length) p = pathT rows 0 l := by
      rw [show rows.length - 1 - p.length = 0 by omega]
      show pathT rows 0 (p.map Int.toNat) = _
      rw [WO.eq, toNat_ints]
    rw [e1]
    have e2 := pathT_app rows l [] 0
    rw [List.append_nil] at e2
    unfold boundT
    rw [h, e2]
    obtain ⟨m, last, cost⟩ := s
    simp only at hm0 WO ⊢
    simp only [hm0, if_true]
    rw [WO.cost, WO.last]
    rfl
  low := fun p ⟨s, h⟩ => (boundT_below (mirror := mi) ok.n1 ok.n2 num sym (m := s.1) (last := s.2.1) (cost := s.2.2) h).2.1
  node := fun p ⟨s, h⟩ hlt => by
    have hlen := walkP_len ok.n1 ok.n2 (m := s.1) (last := s.2.1) (cost := s.2.2) h
    obtain ⟨l, e1, e2, _⟩ := kidsT_of (m := s.1) (last := s.2.1) (cost := s.2.2) h
    obtain ⟨f, hf⟩ : ∃ f, rows.length - 1 - p.length = f + 1 := ⟨rows.length - 1 - p.length - 1, by omega⟩
    have ef : ∀ c : Int, rows.length - 1 - (p ++ [c]).length = f := fun c => by simp; omega
    have e : leastF (fun x => bestT rows f (p ++ [x])) (-1) (intsN (memsM s.1)) = bestT rows (rows.length - 1 - p.length) p := by
      rw [hf]
      show _ = leastF _ (-1) (match walkP rows p with | none => [] | some (m, _, _) => intsN (memsM m))
      rw [h]
    have hpos : ∀ x ∈ intsN (memsM s.1), 0 ≤ bestT rows f (p ++ [x]) := fun x hx => by
      obtain ⟨c, hc, rfl⟩ := List.mem_map.1 hx
      have h4 := boundT_below (mirror := mi) ok.n1 ok.n2 num sym (walkP_snoc ok.n1 ok.n2 (m := s.1) (last := s.2.1) (cost := s.2.2) h hc)
      rw [ef] at h4
      omega
    have hN := node_of hpos (by intro h0; have := congrArg List.length h0; rw [intsN_len] at this; simp at this; rw [this] at hlen; simp at hlen; omega) e
    have hN2 := node_perm (l' := (kidsT rows p).1) (fun x => by
      rw [e1]
      constructor
      · intro hx
        obtain ⟨c, hc, rfl⟩ := List.mem_map.1 hx
        exact List.mem_map.2 ⟨c, e2.mem_iff.2 hc, rfl⟩
      · intro hx
        obtain ⟨c, hc, rfl⟩ := List.mem_map.1 hx
        exact List.mem_map.2 ⟨c, e2.mem_iff.1 hc, rfl⟩) hN
    refine ⟨?_, fun n hn => ?_⟩
    · obtain ⟨n, hn, e⟩ := hN2.1
      exact ⟨n, hn, by rw [ef]; exact e⟩
    · rw [ef]; exact hN2.2 n hn
end Go.Proofs.Ytcpadkaljnnieaa
namespace Go.Proofs.Ytcpadkaljnnieaa

/-! an item is put in behind all that stand ahead of it -/
def posC (lt : Nat → Nat → Bool) (n : Nat) (l : List Nat) : Nat → Nat
  | 0 => 0
  | k + 1 => if lt n (l.getD k 0) = true then posC lt n l k else k + 1
def putC (n : Nat) (l : List Nat) (k : Nat) : List Nat := l.take k ++ n :: l.drop k
def insC (lt : Nat → Nat → Bool) (n : Nat) (l : List Nat) : List Nat := putC n l (posC lt n l l.length)
def ordC (lt : Nat → Nat → Bool) : Nat → List Nat
  | 0 => []
  | n + 1 => insC lt n (ordC lt n)
theorem posC_le (lt : Nat → Nat → Bool) (n : Nat) (l : List Nat) : ∀ k, posC lt n l k ≤ k
  | 0 => Nat.le_refl _
  | k + 1 => by
    unfold posC
    split
    · have := posC_le lt n l k; omega
    · exact Nat.le_refl _
theorem posC_back {lt : Nat → Nat → Bool} {n : Nat} {l : List Nat} : ∀ k j, posC lt n l k ≤ j → j < k → lt n (l.getD j 0) = true
  | 0, j, _, h => by omega
  | k + 1, j, h1, h2 => by
    unfold posC at h1
    split at h1
    · rename_i h
      by_cases hj : j = k
      · subst hj; exact h
      · exact posC_back k j h1 (by omega)
    · omega
theorem posC_at {lt : Nat → Nat → Bool} {n : Nat} {l : List Nat} : ∀ k, 0 < posC lt n l k → lt n (l.getD (posC lt n l k - 1) 0) = false
  | 0, h => by simp [posC] at h
  | k + 1, h => by
    unfold posC at h ⊢
    split
    · rename_i h1
      rw [if_pos h1] at h
      exact posC_at k h
    · rename_i h1
      simpa using h1
theorem putC_perm (n : Nat) (l : List Nat) (k : Nat) : (putC n l k).Perm (n :: l) := by
  unfold putC
  refine List.perm_middle.trans ?_
  rw [List.take_append_drop]
theorem insC_perm (lt : Nat → Nat → Bool) (n : Nat) (l : List Nat) : (insC lt n l).Perm (n :: l) := putC_perm _ _ _
theorem ordC_perm (lt : Nat → Nat → Bool) : ∀ n, (ordC lt n).Perm (List.range n)
  | 0 => List.Perm.refl _
  | n + 1 => by
    refine (insC_perm lt n _).trans ?_
    rw [List.range_succ]
    exact ((ordC_perm lt n).cons n).trans (List.perm_append_comm (l₁ := [n]) (l₂ := List.range n))
theorem ordC_len (lt : Nat → Nat → Bool) (n : Nat) : (ordC lt n).length = n := by rw [(ordC_perm lt n).length_eq, List.length_range]
theorem insC_sorted {lt : Nat → Nat → Bool} (h : Weak lt) {n : Nat} {l : List Nat} (hs : l.Pairwise (strictly lt)) (hn : ∀ x ∈ l, x < n) : (insC lt n l).Pairwise (strictly lt) := by
  have hk := posC_le lt n l l.length
  unfold insC putC
  have front : ∀ x ∈ l.take (posC lt n l l.length), strictly lt x n := fun x hx => by
    obtain ⟨j, hj, rfl⟩ := List.getElem_of_mem hx
    rw [List.length_take] at hj
    rw [List.getElem_take]
    have hp : 0 < posC lt n l l.length := by omega
    have hat := posC_at l.length hp
    have hq : posC lt n l l.length - 1 < l.length := by omega
    rw [List.getD, List.getElem?_eq_getElem hq] at hat
    simp only [Option.getD_some] at hat
    refine .inr ⟨?_, hn _ (List.getElem_mem _)⟩
    by_cases hj2 : j = posC lt n l l.length - 1
    · subst hj2; exact hat
    · have hst := List.pairwise_iff_getElem.1 hs j (posC lt n l l.length - 1) (by omega) hq (by omega)
      cases hc : lt n l[j] with
      | false => rfl
      | true =>
        rcases h.neg n (l[posC lt n l l.length - 1]) _ hc with h3 | h3
        · rw [hat] at h3; cases h3
        · have := strictly.le h hst
          rw [this] at h3; cases h3
  have back : ∀ x ∈ l.drop (posC lt n l l.length), strictly lt n x := fun x hx => by
    obtain ⟨j, hj, rfl⟩ := List.getElem_of_mem hx
    rw [List.length_drop] at hj
    rw [List.getElem_drop]
    have hb := posC_back (lt := lt) (n := n) (l := l) l.length (posC lt n l l.length + j) (by omega) (by omega)
    rw [List.getD, List.getElem?_eq_getElem (show posC lt n l l.length + j < l.length by omega)] at hb
    exact .inl hb
  rw [List.pairwise_append]
  refine ⟨hs.sublist (List.take_sublist _ _), List.pairwise_cons.2 ⟨back, hs.sublist (List.drop_sublist _ _)⟩, fun x hx y hy => ?_⟩
  rcases List.mem_cons.1 hy with rfl | hy
  · exact front x hx
  · exact h.trans (front x hx) (back y hy)
theorem ordC_sorted {lt : Nat → Nat → Bool} (h : Weak lt) : ∀ n, (ordC lt n).Pairwise (strictly lt)
  | 0 => List.Pairwise.nil
  | n + 1 => insC_sorted h (ordC_sorted h n) fun x hx => List.mem_range.1 ((ordC_perm lt n).mem_iff.1 hx)
/-- it is the order of the problem -/
theorem ordC_ratio {v w : List Int} (hw : ∀ x ∈ w, 0 ≤ x) : ordC (aheadB v w) v.length = ratioP v w :=
  List.Perm.eq_of_pairwise (le := strictly (aheadB v w)) (fun _ _ _ _ h3 h4 => absurd h4 ((aheadB_weak hw).asymm h3)) (ordC_sorted (aheadB_weak hw) _) (ratioP_sorted hw) ((ordC_perm _ _).trans (ratioP_perm v w).symm)
/-! what the rest of a knapsack leaves out, at least -/
def tailC (room : Int) : List Int → List Int → Int
  | w :: ws, v :: vs => if w ≤ room then tailC (room - w) ws vs else v + sumL vs - v * room / w
  | _, _ => 0
theorem tailC_eq : ∀ (ws vs : List Int) (room : Int), ws.length = vs.length → tailC room ws vs = sumL vs - bringsP room ws vs
  | [], [], _, _ => by simp [tailC, bringsP, sumL]
  | [], _ :: _, _, h => by simp at h
  | _ :: _, [], _, h => by simp at h
  | w :: ws, v :: vs, room, h => by
    have ih := tailC_eq ws vs (room - w) (by simpa using h)
    unfold tailC bringsP
    by_cases hw : w ≤ room
    · rw [if_pos hw, if_neg (by omega), ih]
      simp only [sumL]
      omega
    · rw [if_neg hw, if_pos (by omega)]
      rfl
/-- the room that a beginning leaves, and what it leaves out -/
def roomC (cap : Int) : List Int → List Int → Int
  | w :: ws, x :: p => roomC (cap - x * w) ws p
  | _, _ => cap
def outC (out : Int) : List Int → List Int → Int
  | v :: vs, x :: p => outC (out + (1 - x) * v) vs p
  | _, _ => out
theorem st_roomC : ∀ {p ws vs : List Int} {room out r o : Int}, stP room out ws vs p = some (r, o) → roomC room ws p = r ∧ outC out vs p = o
  | [], ws, vs, room, out, r, o, h => by
    have h' : some (room, out) = some (r, o) := by cases ws <;> cases vs <;> exact h
    injection h' with h'
    injection h' with h1 h2
    subst h1 h2
    exact ⟨by cases ws <;> rfl, by cases vs <;> rfl⟩
  | x :: p, [], vs, room, out, r, o, h => by cases vs <;> simp [stP] at h
  | x :: p, w :: ws, [], room, out, r, o, h => by simp [stP] at h
  | x :: p, w :: ws, v :: vs, room, out, r, o, h => by
    unfold stP at h
    unfold roomC outC
    by_cases h1 : x = 1
    · subst h1
      rw [if_pos rfl] at h
      split at h
      · cases h
      · have := st_roomC h
        simpa using this
    · rw [if_neg h1] at h
      by_cases h0 : x = 0
      · subst h0
        rw [if_pos rfl] at h
        split at h
        · cases h
        · have := st_roomC h
          simpa using this
      · rw [if_neg h0] at h; cases h
theorem bound_knapC {cap : Int} {ws vs p : List Int} {r o : Int} (hl : ws.length = vs.length) (h : stP cap 0 ws vs p = some (r, o)) : (boundP cap ws vs p).1 = outC 0 vs p + tailC (roomC cap ws p) (ws.drop p.length) (vs.drop p.length) := by
  obtain ⟨h1, h2⟩ := st_roomC h
  unfold boundP
  rw [h, h1, h2, tailC_eq _ _ _ (by simp [hl])]
  simp only
  omega
/-! rows and columns -/
theorem leastG_L : ∀ (l : List Int) (b : Int), (∀ x ∈ l, 0 ≤ x) → leastG b l = leastL b l
  | [], b, _ => rfl
  | x :: l, b, h => by
    have hx := h x (by simp)
    unfold leastG leastL
    rw [leastG_L l _ fun y hy => h y (by simp [hy])]
    congr 1
    by_cases h1 : b < 0
    · simp [h1, hx]
    · by_cases h2 : x < b
      · simp [h1, h2, hx]
      · simp [h1, h2, hx]
theorem colG_F : ∀ (rows : List (List Int)) (off : List Int) (c : Nat) (b : Int), (∀ row ∈ rows, 0 ≤ row.getD c 0) → colG c b rows off = colF c b rows off
  | [], off, c, b, _ => by cases off <;> rfl
  | _ :: _, [], c, b, _ => rfl
  | row :: rows, o :: off, c, b, h => by
    have hx := h row (by simp)
    unfold colG colF
    rw [colG_F rows off c _ fun y hy => h y (by simp [hy])]
    congr 1
    by_cases h1 : b < 0
    · rw [if_pos ⟨hx, .inl h1⟩, if_pos h1]
    · by_cases h2 : row.getD c 0 - o < b
      · rw [if_pos ⟨hx, .inr h2⟩, if_neg h1, if_pos h2]
      · rw [if_neg (by omega), if_neg h1, if_neg h2]
theorem getD_mem {row : List Int} {c : Nat} (h : c < row.length) : row.getD c 0 ∈ row := by
  rw [List.getD, List.getElem?_eq_getElem h]
  exact List.getElem_mem h
theorem reduceG_P {ms : List (List Int)} {L : Nat} {B : Int} (h0 : 0 < L) (hm : ms ≠ []) (hl : ∀ row ∈ ms, row.length = L) (num : ∀ row ∈ ms, ∀ x ∈ row, 0 ≤ x ∧ x ≤ B) : rreduceG ms L = rreduceP ms L := by
  have hne : ∀ row ∈ ms, row ≠ [] := fun row hr e => by have := hl row hr; rw [e] at this; simp at this; omega
  have hB : 0 ≤ B := by
    obtain ⟨row, hr⟩ := List.exists_mem_of_ne_nil ms hm
    obtain ⟨x, hx⟩ := List.exists_mem_of_ne_nil row (hne row hr)
    have := num row hr x hx
    omega
  have e1 : offG ms = offs ms := by
    unfold offG offs
    refine List.map_congr_left fun row hr => ?_
    rw [leastG_L row (-1) fun x hx => (num row hr x hx).1]
    have := (leastL_bd (b := -1) (num row hr) (by omega) (.inr (hne row hr))).1
    omega
  have e2 : rcolG ms L = rcols ms L := by
    unfold rcolG rcols
    refine List.map_congr_left fun c hc => ?_
    have hcL := List.mem_range.1 hc
    rw [e1, colG_F ms _ c (-1) fun row hr => (num row hr _ (getD_mem (by rw [hl row hr]; exact hcL))).1]
    have := (colF_pos (c := c) (B := B) (rows := ms) (off := offs ms) (b := -1) (fun k x o hx ho => by
      unfold offs at ho
      rw [List.getElem?_map, hx] at ho
      have ho := Option.some.inj ho
      have hr := List.mem_of_getElem? hx
      have g1 := (leastL_le (b := -1) fun y hy => (num x hr y hy).1).1 _ (getD_mem (c := c) (by rw [hl x hr]; exact hcL))
      have g2 := leastL_bd (b := -1) (num x hr) (by omega) (.inr (hne x hr))
      have g3 := num x hr _ (getD_mem (c := c) (by rw [hl x hr]; exact hcL))
      rw [← ho]
      omega) (by simp [offs]) (by omega) (.inr hm)).1
    omega
  unfold rreduceG rreduceP
  rw [e1, e2]
theorem reduceG_sub {rows : List (List Int)} {l : List Nat} {B : Int} (hm : rows ≠ []) (hl : l ≠ []) (num : ∀ row ∈ rows, ∀ c ∈ l, 0 ≤ row.getD c 0 ∧ row.getD c 0 ≤ B) : rreduceG (rows.map fun row => l.map fun c => row.getD c 0) l.length = reduceP rows l := by
  rw [reduceG_P (B := B) (by cases l with
    | nil => exact absurd rfl hl
    | cons a l => simp) (by simpa using hm) (fun row hr => by
      obtain ⟨r, _, rfl⟩ := List.mem_map.1 hr
      simp) (fun row hr x hx => by
      obtain ⟨r, h1, rfl⟩ := List.mem_map.1 hr
      obtain ⟨c, h2, rfl⟩ := List.mem_map.1 hx
      exact num r h1 c h2), rreduce_eq]
/-! what meets at each city -/
def meetC (rows : List (List Int)) (us : List Nat) (last : Nat) (q : List Nat) (st : Int × Int × Int) : Int × Int × Int :=
  q.foldl (fun st u => (st.1 + ((pairT rows us last u).1 + (pairT rows us last u).2), min st.2.1 (costAt rows last u), min st.2.2 (costAt rows u 0))) st
theorem meet_sum (rows : List (List Int)) (us : List Nat) (last : Nat) : ∀ (q : List Nat) (a b c : Int), 0 ≤ b → 0 ≤ c → (∀ u ∈ q, 0 ≤ costAt rows last u ∧ 0 ≤ costAt rows u 0) →
    meetC rows us last q (a, b, c) = (a + sumL (q.map fun u => (pairT rows us last u).1 + (pairT rows us last u).2), leastN (fun u => costAt rows last u) b q, leastN (fun u => costAt rows u 0) c q)
  | [], a, b, c, _, _, _ => by simp [meetC, sumL, leastN]
  | u :: q, a, b, c, hb, hc, h => by
    have hu := h u (by simp)
    have ih := meet_sum rows us last q (a + ((pairT rows us last u).1 + (pairT rows us last u).2)) (min b (costAt rows last u)) (min c (costAt rows u 0)) (by omega) (by omega) fun v hv => h v (by simp [hv])
    have e : meetC rows us last (u :: q) (a, b, c) = meetC rows us last q (a + ((pairT rows us last u).1 + (pairT rows us last u).2), min b (costAt rows last u), min c (costAt rows u 0)) := rfl
    have s1 : ∀ (f : Nat → Int) (d : Int), 0 ≤ d → leastN f d (u :: q) = leastN f (min d (f u)) q := fun f d hd => by
      have e : leastN f d (u :: q) = leastN f (if d < 0 then f u else if f u < d then f u else d) q := rfl
      rw [e]
      congr 1
      rw [if_neg (by omega)]
      split <;> omega
    rw [e, ih, s1 _ _ hb, s1 _ _ hc, List.map_cons, sumL]
    congr 1
    omega
end Go.Proofs.Ytcpadkaljnnieaa
namespace Go.Proofs.Ytcpadkaljnnieaa
open Go.RowKit Go.ChangeShapes Go.WideShapes Go.ChangeAt Go.Deep

/-- nine parts, of which but the two lowest are nought -/
def bigC (lo hi : Int) : Array Value := #[.int .i64 lo, .int .i64 hi, .int .i64 0, .int .i64 0, .int .i64 0, .int .i64 0, .int .i64 0, .int .i64 0, .int .i64 0]
def bigV (lo hi : Int) : Value := .agg #[.int .i64 lo, .int .i64 hi, .int .i64 0, .int .i64 0, .int .i64 0, .int .i64 0, .int .i64 0, .int .i64 0, .int .i64 0]
theorem bigC_get (lo hi : Int) (i : Nat) (hi9 : i < 9) : (bigC lo hi)[i]? = some (.int .i64 (if i = 0 then lo else if i = 1 then hi else 0)) := by
  unfold bigC
  match i, hi9 with
  | 0, _ => rfl
  | 1, _ => rfl
  | 2, _ => rfl
  | 3, _ => rfl
  | 4, _ => rfl
  | 5, _ => rfl
  | 6, _ => rfl
  | 7, _ => rfl
  | 8, _ => rfl
theorem setNine {w0 w : World} (x : Ext w0 w) {g : Nat} (hg : w0.heap.size ≤ g) (u0 u1 u2 u3 u4 u5 u6 u7 u8 : Value) :
    Ext w0 (((((((((w.setCell ⟨g, 0, none⟩ u0).setCell ⟨g, 1, none⟩ u1).setCell ⟨g, 2, none⟩ u2).setCell ⟨g, 3, none⟩ u3).setCell ⟨g, 4, none⟩ u4).setCell ⟨g, 5, none⟩ u5).setCell ⟨g, 6, none⟩ u6).setCell ⟨g, 7, none⟩ u7).setCell ⟨g, 8, none⟩ u8) :=
  ((((((((x.setNew (p := ⟨g, 0, none⟩) hg u0).setNew (p := ⟨g, 1, none⟩) hg u1).setNew (p := ⟨g, 2, none⟩) hg u2).setNew (p := ⟨g, 3, none⟩) hg u3).setNew (p := ⟨g, 4, none⟩) hg u4).setNew (p := ⟨g, 5, none⟩) hg u5).setNew (p := ⟨g, 6, none⟩) hg u6).setNew (p := ⟨g, 7, none⟩) hg u7).setNew (p := ⟨g, 8, none⟩) hg u8
theorem u64_and31 (x : Int) (h₀ : 0 ≤ x) (h₁ : x ≤ 2147483647) : bits .and .u64 x 2147483647 = x := by
  have h := bits_mask .u64 64 (by decide) wraps_u64 31 (by decide) x h₀ (by omega)
  have h' : bits .and .u64 x 2147483647 = x % 2147483648 := h
  rw [h']
  omega
set_option maxRecDepth 100000 in
set_option maxHeartbeats 2000000 in
theorem of_any (a : Int) (w : World) (h0 : 0 ≤ a) (h1 : a ≤ 2147483647) : Calls Try.prog 145 #[.int .i64 a] w fun e w' => e = .returned (bigV a 0) ∧ Ext w w' := by
  have na : decide (a < 0) = false := by simpa using h0
  have wa : IntKind.u64.wrap a = a := wraps_u64 _ h0 (by omega)
  have wi : IntKind.i64.wrap a = a := IntWalk.i64_in _ (by omega)
  have ba : bits .and .u64 a 2147483647 = a := u64_and31 a h0 h1
  have b0 : bits .and .u64 0 2147483647 = 0 := u64_and31 0 (by omega) (by omega)
  have da : a / 2147483648 = 0 := by omega
  replace wa := Lib.hid wa
  replace wi := Lib.hid wi
  replace ba := Lib.hid ba
  replace b0 := Lib.hid b0
  replace da := Lib.hid da
  have B1 : Hid (Blk ((w.alloc (.cells (bigC 0 0) 168)).alloc (.cells (bigC 0 0) 168)) (w.heap.size + 1) 168 (bigC 0 0)) := .new (by simp)
  have B0 : Hid (Blk ((w.alloc (.cells (bigC 0 0) 168)).alloc (.cells (bigC 0 0) 168)) w.heap.size 168 (bigC 0 0)) := .alloc (.new rfl) _
  have wa' := wa.out
  go_enter Try.func145, Try.ntmps145
  go_wp2_with (fail)
  have Y0 : Ext w ((w.alloc (.cells (bigC 0 0) 168)).alloc (.cells (bigC 0 0) 168)) := ((Ext.rf _).alloc _).alloc _
  go_loopw [4, 5] (fun u i wr => ∃ (k : Nat), i = .int .i64 k ∧ k ≤ 3 ∧ (k = 0 ∧ u = .int .u64 a ∧ Hid (Blk wr (w.heap.size + 1) 168 (bigC 0 0)) ∨ 1 ≤ k ∧ u = .int .u64 0 ∧ Hid (Blk wr (w.heap.size + 1) 168 (bigC a 0))) ∧ Hid (Blk wr w.heap.size 168 (bigC 0 0)) ∧ Ext w wr) (fun _ i _ => 3 - (intOf i).toNat)
  case atStart => exact ⟨0, rfl, by omega, .inl ⟨rfl, rfl, B1⟩, B0, Y0⟩
  case round =>
    obtain ⟨k, rfl, hk, hu, hZ, Y⟩ := hrel
    obtain ⟨rfl, rfl, hB⟩ | ⟨rfl, rfl, hB⟩ | ⟨rfl, rfl, hB⟩ | ⟨rfl, rfl, hB⟩ : (k = 0 ∧ _ = Value.int .u64 a ∧ Hid (Blk wr (w.heap.size + 1) 168 (bigC 0 0))) ∨ (k = 1 ∧ _ = Value.int .u64 0 ∧ Hid (Blk wr (w.heap.size + 1) 168 (bigC a 0))) ∨ (k = 2 ∧ _ = Value.int .u64 0 ∧ Hid (Blk wr (w.heap.size + 1) 168 (bigC a 0))) ∨ (k = 3 ∧ _ = Value.int .u64 0 ∧ Hid (Blk wr (w.heap.size + 1) 168 (bigC a 0))) := by
      rcases hu with h | ⟨h1, h2, h3⟩
      · exact .inl h
      · obtain rfl | rfl | rfl : k = 1 ∨ k = 2 ∨ k = 3 := by omega
        · exact .inr (.inl ⟨rfl, h2, h3⟩)
        · exact .inr (.inr (.inl ⟨rfl, h2, h3⟩))
        · exact .inr (.inr (.inr ⟨rfl, h2, h3⟩))
    · -- round 0
      have c := hB.out.cell 0
      have f := hB.out.free 0
      have zg := hB.out.lt
      have c' : wr.cell? ⟨w.heap.size + 1, 0, none⟩ = some (.int .i64 0) := c
      have hN : Hid (Blk (wr.setCell ⟨w.heap.size + 1, 0, none⟩ (.int .i64 a)) (w.heap.size + 1) 168 (bigC a 0)) := hB.out.set 0 _
      have hN0 : Hid (Blk (wr.setCell ⟨w.heap.size + 1, 0, none⟩ (.int .i64 a)) w.heap.size 168 (bigC 0 0)) := hZ.out.far (by simp) _
      have yN := Lib.hid (Y.setNew (p := ⟨w.heap.size + 1, 0, none⟩) (by simp) (.int .i64 a))
      clear c
      have wi' := wi.out
      have ba' := ba.out
      have da' := da.out
      go_wp2
      go_roundw
      case rel => exact ⟨1, by go_num, by omega, .inr ⟨by omega, rfl, hN⟩, hN0, yN.out⟩
      case measure => simp [intOf]
    · -- round 1
      have c := hB.out.cell 1
      have f := hB.out.free 1
      have zg := hB.out.lt
      have c' : wr.cell? ⟨w.heap.size + 1, 1, none⟩ = some (.int .i64 0) := c
      have hN : Hid (Blk (wr.setCell ⟨w.heap.size + 1, 1, none⟩ (.int .i64 0)) (w.heap.size + 1) 168 (bigC a 0)) := hB.out.set 1 _
      have hN0 : Hid (Blk (wr.setCell ⟨w.heap.size + 1, 1, none⟩ (.int .i64 0)) w.heap.size 168 (bigC 0 0)) := hZ.out.far (by simp) _
      have yN := Lib.hid (Y.setNew (p := ⟨w.heap.size + 1, 1, none⟩) (by simp) (.int .i64 0))
      clear c
      have b0' := b0.out
      have w0' : IntKind.i64.wrap 0 = 0 := IntWalk.i64_in _ (by omega)
      go_wp2
      go_roundw
      case rel => exact ⟨2, by go_num, by omega, .inr ⟨by omega, rfl, hN⟩, hN0, yN.out⟩
      case measure => simp [intOf]
    · -- round 2
      have c := hB.out.cell 2
      have f := hB.out.free 2
      have zg := hB.out.lt
      have c' : wr.cell? ⟨w.heap.size + 1, 2, none⟩ = some (.int .i64 0) := c
      have hN : Hid (Blk (wr.setCell ⟨w.heap.size + 1, 2, none⟩ (.int .i64 0)) (w.heap.size + 1) 168 (bigC a 0)) := hB.out.set 2 _
      have hN0 : Hid (Blk (wr.setCell ⟨w.heap.size + 1, 2, none⟩ (.int .i64 0)) w.heap.size 168 (bigC 0 0)) := hZ.out.far (by simp) _
      have yN := Lib.hid (Y.setNew (p := ⟨w.heap.size + 1, 2, none⟩) (by simp) (.int .i64 0))
      clear c
      have b0' := b0.out
      have w0' : IntKind.i64.wrap 0 = 0 := IntWalk.i64_in _ (by omega)
      go_wp2
      go_roundw
      case rel => exact ⟨3, by go_num, by omega, .inr ⟨by omega, rfl, hN⟩, hN0, yN.out⟩
      case measure => simp [intOf]
    · have c0 : wr.cell? ⟨w.heap.size + 1, 0, none⟩ = some (.int .i64 a) := hB.out.cell 0
      have c1 : wr.cell? ⟨w.heap.size + 1, 1, none⟩ = some (.int .i64 0) := hB.out.cell 1
      have c2 : wr.cell? ⟨w.heap.size + 1, 2, none⟩ = some (.int .i64 0) := hB.out.cell 2
      have c3 : wr.cell? ⟨w.heap.size + 1, 3, none⟩ = some (.int .i64 0) := hB.out.cell 3
      have c4 : wr.cell? ⟨w.heap.size + 1, 4, none⟩ = some (.int .i64 0) := hB.out.cell 4
      have c5 : wr.cell? ⟨w.heap.size + 1, 5, none⟩ = some (.int .i64 0) := hB.out.cell 5
      have c6 : wr.cell? ⟨w.heap.size + 1, 6, none⟩ = some (.int .i64 0) := hB.out.cell 6
      have c7 : wr.cell? ⟨w.heap.size + 1, 7, none⟩ = some (.int .i64 0) := hB.out.cell 7
      have c8 : wr.cell? ⟨w.heap.size + 1, 8, none⟩ = some (.int .i64 0) := hB.out.cell 8
      have z0 : wr.cell? ⟨w.heap.size, 0, none⟩ = some (.int .i64 0) := hZ.out.cell 0
      have z1 : wr.cell? ⟨w.heap.size, 1, none⟩ = some (.int .i64 0) := hZ.out.cell 1
      have z2 : wr.cell? ⟨w.heap.size, 2, none⟩ = some (.int .i64 0) := hZ.out.cell 2
      have z3 : wr.cell? ⟨w.heap.size, 3, none⟩ = some (.int .i64 0) := hZ.out.cell 3
      have z4 : wr.cell? ⟨w.heap.size, 4, none⟩ = some (.int .i64 0) := hZ.out.cell 4
      have z5 : wr.cell? ⟨w.heap.size, 5, none⟩ = some (.int .i64 0) := hZ.out.cell 5
      have z6 : wr.cell? ⟨w.heap.size, 6, none⟩ = some (.int .i64 0) := hZ.out.cell 6
      have z7 : wr.cell? ⟨w.heap.size, 7, none⟩ = some (.int .i64 0) := hZ.out.cell 7
      have z8 : wr.cell? ⟨w.heap.size, 8, none⟩ = some (.int .i64 0) := hZ.out.cell 8
      have f0 : wr.frozen? ⟨w.heap.size, 0, none⟩ = false := hZ.out.free 0
      have f1 : wr.frozen? ⟨w.heap.size, 1, none⟩ = false := hZ.out.free 1
      have f2 : wr.frozen? ⟨w.heap.size, 2, none⟩ = false := hZ.out.free 2
      have f3 : wr.frozen? ⟨w.heap.size, 3, none⟩ = false := hZ.out.free 3
      have f4 : wr.frozen? ⟨w.heap.size, 4, none⟩ = false := hZ.out.free 4
      have f5 : wr.frozen? ⟨w.heap.size, 5, none⟩ = false := hZ.out.free 5
      have f6 : wr.frozen? ⟨w.heap.size, 6, none⟩ = false := hZ.out.free 6
      have f7 : wr.frozen? ⟨w.heap.size, 7, none⟩ = false := hZ.out.free 7
      have f8 : wr.frozen? ⟨w.heap.size, 8, none⟩ = false := hZ.out.free 8
      have Y9 := Lib.hid (setNine Y (g := w.heap.size) (Nat.le_refl _) (.int .i64 a) (.int .i64 0) (.int .i64 0) (.int .i64 0) (.int .i64 0) (.int .i64 0) (.int .i64 0) (.int .i64 0) (.int .i64 0))
      go_wp2
      exact bodyPost_ret (v := bigV a 0) (by simp [results, Try.results145, go_sem, bigV, *]) rfl ⟨rfl, Y9.out⟩
end Go.Proofs.Ytcpadkaljnnieaa
namespace Go.Proofs.Ytcpadkaljnnieaa
open Go.RowKit Go.ChangeShapes Go.WideShapes Go.ChangeAt Go.Deep

theorem i64_and31 (x : Int) (h₀ : 0 ≤ x) (h₁ : x ≤ 9223372036854775807) : bits .and .i64 x 2147483647 = x % 2147483648 :=
  bits_mask .i64 63 (by decide) (fun n h0 h1 => IntWalk.i64_in n (by omega)) 31 (by decide) x h₀ (by omega)
/-- what a product's parts are -/
def lowP (p : Int) : Int := p % 2147483648
def highP (p : Int) : Int := p / 2147483648
theorem parts_bd {p : Int} (h : 0 ≤ p ∧ p ≤ 4611686014132420609) : 0 ≤ lowP p ∧ lowP p ≤ 2147483647 ∧ 0 ≤ highP p ∧ highP p ≤ 2147483647 := by
  unfold lowP highP; omega
theorem bigC_same (x y : Int) (i : Nat) (h : i < 9) : (bigC x y).setIfInBounds i (.int .i64 (if i = 0 then x else if i = 1 then y else 0)) = bigC x y := by
  match i, h with
  | 0, _ => rfl
  | 1, _ => rfl
  | 2, _ => rfl
  | 3, _ => rfl
  | 4, _ => rfl
  | 5, _ => rfl
  | 6, _ => rfl
  | 7, _ => rfl
  | 8, _ => rfl
/-- where the multiplying stands -/
def MulAt (p : Int) (i k : Nat) (x y ov : Int) : Prop := (i = 0 ∧ k = 0 ∧ x = 0 ∧ y = 0 ∧ ov = 0) ∨ (i = 0 ∧ k = 1 ∧ x = lowP p ∧ y = 0 ∧ ov = highP p) ∨ ((1 ≤ i ∨ 2 ≤ k) ∧ x = lowP p ∧ y = highP p ∧ ov = 0)
/-- one step of it -/
theorem mul_step {a b p : Int} (hp : p = a * b) (bp : 0 ≤ p ∧ p ≤ 4611686014132420609) {i k : Nat} {x y ov : Int} (hi : i < 4) (hk : k < 4) (h : MulAt p i k x y ov) :
    ∃ c m s sl sh x' y' : Int, c = (if i + k = 0 then x else if i + k = 1 then y else 0) ∧ m = (if i = 0 then a else if i = 1 then 0 else 0) * (if k = 0 then b else if k = 1 then 0 else 0) ∧ s = c + m + ov ∧ sl = s % 2147483648 ∧ sh = s / 2147483648 ∧
      (0 ≤ c ∧ c ≤ 2147483647) ∧ (0 ≤ m ∧ m ≤ 4611686014132420609) ∧ (0 ≤ ov ∧ ov ≤ 2147483647) ∧ (bigC x y).setIfInBounds (i + k) (.int .i64 sl) = bigC x' y' ∧ MulAt p i (k + 1) x' y' sh := by
  have hb := parts_bd bp
  rcases h with ⟨rfl, rfl, rfl, rfl, rfl⟩ | ⟨rfl, rfl, rfl, rfl, rfl⟩ | ⟨h, rfl, rfl, rfl⟩
  · refine ⟨0, p, p, lowP p, highP p, lowP p, 0, rfl, by simpa using hp, by omega, rfl, rfl, by omega, bp, by omega, rfl, .inr (.inl ⟨rfl, rfl, rfl, rfl, rfl⟩)⟩
  · refine ⟨0, 0, highP p, highP p, 0, lowP p, highP p, rfl, by simp, by omega, by omega, by omega, by omega, by omega, by omega, rfl, .inr (.inr ⟨by omega, rfl, rfl, rfl⟩)⟩
  · refine ⟨(if i + k = 0 then lowP p else if i + k = 1 then highP p else 0), 0, _, (if i + k = 0 then lowP p else if i + k = 1 then highP p else 0), 0, lowP p, highP p, rfl, ?_, rfl, ?_, ?_, ?_, by omega, by omega, bigC_same _ _ _ (by omega), .inr (.inr ⟨by omega, rfl, rfl, rfl⟩)⟩
    · rcases h with h | h
      · rw [if_neg (show ¬ i = 0 by omega)]
        split <;> simp
      · rw [if_neg (show ¬ k = 0 by omega)]
        split <;> (split <;> simp)
    · split
      · omega
      · split <;> omega
    · split
      · omega
      · split <;> omega
    · split
      · omega
      · split <;> omega
end Go.Proofs.Ytcpadkaljnnieaa
namespace Go.Proofs.Ytcpadkaljnnieaa
open Go.RowKit Go.ChangeShapes Go.WideShapes Go.ChangeAt Go.Deep

set_option maxRecDepth 100000 in
set_option maxHeartbeats 4000000 in
theorem times_any (a b p : Int) (w : World) (ha : 0 ≤ a ∧ a ≤ 2147483647) (hb : 0 ≤ b ∧ b ≤ 2147483647) (hp : p = a * b) :
    Calls Try.prog 144 #[bigV a 0, bigV b 0] w fun e w' => e = .returned (bigV (lowP p) (highP p)) ∧ Ext w w' := by
  have bp : 0 ≤ p ∧ p ≤ 4611686014132420609 := by rw [hp]; exact mul_bd ha.1 ha.2 hb.1 hb.2
  have hpb := parts_bd bp
  replace hp := Lib.hid hp
  have Y0 : Ext w ((((w.alloc (.cells (bigC a 0) 168)).alloc (.cells (bigC b 0) 168)).alloc (.cells (bigC 0 0) 168)).alloc (.cells (bigC 0 0) 168)) := ((((Ext.rf _).alloc _).alloc _).alloc _).alloc _
  have BA : Blk ((((w.alloc (.cells (bigC a 0) 168)).alloc (.cells (bigC b 0) 168)).alloc (.cells (bigC 0 0) 168)).alloc (.cells (bigC 0 0) 168)) w.heap.size 168 (bigC a 0) := .alloc (.alloc (.alloc (.new rfl) _) _) _
  have BB : Blk ((((w.alloc (.cells (bigC a 0) 168)).alloc (.cells (bigC b 0) 168)).alloc (.cells (bigC 0 0) 168)).alloc (.cells (bigC 0 0) 168)) (w.heap.size + 1) 168 (bigC b 0) := .alloc (.alloc (.new (by simp)) _) _
  have BR : Blk ((((w.alloc (.cells (bigC a 0) 168)).alloc (.cells (bigC b 0) 168)).alloc (.cells (bigC 0 0) 168)).alloc (.cells (bigC 0 0) 168)) (w.heap.size + 1 + 1) 168 (bigC 0 0) := .alloc (.new (by simp)) _
  have BC : Blk ((((w.alloc (.cells (bigC a 0) 168)).alloc (.cells (bigC b 0) 168)).alloc (.cells (bigC 0 0) 168)).alloc (.cells (bigC 0 0) 168)) (w.heap.size + 1 + 1 + 1) 168 (bigC 0 0) := .new (by simp)
  replace Y0 := Lib.hid Y0
  replace BA := Lib.hid BA
  replace BB := Lib.hid BB
  replace BR := Lib.hid BR
  replace BC := Lib.hid BC
  unfold bigV
  go_enter Try.func144, Try.ntmps144
  go_wp2_with (fail)
  go_loopw [6] (fun i wr => ∃ (n : Nat) (x y : Int), i = .int .i64 n ∧ n ≤ 4 ∧ Hid ((n = 0 ∧ x = 0 ∧ y = 0) ∨ (1 ≤ n ∧ x = lowP p ∧ y = highP p)) ∧ Ext w wr ∧ Hid (Blk wr w.heap.size 168 (bigC a 0)) ∧ Hid (Blk wr (w.heap.size + 1) 168 (bigC b 0)) ∧ Hid (Blk wr (w.heap.size + 1 + 1) 168 (bigC 0 0)) ∧ Hid (Blk wr (w.heap.size + 1 + 1 + 1) 168 (bigC x y))) (fun i _ => 4 - (intOf i).toNat)
  case atStart => exact ⟨0, 0, 0, rfl, by omega, .inl ⟨rfl, rfl, rfl⟩, Y0.out, BA, BB, BR, BC⟩
  case round =>
    obtain ⟨wo, rfl⟩ : ∃ wo : World, wo = wr := ⟨_, rfl⟩
    obtain ⟨n, x, y, rfl, hn, HS, Y, A1, B1, R1, C1⟩ := hrel
    by_cases hlt : n < 4
    · go_wp2_with (fail)
      go_loopw [7, 8] (fun o i wr => ∃ (k : Nat) (x y ov : Int), i = .int .i64 k ∧ o = .int .i64 ov ∧ k ≤ 4 ∧ Hid (MulAt p n k x y ov) ∧ Ext w wr ∧ Hid (Blk wr w.heap.size 168 (bigC a 0)) ∧ Hid (Blk wr (w.heap.size + 1) 168 (bigC b 0)) ∧ Hid (Blk wr (w.heap.size + 1 + 1) 168 (bigC 0 0)) ∧ Hid (Blk wr (w.heap.size + 1 + 1 + 1) 168 (bigC x y))) (fun _ i _ => 4 - (intOf i).toNat)
      case atStart =>
        refine ⟨0, x, y, 0, rfl, rfl, by omega, ?_, Y, A1, B1, R1, C1⟩
        rcases HS.out with ⟨h1, h2, h3⟩ | ⟨h1, h2, h3⟩
        · exact .inl ⟨h1, rfl, h2, h3, rfl⟩
        · exact .inr (.inr ⟨.inl h1, h2, h3, rfl⟩)
      case round =>
        obtain ⟨wq, rfl⟩ : ∃ wq : World, wq = wr := ⟨_, rfl⟩
        obtain ⟨k, x, y, ov, rfl, rfl, hk, HM, Y2, A2, B2, R2, C2⟩ := hrel
        by_cases hlk : k < 4
        · obtain ⟨c, m, s, sl, sh, x', y', hc, hm, hs, hsl, hsh, bc, bm, bo, hset, HM2⟩ := mul_step hp.out bp hlt hlk HM.out
          have gC := C2.out.cell (n + k)
          have gA := A2.out.cell n
          have gB := B2.out.cell k
          rw [bigC_get _ _ _ (by omega)] at gC gA gB
          rw [← hc] at gC
          have fC := C2.out.free (n + k)
          obtain ⟨av, hav⟩ : ∃ av, Hid (av = (if n = 0 then a else if n = 1 then 0 else 0)) := ⟨_, rfl⟩
          obtain ⟨bv, hbv⟩ : ∃ bv, Hid (bv = (if k = 0 then b else if k = 1 then 0 else 0)) := ⟨_, rfl⟩
          rw [← hav.out] at gA hm
          rw [← hbv.out] at gB hm
          have wm : Hid (IntKind.i64.wrap (av * bv) = m) := by
            have h : IntKind.i64.wrap (av * bv) = m := by rw [← hm]; exact IntWalk.i64_in _ (by omega)
            exact h
          have w1 : Hid (IntKind.i64.wrap (c + m) = c + m) := IntWalk.i64_in _ (by omega)
          have w2 : Hid (IntKind.i64.wrap (c + m + ov) = s) := by
            have h : IntKind.i64.wrap (c + m + ov) = s := by rw [hs]; exact IntWalk.i64_in _ (by omega)
            exact h
          have wn : Hid (IntKind.i64.wrap ((n : Int) + (k : Int)) = (n : Int) + (k : Int)) := IntWalk.i64_in _ (by omega)
          have ea : Hid (bits .and .i64 s 2147483647 = sl) := by
            have h : bits .and .i64 s 2147483647 = sl := by rw [i64_and31 s (by omega) (by omega), hsl]
            exact h
          have es : Hid (s / 2147483648 = sh) := hsh.symm
          have bs : 0 ≤ s ∧ s ≤ 9223372036854775807 := by omega
          have bsh : 0 ≤ sh ∧ sh ≤ 9223372036854775807 := by omega
          have q1 : (0 : Int) ≤ (n : Int) + (k : Int) := by omega
          have q2 : (n : Int) + (k : Int) < 9 := by omega
          have q3 : (n : Int) < 9 := by omega
          have q4 : (k : Int) < 9 := by omega
          replace hset := Lib.hid hset
          replace HM2 := Lib.hid HM2
          have zA := A2.out.lt
          have zB := B2.out.lt
          have zC := C2.out.lt
          clear hc hm hs hsl hsh bm bo
          have wn' := wn.out
          have wm' := wm.out
          have w1' := w1.out
          have w2' := w2.out
          have ea' := ea.out
          have es' := es.out
          go_wp2_with (go_quiet (fail))
          go_roundw
          case rel => exact ⟨k + 1, x', y', sh, by go_num, rfl, by omega, HM2, (Y2.drewN _).setNew (by simp <;> omega) _, (A2.out.drewN _).far (by simp <;> omega) _, (B2.out.drewN _).far (by simp <;> omega) _, (R2.out.drewN _).far (by simp <;> omega) _, by rw [← hset.out]; exact (C2.out.drewN _).set (n + k) _⟩
          case measure => simp [intOf]; omega
        · obtain rfl : k = 4 := by omega
          have HM4 : Hid (x = lowP p ∧ y = highP p ∧ ov = 0) := by
            rcases HM.out with ⟨_, h, _⟩ | ⟨_, h, _⟩ | ⟨_, h1, h2, h3⟩
            · omega
            · omega
            · exact ⟨h1, h2, h3⟩
          obtain ⟨rfl, rfl, rfl⟩ := HM4.out
          have gC := C2.out.cell (n + 4)
          rw [bigC_get _ _ _ (by omega), if_neg (by omega), if_neg (by omega)] at gC
          have fC := C2.out.free (n + 4)
          have q1 : (0 : Int) ≤ (n : Int) + 4 := by omega
          have q2 : (n : Int) + 4 < 9 := by omega
          have wn' : IntKind.i64.wrap ((n : Int) + 4) = (n : Int) + 4 := IntWalk.i64_in _ (by omega)
          have hset : Hid ((bigC (lowP p) (highP p)).setIfInBounds (n + 4) (.int .i64 0) = bigC (lowP p) (highP p)) := by
            have h := bigC_same (lowP p) (highP p) (n + 4) (by omega)
            rw [if_neg (by omega), if_neg (by omega)] at h
            exact h
          clear HM HM4
          go_wp2_with (fail)
          go_roundw
          case rel => exact ⟨n + 1, lowP p, highP p, by go_num, by omega, .inr ⟨by omega, rfl, rfl⟩, Y2.setNew (by simp <;> omega) _, A2.out.far (by simp <;> omega) _, B2.out.far (by simp <;> omega) _, R2.out.far (by simp <;> omega) _, by rw [← hset.out]; exact C2.out.set (n + 4) _⟩
          case measure => simp [intOf]; omega
    · obtain rfl : n = 4 := by omega
      have HS4 : Hid (x = lowP p ∧ y = highP p) := by
        rcases HS.out with ⟨h, _⟩ | ⟨_, h1, h2⟩
        · omega
        · exact ⟨h1, h2⟩
      obtain ⟨rfl, rfl⟩ := HS4.out
      clear HS HS4
      have c0 : wo.cell? ⟨w.heap.size + 1 + 1 + 1, 0, none⟩ = some (.int .i64 (lowP p)) := C1.out.cell 0
      have c1 : wo.cell? ⟨w.heap.size + 1 + 1 + 1, 1, none⟩ = some (.int .i64 (highP p)) := C1.out.cell 1
      have c2 : wo.cell? ⟨w.heap.size + 1 + 1 + 1, 2, none⟩ = some (.int .i64 0) := C1.out.cell 2
      have c3 : wo.cell? ⟨w.heap.size + 1 + 1 + 1, 3, none⟩ = some (.int .i64 0) := C1.out.cell 3
      have c4 : wo.cell? ⟨w.heap.size + 1 + 1 + 1, 4, none⟩ = some (.int .i64 0) := C1.out.cell 4
      have c5 : wo.cell? ⟨w.heap.size + 1 + 1 + 1, 5, none⟩ = some (.int .i64 0) := C1.out.cell 5
      have c6 : wo.cell? ⟨w.heap.size + 1 + 1 + 1, 6, none⟩ = some (.int .i64 0) := C1.out.cell 6
      have c7 : wo.cell? ⟨w.heap.size + 1 + 1 + 1, 7, none⟩ = some (.int .i64 0) := C1.out.cell 7
      have c8 : wo.cell? ⟨w.heap.size + 1 + 1 + 1, 8, none⟩ = some (.int .i64 0) := C1.out.cell 8
      have z0 : wo.cell? ⟨w.heap.size + 1 + 1, 0, none⟩ = some (.int .i64 0) := R1.out.cell 0
      have z1 : wo.cell? ⟨w.heap.size + 1 + 1, 1, none⟩ = some (.int .i64 0) := R1.out.cell 1
      have z2 : wo.cell? ⟨w.heap.size + 1 + 1, 2, none⟩ = some (.int .i64 0) := R1.out.cell 2
      have z3 : wo.cell? ⟨w.heap.size + 1 + 1, 3, none⟩ = some (.int .i64 0) := R1.out.cell 3
      have z4 : wo.cell? ⟨w.heap.size + 1 + 1, 4, none⟩ = some (.int .i64 0) := R1.out.cell 4
      have z5 : wo.cell? ⟨w.heap.size + 1 + 1, 5, none⟩ = some (.int .i64 0) := R1.out.cell 5
      have z6 : wo.cell? ⟨w.heap.size + 1 + 1, 6, none⟩ = some (.int .i64 0) := R1.out.cell 6
      have z7 : wo.cell? ⟨w.heap.size + 1 + 1, 7, none⟩ = some (.int .i64 0) := R1.out.cell 7
      have z8 : wo.cell? ⟨w.heap.size + 1 + 1, 8, none⟩ = some (.int .i64 0) := R1.out.cell 8
      have f0 : wo.frozen? ⟨w.heap.size + 1 + 1, 0, none⟩ = false := R1.out.free 0
      have f1 : wo.frozen? ⟨w.heap.size + 1 + 1, 1, none⟩ = false := R1.out.free 1
      have f2 : wo.frozen? ⟨w.heap.size + 1 + 1, 2, none⟩ = false := R1.out.free 2
      have f3 : wo.frozen? ⟨w.heap.size + 1 + 1, 3, none⟩ = false := R1.out.free 3
      have f4 : wo.frozen? ⟨w.heap.size + 1 + 1, 4, none⟩ = false := R1.out.free 4
      have f5 : wo.frozen? ⟨w.heap.size + 1 + 1, 5, none⟩ = false := R1.out.free 5
      have f6 : wo.frozen? ⟨w.heap.size + 1 + 1, 6, none⟩ = false := R1.out.free 6
      have f7 : wo.frozen? ⟨w.heap.size + 1 + 1, 7, none⟩ = false := R1.out.free 7
      have f8 : wo.frozen? ⟨w.heap.size + 1 + 1, 8, none⟩ = false := R1.out.free 8
      have Y9 := Lib.hid (setNine Y (g := w.heap.size + 1 + 1) (by omega) (.int .i64 (lowP p)) (.int .i64 (highP p)) (.int .i64 0) (.int .i64 0) (.int .i64 0) (.int .i64 0) (.int .i64 0) (.int .i64 0) (.int .i64 0))
      go_wp2_with (fail)
      exact bodyPost_ret (v := bigV (lowP p) (highP p)) (by simp [results, Try.results144, go_sem, bigV, *]) rfl ⟨rfl, Y9.out⟩
end Go.Proofs.Ytcpadkaljnnieaa
namespace Go.Proofs.Ytcpadkaljnnieaa
open Go.RowKit Go.ChangeShapes Go.WideShapes Go.ChangeAt Go.Deep

def sgnC (m : Bool) (lo hi : Int) : Array Value := #[.bool m, .int .i64 lo, .int .i64 hi, .int .i64 0, .int .i64 0, .int .i64 0, .int .i64 0, .int .i64 0, .int .i64 0, .int .i64 0]
def sgnV (m : Bool) (lo hi : Int) : Value := .agg #[.bool m, .int .i64 lo, .int .i64 hi, .int .i64 0, .int .i64 0, .int .i64 0, .int .i64 0, .int .i64 0, .int .i64 0, .int .i64 0]
theorem setTen {w0 w : World} (x : Ext w0 w) {g : Nat} (hg : w0.heap.size ≤ g) (u0 u1 u2 u3 u4 u5 u6 u7 u8 u9 : Value) :
    Ext w0 ((((((((((w.setCell ⟨g, 0, none⟩ u0).setCell ⟨g, 1, none⟩ u1).setCell ⟨g, 2, none⟩ u2).setCell ⟨g, 3, none⟩ u3).setCell ⟨g, 4, none⟩ u4).setCell ⟨g, 5, none⟩ u5).setCell ⟨g, 6, none⟩ u6).setCell ⟨g, 7, none⟩ u7).setCell ⟨g, 8, none⟩ u8).setCell ⟨g, 9, none⟩ u9) :=
  (setNine x hg u0 u1 u2 u3 u4 u5 u6 u7 u8).setNew (p := ⟨g, 9, none⟩) hg u9
set_option maxRecDepth 100000 in
set_option maxHeartbeats 2000000 in
theorem num_any (a : Int) (w : World) (h0 : 0 ≤ a) (h1 : a ≤ 2147483647) : Calls Try.prog 139 #[.int .i64 a] w fun e w' => e = .returned (sgnV false a 0) ∧ Ext w w' := by
  have na : decide (a < 0) = false := by simpa using h0
  have B0 : Blk (w.alloc (.cells (sgnC false 0 0) 170)) w.heap.size 170 (sgnC false 0 0) := .new rfl
  have Y0 : Ext w (w.alloc (.cells (sgnC false 0 0) 170)) := (Ext.rf _).alloc _
  replace B0 := Lib.hid B0
  replace Y0 := Lib.hid Y0
  go_enter Try.func139, Try.ntmps139
  go_wp2_with (fail)
  refine (of_any a _ h0 h1).mono ?_
  rintro e w2 ⟨rfl, x2⟩
  have B2 := B0.out.ext x2
  have z0 : w2.cell? ⟨w.heap.size, 0, none⟩ = some (.bool false) := B2.cell 0
  have z1 : w2.cell? ⟨w.heap.size, 1, none⟩ = some (.int .i64 0) := B2.cell 1
  have z2 : w2.cell? ⟨w.heap.size, 2, none⟩ = some (.int .i64 0) := B2.cell 2
  have z3 : w2.cell? ⟨w.heap.size, 3, none⟩ = some (.int .i64 0) := B2.cell 3
  have z4 : w2.cell? ⟨w.heap.size, 4, none⟩ = some (.int .i64 0) := B2.cell 4
  have z5 : w2.cell? ⟨w.heap.size, 5, none⟩ = some (.int .i64 0) := B2.cell 5
  have z6 : w2.cell? ⟨w.heap.size, 6, none⟩ = some (.int .i64 0) := B2.cell 6
  have z7 : w2.cell? ⟨w.heap.size, 7, none⟩ = some (.int .i64 0) := B2.cell 7
  have z8 : w2.cell? ⟨w.heap.size, 8, none⟩ = some (.int .i64 0) := B2.cell 8
  have z9 : w2.cell? ⟨w.heap.size, 9, none⟩ = some (.int .i64 0) := B2.cell 9
  have f0 : w2.frozen? ⟨w.heap.size, 0, none⟩ = false := B2.free 0
  have f1 : w2.frozen? ⟨w.heap.size, 1, none⟩ = false := B2.free 1
  have f2 : w2.frozen? ⟨w.heap.size, 2, none⟩ = false := B2.free 2
  have f3 : w2.frozen? ⟨w.heap.size, 3, none⟩ = false := B2.free 3
  have f4 : w2.frozen? ⟨w.heap.size, 4, none⟩ = false := B2.free 4
  have f5 : w2.frozen? ⟨w.heap.size, 5, none⟩ = false := B2.free 5
  have f6 : w2.frozen? ⟨w.heap.size, 6, none⟩ = false := B2.free 6
  have f7 : w2.frozen? ⟨w.heap.size, 7, none⟩ = false := B2.free 7
  have f8 : w2.frozen? ⟨w.heap.size, 8, none⟩ = false := B2.free 8
  have f9 : w2.frozen? ⟨w.heap.size, 9, none⟩ = false := B2.free 9
  have Y2 := Lib.hid (setTen (Y0.out.tr x2) (g := w.heap.size) (Nat.le_refl _) (.bool false) (.int .i64 a) (.int .i64 0) (.int .i64 0) (.int .i64 0) (.int .i64 0) (.int .i64 0) (.int .i64 0) (.int .i64 0) (.int .i64 0))
  clear B2 x2
  unfold bigV
  go_wp2_with (fail)
  exact bodyPost_ret (v := sgnV false a 0) (by simp [results, Try.results139, go_sem, sgnV, *]) rfl ⟨rfl, Y2.out⟩
set_option maxRecDepth 100000 in
set_option maxHeartbeats 2000000 in
theorem neg_any (m : Bool) (lo hi : Int) (w : World) : Calls Try.prog 143 #[sgnV m lo hi] w fun e w' => e = .returned (sgnV (!m) lo hi) ∧ Ext w w' := by
  have B1 : Blk ((w.alloc (.cells (sgnC m lo hi) 170)).alloc (.cells (sgnC false 0 0) 170)) w.heap.size 170 (sgnC m lo hi) := .alloc (.new rfl) _
  have Y0 : Ext w ((w.alloc (.cells (sgnC m lo hi) 170)).alloc (.cells (sgnC false 0 0) 170)) := ((Ext.rf _).alloc _).alloc _
  replace B1 := Lib.hid B1
  have Y2 := Lib.hid (setTen Y0 (g := w.heap.size + 1) (by omega) (.bool (!m)) (.int .i64 lo) (.int .i64 hi) (.int .i64 0) (.int .i64 0) (.int .i64 0) (.int .i64 0) (.int .i64 0) (.int .i64 0) (.int .i64 0))
  clear Y0
  unfold sgnV
  go_enter Try.func143, Try.ntmps143
  go_wp2_with (fail)
  exact bodyPost_ret (v := sgnV (!m) lo hi) (by simp [results, Try.results143, go_sem, sgnV]) rfl ⟨rfl, ((Ext.rf _).alloc _).alloc _⟩
section
variable {W : World} {g : Nat} {m : Bool} {lo hi : Int}
set_option maxRecDepth 100000 in
theorem load_size (h : Blk W g 170 (sgnC m lo hi)) : (Instr.loadAt 168 (.pointer (some ⟨g, 1, none⟩))).run Try.prog W = .ok (bigV lo hi) W := by
  have c0 : W.cell? ⟨g, 0, none⟩ = some (.bool m) := h.cell 0
  have c1 : W.cell? ⟨g, 1, none⟩ = some (.int .i64 lo) := h.cell 1
  have c2 : W.cell? ⟨g, 2, none⟩ = some (.int .i64 hi) := h.cell 2
  have c3 : W.cell? ⟨g, 3, none⟩ = some (.int .i64 0) := h.cell 3
  have c4 : W.cell? ⟨g, 4, none⟩ = some (.int .i64 0) := h.cell 4
  have c5 : W.cell? ⟨g, 5, none⟩ = some (.int .i64 0) := h.cell 5
  have c6 : W.cell? ⟨g, 6, none⟩ = some (.int .i64 0) := h.cell 6
  have c7 : W.cell? ⟨g, 7, none⟩ = some (.int .i64 0) := h.cell 7
  have c8 : W.cell? ⟨g, 8, none⟩ = some (.int .i64 0) := h.cell 8
  have c9 : W.cell? ⟨g, 9, none⟩ = some (.int .i64 0) := h.cell 9
  unfold bigV
  clear h
  go_simp
set_option maxRecDepth 100000 in
theorem load_sgn (h : Blk W g 170 (sgnC m lo hi)) : (Instr.loadAt 170 (.pointer (some ⟨g, 0, none⟩))).run Try.prog W = .ok (sgnV m lo hi) W := by
  have c0 : W.cell? ⟨g, 0, none⟩ = some (.bool m) := h.cell 0
  have c1 : W.cell? ⟨g, 1, none⟩ = some (.int .i64 lo) := h.cell 1
  have c2 : W.cell? ⟨g, 2, none⟩ = some (.int .i64 hi) := h.cell 2
  have c3 : W.cell? ⟨g, 3, none⟩ = some (.int .i64 0) := h.cell 3
  have c4 : W.cell? ⟨g, 4, none⟩ = some (.int .i64 0) := h.cell 4
  have c5 : W.cell? ⟨g, 5, none⟩ = some (.int .i64 0) := h.cell 5
  have c6 : W.cell? ⟨g, 6, none⟩ = some (.int .i64 0) := h.cell 6
  have c7 : W.cell? ⟨g, 7, none⟩ = some (.int .i64 0) := h.cell 7
  have c8 : W.cell? ⟨g, 8, none⟩ = some (.int .i64 0) := h.cell 8
  have c9 : W.cell? ⟨g, 9, none⟩ = some (.int .i64 0) := h.cell 9
  unfold sgnV
  clear h
  go_simp
theorem load_minus (h : Blk W g 170 (sgnC m lo hi)) : (Instr.loadAt 4 (.pointer (some ⟨g, 0, none⟩))).run Try.prog W = .ok (.bool m) W := by
  have c0 : W.cell? ⟨g, 0, none⟩ = some (.bool m) := h.cell 0
  clear h
  go_simp
/-- ten cells stored -/
def tenW (W : World) (g : Nat) (m : Bool) (lo hi : Int) : World := ((((((((((W.setCell ⟨g, 0, none⟩ (.bool m)).setCell ⟨g, 1, none⟩ (.int .i64 lo)).setCell ⟨g, 2, none⟩ (.int .i64 hi)).setCell ⟨g, 3, none⟩ (.int .i64 0)).setCell ⟨g, 4, none⟩ (.int .i64 0)).setCell ⟨g, 5, none⟩ (.int .i64 0)).setCell ⟨g, 6, none⟩ (.int .i64 0)).setCell ⟨g, 7, none⟩ (.int .i64 0)).setCell ⟨g, 8, none⟩ (.int .i64 0)).setCell ⟨g, 9, none⟩ (.int .i64 0))
set_option maxRecDepth 100000 in
set_option maxHeartbeats 1000000 in
theorem store_sgn {m' : Bool} {lo' hi' : Int} (h : Blk W g 170 (sgnC m' lo' hi')) : (Instr.storeAt 170 (.pointer (some ⟨g, 0, none⟩)) (sgnV m lo hi)).run Try.prog W = .ok () (tenW W g m lo hi) := by
  have c0 : W.cell? ⟨g, 0, none⟩ = some (.bool m') := h.cell 0
  have c1 : W.cell? ⟨g, 1, none⟩ = some (.int .i64 lo') := h.cell 1
  have c2 : W.cell? ⟨g, 2, none⟩ = some (.int .i64 hi') := h.cell 2
  have c3 : W.cell? ⟨g, 3, none⟩ = some (.int .i64 0) := h.cell 3
  have c4 : W.cell? ⟨g, 4, none⟩ = some (.int .i64 0) := h.cell 4
  have c5 : W.cell? ⟨g, 5, none⟩ = some (.int .i64 0) := h.cell 5
  have c6 : W.cell? ⟨g, 6, none⟩ = some (.int .i64 0) := h.cell 6
  have c7 : W.cell? ⟨g, 7, none⟩ = some (.int .i64 0) := h.cell 7
  have c8 : W.cell? ⟨g, 8, none⟩ = some (.int .i64 0) := h.cell 8
  have c9 : W.cell? ⟨g, 9, none⟩ = some (.int .i64 0) := h.cell 9
  have f0 : W.frozen? ⟨g, 0, none⟩ = false := h.free 0
  have f1 : W.frozen? ⟨g, 1, none⟩ = false := h.free 1
  have f2 : W.frozen? ⟨g, 2, none⟩ = false := h.free 2
  have f3 : W.frozen? ⟨g, 3, none⟩ = false := h.free 3
  have f4 : W.frozen? ⟨g, 4, none⟩ = false := h.free 4
  have f5 : W.frozen? ⟨g, 5, none⟩ = false := h.free 5
  have f6 : W.frozen? ⟨g, 6, none⟩ = false := h.free 6
  have f7 : W.frozen? ⟨g, 7, none⟩ = false := h.free 7
  have f8 : W.frozen? ⟨g, 8, none⟩ = false := h.free 8
  have f9 : W.frozen? ⟨g, 9, none⟩ = false := h.free 9
  unfold sgnV tenW
  clear h
  go_simp
theorem tenW_blk {m' : Bool} {lo' hi' : Int} (h : Blk W g 170 (sgnC m' lo' hi')) : Blk (tenW W g m lo hi) g 170 (sgnC m lo hi) := by
  have h0 := h.set 0 (.bool m)
  have h1 := h0.set 1 (.int .i64 lo)
  have h2 := h1.set 2 (.int .i64 hi)
  have h3 := h2.set 3 (.int .i64 0)
  have h4 := h3.set 4 (.int .i64 0)
  have h5 := h4.set 5 (.int .i64 0)
  have h6 := h5.set 6 (.int .i64 0)
  have h7 := h6.set 7 (.int .i64 0)
  have h8 := h7.set 8 (.int .i64 0)
  have h9 := h8.set 9 (.int .i64 0)
  have e : ((((((((((sgnC m' lo' hi').setIfInBounds 0 (.bool m)).setIfInBounds 1 (.int .i64 lo)).setIfInBounds 2 (.int .i64 hi)).setIfInBounds 3 (.int .i64 0)).setIfInBounds 4 (.int .i64 0)).setIfInBounds 5 (.int .i64 0)).setIfInBounds 6 (.int .i64 0)).setIfInBounds 7 (.int .i64 0)).setIfInBounds 8 (.int .i64 0)).setIfInBounds 9 (.int .i64 0) = sgnC m lo hi := by simp [sgnC]
  rw [e] at h9
  exact h9
theorem tenW_ext {w0 : World} (x : Ext w0 W) (hg : w0.heap.size ≤ g) : Ext w0 (tenW W g m lo hi) := setTen x hg _ _ _ _ _ _ _ _ _ _
end
set_option maxRecDepth 100000 in
set_option maxHeartbeats 2000000 in
theorem mul_any (a b p : Int) (w : World) (ha : 0 ≤ a ∧ a ≤ 2147483647) (hb : 0 ≤ b ∧ b ≤ 2147483647) (hp : p = a * b) :
    Calls Try.prog 138 #[sgnV false a 0, sgnV false b 0] w fun e w' => e = .returned (sgnV false (lowP p) (highP p)) ∧ Ext w w' := by
  have B1 : Blk (((w.alloc (.cells (sgnC false a 0) 170)).alloc (.cells (sgnC false b 0) 170)).alloc (.cells (sgnC false 0 0) 170)) w.heap.size 170 (sgnC false a 0) := .alloc (.alloc (.new rfl) _) _
  have B2 : Blk (((w.alloc (.cells (sgnC false a 0) 170)).alloc (.cells (sgnC false b 0) 170)).alloc (.cells (sgnC false 0 0) 170)) (w.heap.size + 1) 170 (sgnC false b 0) := .alloc (.new (by simp)) _
  have B3 : Blk (((w.alloc (.cells (sgnC false a 0) 170)).alloc (.cells (sgnC false b 0) 170)).alloc (.cells (sgnC false 0 0) 170)) (w.heap.size + 1 + 1) 170 (sgnC false 0 0) := .new (by simp)
  have Y0 : Ext w (((w.alloc (.cells (sgnC false a 0) 170)).alloc (.cells (sgnC false b 0) 170)).alloc (.cells (sgnC false 0 0) 170)) := (((Ext.rf _).alloc _).alloc _).alloc _
  have hgn : (((w.alloc (.cells (sgnC false a 0) 170)).alloc (.cells (sgnC false b 0) 170)).alloc (.cells (sgnC false 0 0) 170)) = (((w.alloc (.cells #[.bool false, .int .i64 a, .int .i64 0, .int .i64 0, .int .i64 0, .int .i64 0, .int .i64 0, .int .i64 0, .int .i64 0, .int .i64 0] 170)).alloc (.cells #[.bool false, .int .i64 b, .int .i64 0, .int .i64 0, .int .i64 0, .int .i64 0, .int .i64 0, .int .i64 0, .int .i64 0, .int .i64 0] 170)).alloc (.cells #[.bool false, .int .i64 0, .int .i64 0, .int .i64 0, .int .i64 0, .int .i64 0, .int .i64 0, .int .i64 0, .int .i64 0, .int .i64 0] 170)) := rfl
  rw [hgn] at B1 B2 B3 Y0
  clear hgn
  replace B1 := Lib.hid B1
  replace B2 := Lib.hid B2
  replace B3 := Lib.hid B3
  replace Y0 := Lib.hid Y0
  replace hp := Lib.hid hp
  unfold sgnV
  go_enter Try.func138, Try.ntmps138
  go_wp2_with (fail)
  generalize (((w.alloc (.cells #[.bool false, .int .i64 a, .int .i64 0, .int .i64 0, .int .i64 0, .int .i64 0, .int .i64 0, .int .i64 0, .int .i64 0, .int .i64 0] 170)).alloc (.cells #[.bool false, .int .i64 b, .int .i64 0, .int .i64 0, .int .i64 0, .int .i64 0, .int .i64 0, .int .i64 0, .int .i64 0, .int .i64 0] 170)).alloc (.cells #[.bool false, .int .i64 0, .int .i64 0, .int .i64 0, .int .i64 0, .int .i64 0, .int .i64 0, .int .i64 0, .int .i64 0, .int .i64 0] 170)) = wr at *
  refine wp_region_any (by kernel_rfl) ?_
  change wpAny _ _ _ _ _ _ _ (World.drew _)
  refine wpAny_T (i := 0) (op := Op.fieldAddr 170 (Operand.tmp 2) 0) (t := 0) (d := some 5) (v := ?_) rfl (by decide +kernel) (by decide +kernel) (by decide +kernel) (fun _ _ _ h => h) ?_ ?_
  case refine_2 => (intro _; unfold exec2; go_simp; try with_reducible rfl)
  try simp only [Act.put, List.setIfInBounds_toArray, List.set_cons_zero, List.set_cons_succ]
  refine wpAny_T (i := 2) (op := Op.fieldAddr 170 (Operand.tmp 3) 0) (t := 0) (d := some 7) (v := ?_) rfl (by decide +kernel) (by decide +kernel) (by decide +kernel) (fun _ _ _ h => h) ?_ ?_
  case refine_2 => (intro _; unfold exec2; go_simp; try with_reducible rfl)
  try simp only [Act.put, List.setIfInBounds_toArray, List.set_cons_zero, List.set_cons_succ]
  refine wpAny_T (i := 5) (op := Op.fieldAddr 170 (Operand.tmp 2) 1) (t := 0) (d := some 10) (v := ?_) rfl (by decide +kernel) (by decide +kernel) (by decide +kernel) (fun _ _ _ h => h) ?_ ?_
  case refine_2 => (intro _; unfold exec2; go_simp; try with_reducible rfl)
  try simp only [Act.put, List.setIfInBounds_toArray, List.set_cons_zero, List.set_cons_succ]
  refine wpAny_T (i := 7) (op := Op.fieldAddr 170 (Operand.tmp 3) 1) (t := 0) (d := some 12) (v := ?_) rfl (by decide +kernel) (by decide +kernel) (by decide +kernel) (fun _ _ _ h => h) ?_ ?_
  case refine_2 => (intro _; unfold exec2; go_simp; try with_reducible rfl)
  try simp only [Act.put, List.setIfInBounds_toArray, List.set_cons_zero, List.set_cons_succ]
  refine wpAny_core2 (n := 2) [(1, some 6), (3, some 8), (4, some 9), (6, some 11), (8, some 13), (9, some 14)] (Ext wr)
    (VF (fun | 1 => some (.bool false) | 3 => some (.bool false) | 4 => some (.bool false) | 6 => some (bigV a 0) | 8 => some (bigV b 0) | 9 => some (bigV (lowP p) (highP p)) | _ => none) (fun _ _ _ => True))
    Ext #[true, true, true, true, true, true, true, true, true, true, false, false] (by kernel_rfl) (VF.stab ?_) ?_ ?_ ((Ext.rf _).drew)
  · intro j v W W' _ h _
    exact h
  · intro pq hpm u W hRW hD K hK
    have b1 := B1.out.ext hRW
    have b2 := B2.out.ext hRW
    simp only [List.mem_cons, List.not_mem_nil, or_false] at hpm
    rcases hpm with rfl | rfl | rfl | rfl | rfl | rfl
    · exact op_ld (T := 4) rfl (.pointer (some ⟨w.heap.size, 0, none⟩)) (by kernel_rfl) (.bool false) (load_minus b1) (hK _ _ (VF.mk rfl) hRW (Ext.rf _))
    · exact op_ld (T := 4) rfl (.pointer (some ⟨w.heap.size + 1, 0, none⟩)) (by kernel_rfl) (.bool false) (load_minus b2) (hK _ _ (VF.mk rfl) hRW (Ext.rf _))
    · have h1 := (hD 1 (depIn (by kernel_rfl))).k rfl
      have h3 := (hD 3 (depIn (by kernel_rfl))).k rfl
      exact op_run rfl (.bool false) (by simp only [putAll, h1, h3]; unfold exec2; go_simp) (hK _ _ (VF.mk rfl) hRW (Ext.rf _))
    · exact op_ld (T := 168) rfl (.pointer (some ⟨w.heap.size, 1, none⟩)) (by kernel_rfl) (bigV a 0) (load_size b1) (hK _ _ (VF.mk rfl) hRW (Ext.rf _))
    · exact op_ld (T := 168) rfl (.pointer (some ⟨w.heap.size + 1, 1, none⟩)) (by kernel_rfl) (bigV b 0) (load_size b2) (hK _ _ (VF.mk rfl) hRW (Ext.rf _))
    · have h6 := (hD 6 (depIn (by kernel_rfl))).k rfl
      have h8 := (hD 8 (depIn (by kernel_rfl))).k rfl
      refine op_call rfl #[bigV a 0, bigV b 0] (by go_simp) (by simp only [putAll, h6, h8]; kernel_rfl) _ (times_any a b p W ha hb hp.out) ?_
      rintro e w3 ⟨rfl, x3⟩
      exact ⟨_, rfl, hK _ _ (VF.mk rfl) (hRW.tr x3) x3⟩
  · intro u w3 hRW hV
    have h1 := (hV (1, some 6) (by simp)).k rfl
    have h3 := (hV (3, some 8) (by simp)).k rfl
    have h4 := (hV (4, some 9) (by simp)).k rfl
    have h6 := (hV (6, some 11) (by simp)).k rfl
    have h8 := (hV (8, some 13) (by simp)).k rfl
    have h9 := (hV (9, some 14) (by simp)).k rfl
    simp only [putAll, h1, h3, h4, h6, h8, h9]
    clear hV h1 h3 h4 h6 h8 h9
    have b3 := B3.out.ext hRW
    have b4 : Blk (tenW w3 (w.heap.size + 1 + 1) false (lowP p) (highP p)) (w.heap.size + 1 + 1) 170 (sgnC false (lowP p) (highP p)) := tenW_blk b3
    have Y4 := Lib.hid (tenW_ext (m := false) (lo := lowP p) (hi := highP p) (g := w.heap.size + 1 + 1) (Ext.tr Y0.out hRW) (by omega))
    unfold bigV
    try simp only [Act.put, List.setIfInBounds_toArray, List.set_cons_zero, List.set_cons_succ]
    refine wpAny_T (i := 10) (op := Op.build 170 #[(0, Operand.tmp 9), (1, Operand.tmp 14)]) (t := 170) (d := some 15) (v := ?_) rfl (by decide +kernel) (by decide +kernel) (by decide +kernel) (fun _ _ _ h => h) ?_ ?_
    case refine_2 => (intro _; unfold exec2; go_simp; try with_reducible rfl)
    try simp only [Act.put, List.setIfInBounds_toArray, List.set_cons_zero, List.set_cons_succ]
    refine wpAny_next 11 (by kernel_rfl) (op_st rfl (.pointer (some ⟨w.heap.size + 1 + 1, 0, none⟩)) (sgnV false (lowP p) (highP p)) (by kernel_rfl) (by kernel_rfl) (store_sgn b3) ?_)
    refine wpAny_done (by kernel_rfl) ?_ _
    clear b3 hRW
    generalize tenW w3 (w.heap.size + 1 + 1) false (lowP p) (highP p) = w5 at *
    have c0 : w5.cell? ⟨w.heap.size + 1 + 1, 0, none⟩ = some (.bool false) := b4.cell 0
    have c1 : w5.cell? ⟨w.heap.size + 1 + 1, 1, none⟩ = some (.int .i64 (lowP p)) := b4.cell 1
    have c2 : w5.cell? ⟨w.heap.size + 1 + 1, 2, none⟩ = some (.int .i64 (highP p)) := b4.cell 2
    have c3 : w5.cell? ⟨w.heap.size + 1 + 1, 3, none⟩ = some (.int .i64 0) := b4.cell 3
    have c4 : w5.cell? ⟨w.heap.size + 1 + 1, 4, none⟩ = some (.int .i64 0) := b4.cell 4
    have c5 : w5.cell? ⟨w.heap.size + 1 + 1, 5, none⟩ = some (.int .i64 0) := b4.cell 5
    have c6 : w5.cell? ⟨w.heap.size + 1 + 1, 6, none⟩ = some (.int .i64 0) := b4.cell 6
    have c7 : w5.cell? ⟨w.heap.size + 1 + 1, 7, none⟩ = some (.int .i64 0) := b4.cell 7
    have c8 : w5.cell? ⟨w.heap.size + 1 + 1, 8, none⟩ = some (.int .i64 0) := b4.cell 8
    have c9 : w5.cell? ⟨w.heap.size + 1 + 1, 9, none⟩ = some (.int .i64 0) := b4.cell 9
    clear b4
    go_simp
    go_wp2_with (fail)
    exact bodyPost_ret (v := sgnV false (lowP p) (highP p)) (by simp [results, Try.results138, go_sem, sgnV, *]) rfl ⟨rfl, Y4.out⟩
end Go.Proofs.Ytcpadkaljnnieaa
namespace Go.Proofs.Ytcpadkaljnnieaa
open Go.RowKit Go.ChangeShapes Go.WideShapes Go.ChangeAt Go.Deep

def dig (lo hi : Int) (k : Nat) : Int := if k = 0 then lo else if k = 1 then hi else 0
/-- from place k down -/
def lessD (lo hi lo' hi' : Int) : Nat → Bool
  | 0 => false
  | k + 1 => if dig lo hi k = dig lo' hi' k then lessD lo hi lo' hi' k else decide (dig lo hi k < dig lo' hi' k)
theorem lessD_nine {p q : Int} : lessD (lowP p) (highP p) (lowP q) (highP q) 9 = decide (p < q) := by
  simp only [lessD, dig]
  simp
  unfold lowP highP
  by_cases h1 : p / 2147483648 = q / 2147483648
  · rw [if_pos h1, Bool.eq_iff_iff]
    simp
    omega
  · rw [if_neg h1, decide_eq_decide]
    omega
set_option maxRecDepth 100000 in
set_option maxHeartbeats 2000000 in
theorem less_any (p q : Int) (w : World) : Calls Try.prog 147 #[bigV (lowP p) (highP p), bigV (lowP q) (highP q)] w fun e w' => e = .returned (.bool (decide (p < q))) ∧ Ext w w' := by
  have HL := Lib.hid (@lessD_nine p q)
  generalize lowP p = lo at *
  generalize highP p = hi at *
  generalize lowP q = lo' at *
  generalize highP q = hi' at *
  have BA : Hid (Blk ((w.alloc (.cells (bigC lo hi) 168)).alloc (.cells (bigC lo' hi') 168)) w.heap.size 168 (bigC lo hi)) := .alloc (.new rfl) _
  have BB : Hid (Blk ((w.alloc (.cells (bigC lo hi) 168)).alloc (.cells (bigC lo' hi') 168)) (w.heap.size + 1) 168 (bigC lo' hi')) := .new (by simp)
  have Y0 : Hid (Ext w ((w.alloc (.cells (bigC lo hi) 168)).alloc (.cells (bigC lo' hi') 168))) := ((Ext.rf _).alloc _).alloc _
  obtain ⟨res, hres⟩ : ∃ res, Hid (res = decide (p < q)) := ⟨_, rfl⟩
  rw [← hres.out] at HL ⊢
  unfold bigV
  go_enter Try.func147, Try.ntmps147
  go_wp2_with (fail)
  go_loopw [5] (fun i wr => ∃ (k : Nat) (z : Int), i = .int .i64 z ∧ z + 1 = (k : Int) ∧ k ≤ 9 ∧ Hid (lessD lo hi lo' hi' k = res) ∧ Ext w wr ∧ Hid (Blk wr w.heap.size 168 (bigC lo hi)) ∧ Hid (Blk wr (w.heap.size + 1) 168 (bigC lo' hi'))) (fun i _ => (intOf i + 1).toNat)
  case atStart => exact ⟨9, 8, rfl, by omega, by omega, HL, Y0.out, BA, BB⟩
  case round =>
    obtain ⟨wo, rfl⟩ : ∃ wo : World, wo = wr := ⟨_, rfl⟩
    obtain ⟨k, z, rfl, hz, hk, HS, Y, A1, B1⟩ := hrel
    by_cases h0 : 1 ≤ k
    · obtain ⟨m, rfl⟩ : ∃ m, k = m + 1 := ⟨k - 1, by omega⟩
      obtain rfl : z = (m : Int) := by omega
      have gA := A1.out.cell m
      have gB := B1.out.cell m
      rw [bigC_get _ _ _ (by omega)] at gA gB
      have HT : Hid (res = if dig lo hi m = dig lo' hi' m then lessD lo hi lo' hi' m else decide (dig lo hi m < dig lo' hi' m)) := HS.out.symm
      obtain ⟨x, hx⟩ : ∃ x, Hid (x = dig lo hi m) := ⟨_, rfl⟩
      obtain ⟨y, hy⟩ : ∃ y, Hid (y = dig lo' hi' m) := ⟨_, rfl⟩
      have gA' : wo.cell? ⟨w.heap.size, m, none⟩ = some (.int .i64 x) := by rw [hx.out]; exact gA
      have gB' : wo.cell? ⟨w.heap.size + 1, m, none⟩ = some (.int .i64 y) := by rw [hy.out]; exact gB
      rw [← hx.out, ← hy.out] at HT
      have q3 : (m : Int) < 9 := by omega
      clear gA gB hz h0 hx hy HS
      by_cases hxy : x = y
      · subst hxy
        have HN : Hid (lessD lo hi lo' hi' m = res) := by
          have h := HT.out
          rw [if_pos rfl] at h
          exact h.symm
        go_wp2_with (go_quiet (fail))
        go_roundw
        case rel => exact ⟨m, _, rfl, by omega, by omega, HN, by repeat (first | exact Y | apply Ext.drewN), A1, B1⟩
        case measure => simp [intOf]
      · have hne : (x != y) = true := by simpa using hxy
        have HN : Hid (res = decide (x < y)) := by
          have h := HT.out
          rw [if_neg hxy] at h
          exact h
        clear hxy
        go_wp2_with (go_quiet (fail))
        all_goals go_ret
        all_goals exact ⟨ret_b HN.out.symm, by repeat (first | exact Y | apply Ext.drewN)⟩
    · obtain rfl : k = 0 := by omega
      obtain rfl : z = -1 := by omega
      go_wp2_with (fail)
      go_ret
      exact ⟨ret_b HS.out, Y⟩
/-- where the difference stands -/
def MinAt (p q : Int) (k : Nat) (x y u : Int) : Prop := (k = 0 ∧ x = 0 ∧ y = 0 ∧ u = 0) ∨ (k = 1 ∧ x = lowP (p - q) ∧ y = 0 ∧ u = if lowP p < lowP q then 1 else 0) ∨ (2 ≤ k ∧ x = lowP (p - q) ∧ y = highP (p - q) ∧ u = 0)
theorem min_step {p q : Int} (hq : 0 ≤ q) (hpq : q ≤ p) (hp : p ≤ 4611686014132420609) {k : Nat} (hk : k < 9) {x y u : Int} (h : MinAt p q k x y u) :
    ∃ a b d d' u' x' y' : Int, a = dig (lowP p) (highP p) k ∧ b = dig (lowP q) (highP q) k ∧ d = a - b - u ∧ d' = (if d < 0 then d + 2147483648 else d) ∧ u' = (if d < 0 then 1 else 0) ∧ (0 ≤ a ∧ a ≤ 2147483647) ∧ (0 ≤ b ∧ b ≤ 2147483647) ∧ (0 ≤ u ∧ u ≤ 1) ∧
      (bigC x y).setIfInBounds k (.int .i64 d') = bigC x' y' ∧ MinAt p q (k + 1) x' y' u' := by
  have b1 := parts_bd (p := p) ⟨by omega, hp⟩
  have b2 := parts_bd (p := q) ⟨hq, by omega⟩
  unfold MinAt at h ⊢
  unfold lowP highP at *
  rcases h with ⟨rfl, rfl, rfl, rfl⟩ | ⟨rfl, rfl, rfl, rfl⟩ | ⟨h, rfl, rfl, rfl⟩
  · refine ⟨p % 2147483648, q % 2147483648, _, (p - q) % 2147483648, _, _, 0, rfl, rfl, rfl, ?_, rfl, by omega, by omega, by omega, rfl, .inr (.inl ⟨rfl, rfl, rfl, ?_⟩)⟩
    · split <;> omega
    · split <;> split <;> omega
  · refine ⟨p / 2147483648, q / 2147483648, _, (p - q) / 2147483648, 0, _, _, rfl, rfl, rfl, ?_, ?_, by omega, by omega, by split <;> omega, rfl, .inr (.inr ⟨by omega, rfl, rfl, rfl⟩)⟩
    · split <;> split <;> omega
    · split <;> split <;> omega
  · refine ⟨0, 0, _, 0, 0, _, _, ?_, ?_, rfl, by simp, by simp, by omega, by omega, by omega, ?_, .inr (.inr ⟨by omega, rfl, rfl, rfl⟩)⟩
    · unfold dig; rw [if_neg (by omega), if_neg (by omega)]
    · unfold dig; rw [if_neg (by omega), if_neg (by omega)]
    · have e := bigC_same ((p - q) % 2147483648) ((p - q) / 2147483648) k hk
      rw [if_neg (by omega), if_neg (by omega)] at e
      exact e
set_option maxRecDepth 100000 in
set_option maxHeartbeats 4000000 in
theorem bminus_any (p q : Int) (w : World) (hq : 0 ≤ q) (hpq : q ≤ p) (hp : p ≤ 4611686014132420609) : Calls Try.prog 148 #[bigV (lowP p) (highP p), bigV (lowP q) (highP q)] w fun e w' => e = .returned (bigV (lowP (p - q)) (highP (p - q))) ∧ Ext w w' := by
  have Y0 : Ext w ((((w.alloc (.cells (bigC (lowP p) (highP p)) 168)).alloc (.cells (bigC (lowP q) (highP q)) 168)).alloc (.cells (bigC 0 0) 168)).alloc (.cells (bigC 0 0) 168)) := ((((Ext.rf _).alloc _).alloc _).alloc _).alloc _
  have BA : Blk ((((w.alloc (.cells (bigC (lowP p) (highP p)) 168)).alloc (.cells (bigC (lowP q) (highP q)) 168)).alloc (.cells (bigC 0 0) 168)).alloc (.cells (bigC 0 0) 168)) w.heap.size 168 (bigC (lowP p) (highP p)) := .alloc (.alloc (.alloc (.new rfl) _) _) _
  have BB : Blk ((((w.alloc (.cells (bigC (lowP p) (highP p)) 168)).alloc (.cells (bigC (lowP q) (highP q)) 168)).alloc (.cells (bigC 0 0) 168)).alloc (.cells (bigC 0 0) 168)) (w.heap.size + 1) 168 (bigC (lowP q) (highP q)) := .alloc (.alloc (.new (by simp)) _) _
  have BR : Blk ((((w.alloc (.cells (bigC (lowP p) (highP p)) 168)).alloc (.cells (bigC (lowP q) (highP q)) 168)).alloc (.cells (bigC 0 0) 168)).alloc (.cells (bigC 0 0) 168)) (w.heap.size + 1 + 1) 168 (bigC 0 0) := .alloc (.new (by simp)) _
  have BC : Blk ((((w.alloc (.cells (bigC (lowP p) (highP p)) 168)).alloc (.cells (bigC (lowP q) (highP q)) 168)).alloc (.cells (bigC 0 0) 168)).alloc (.cells (bigC 0 0) 168)) (w.heap.size + 1 + 1 + 1) 168 (bigC 0 0) := .new (by simp)
  replace Y0 := Lib.hid Y0
  replace BA := Lib.hid BA
  replace BB := Lib.hid BB
  replace BR := Lib.hid BR
  replace BC := Lib.hid BC
  have STEP : Hid (∀ (k : Nat), k < 9 → ∀ x y u : Int, MinAt p q k x y u → ∃ a b d d' u' x' y' : Int, a = dig (lowP p) (highP p) k ∧ b = dig (lowP q) (highP q) k ∧ d = a - b - u ∧ d' = (if d < 0 then d + 2147483648 else d) ∧ u' = (if d < 0 then 1 else 0) ∧ (0 ≤ a ∧ a ≤ 2147483647) ∧ (0 ≤ b ∧ b ≤ 2147483647) ∧ (0 ≤ u ∧ u ≤ 1) ∧ (bigC x y).setIfInBounds k (.int .i64 d') = bigC x' y' ∧ MinAt p q (k + 1) x' y' u') := fun k hk x y u h => min_step hq hpq hp hk h
  clear hq hpq hp
  unfold bigV
  go_enter Try.func148, Try.ntmps148
  go_wp2_with (fail)
  go_loopw [6, 7] (fun o i wr => ∃ (k : Nat) (x y u : Int), i = .int .i64 k ∧ o = .int .i64 u ∧ k ≤ 9 ∧ Hid (MinAt p q k x y u) ∧ Ext w wr ∧ Hid (Blk wr w.heap.size 168 (bigC (lowP p) (highP p))) ∧ Hid (Blk wr (w.heap.size + 1) 168 (bigC (lowP q) (highP q))) ∧ Hid (Blk wr (w.heap.size + 1 + 1) 168 (bigC 0 0)) ∧ Hid (Blk wr (w.heap.size + 1 + 1 + 1) 168 (bigC x y))) (fun _ i _ => 9 - (intOf i).toNat)
  case atStart => exact ⟨0, 0, 0, 0, rfl, rfl, by omega, .inl ⟨rfl, rfl, rfl, rfl⟩, Y0.out, BA, BB, BR, BC⟩
  case round =>
    obtain ⟨wo, rfl⟩ : ∃ wo : World, wo = wr := ⟨_, rfl⟩
    obtain ⟨k, x, y, u, rfl, rfl, hk, HM, Y, A1, B1, R1, C1⟩ := hrel
    by_cases hlt : k < 9
    · obtain ⟨a, b, d, d', u', x', y', ha, hb, hd, hd', hu', ba, bb, bu, hset, HM2⟩ := STEP.out k hlt x y u HM.out
      have gA := A1.out.cell k
      have gB := B1.out.cell k
      have gC := C1.out.cell k
      have fC := C1.out.free k
      rw [bigC_get _ _ _ hlt] at gA gB gC
      have gA' : wo.cell? ⟨w.heap.size, k, none⟩ = some (.int .i64 a) := by rw [ha]; exact gA
      have gB' : wo.cell? ⟨w.heap.size + 1, k, none⟩ = some (.int .i64 b) := by rw [hb]; exact gB
      have w1 : Hid (IntKind.i64.wrap (a - b) = a - b) := IntWalk.i64_in _ (by omega)
      have w2 : Hid (IntKind.i64.wrap (a - b - u) = d) := by
        have h : IntKind.i64.wrap (a - b - u) = d := by rw [hd]; exact IntWalk.i64_in _ (by omega)
        exact h
      have bd : -2147483649 ≤ d ∧ d ≤ 2147483647 := by omega
      obtain ⟨bd1, bd2⟩ := bd
      have q3 : (k : Int) < 9 := by omega
      have n1 : ¬ w.heap.size = w.heap.size + 1 + 1 + 1 := by omega
      replace hset := Lib.hid hset
      replace HM2 := Lib.hid HM2
      replace hd' := Lib.hid hd'
      replace hu' := Lib.hid hu'
      clear gA gB ha hb hd HM ba bb bu
      have w1' := w1.out
      have w2' := w2.out
      by_cases hneg : d < 0
      · have e1 : Hid (d' = d + 2147483648) := by
          have h := hd'.out
          rw [if_pos hneg] at h
          exact h
        have e2 : Hid (u' = 1) := by
          have h := hu'.out
          rw [if_pos hneg] at h
          exact h
        rw [e1.out] at hset
        rw [e2.out] at HM2
        go_wp2_with (go_quiet (fail))
        go_roundw
        case rel => exact ⟨k + 1, x', y', 1, by go_num, rfl, by omega, HM2, (Y.drewN _).setNew (by simp <;> omega) _, (A1.out.drewN _).far (by simp <;> omega) _, (B1.out.drewN _).far (by simp <;> omega) _, (R1.out.drewN _).far (by simp <;> omega) _, by rw [← hset.out]; exact (C1.out.drewN _).set k _⟩
        case measure => simp [intOf]; omega
      · have e1 : Hid (d' = d) := by
          have h := hd'.out
          rw [if_neg hneg] at h
          exact h
        have e2 : Hid (u' = 0) := by
          have h := hu'.out
          rw [if_neg hneg] at h
          exact h
        rw [e1.out] at hset
        rw [e2.out] at HM2
        go_wp2_with (go_quiet (fail))
        go_roundw
        case rel => exact ⟨k + 1, x', y', 0, by go_num, rfl, by omega, HM2, (Y.drewN _).setNew (by simp <;> omega) _, (A1.out.drewN _).far (by simp <;> omega) _, (B1.out.drewN _).far (by simp <;> omega) _, (R1.out.drewN _).far (by simp <;> omega) _, by rw [← hset.out]; exact (C1.out.drewN _).set k _⟩
        case measure => simp [intOf]; omega
    · obtain rfl : k = 9 := by omega
      have HM4 : Hid (x = lowP (p - q) ∧ y = highP (p - q)) := by
        rcases HM.out with ⟨h, _⟩ | ⟨h, _⟩ | ⟨_, h1, h2, _⟩
        · omega
        · omega
        · exact ⟨h1, h2⟩
      obtain ⟨rfl, rfl⟩ := HM4.out
      clear HM HM4 STEP
      have c0 : wo.cell? ⟨w.heap.size + 1 + 1 + 1, 0, none⟩ = some (.int .i64 (lowP (p - q))) := C1.out.cell 0
      have c1 : wo.cell? ⟨w.heap.size + 1 + 1 + 1, 1, none⟩ = some (.int .i64 (highP (p - q))) := C1.out.cell 1
      have c2 : wo.cell? ⟨w.heap.size + 1 + 1 + 1, 2, none⟩ = some (.int .i64 0) := C1.out.cell 2
      have c3 : wo.cell? ⟨w.heap.size + 1 + 1 + 1, 3, none⟩ = some (.int .i64 0) := C1.out.cell 3
      have c4 : wo.cell? ⟨w.heap.size + 1 + 1 + 1, 4, none⟩ = some (.int .i64 0) := C1.out.cell 4
      have c5 : wo.cell? ⟨w.heap.size + 1 + 1 + 1, 5, none⟩ = some (.int .i64 0) := C1.out.cell 5
      have c6 : wo.cell? ⟨w.heap.size + 1 + 1 + 1, 6, none⟩ = some (.int .i64 0) := C1.out.cell 6
      have c7 : wo.cell? ⟨w.heap.size + 1 + 1 + 1, 7, none⟩ = some (.int .i64 0) := C1.out.cell 7
      have c8 : wo.cell? ⟨w.heap.size + 1 + 1 + 1, 8, none⟩ = some (.int .i64 0) := C1.out.cell 8
      have z0 : wo.cell? ⟨w.heap.size + 1 + 1, 0, none⟩ = some (.int .i64 0) := R1.out.cell 0
      have z1 : wo.cell? ⟨w.heap.size + 1 + 1, 1, none⟩ = some (.int .i64 0) := R1.out.cell 1
      have z2 : wo.cell? ⟨w.heap.size + 1 + 1, 2, none⟩ = some (.int .i64 0) := R1.out.cell 2
      have z3 : wo.cell? ⟨w.heap.size + 1 + 1, 3, none⟩ = some (.int .i64 0) := R1.out.cell 3
      have z4 : wo.cell? ⟨w.heap.size + 1 + 1, 4, none⟩ = some (.int .i64 0) := R1.out.cell 4
      have z5 : wo.cell? ⟨w.heap.size + 1 + 1, 5, none⟩ = some (.int .i64 0) := R1.out.cell 5
      have z6 : wo.cell? ⟨w.heap.size + 1 + 1, 6, none⟩ = some (.int .i64 0) := R1.out.cell 6
      have z7 : wo.cell? ⟨w.heap.size + 1 + 1, 7, none⟩ = some (.int .i64 0) := R1.out.cell 7
      have z8 : wo.cell? ⟨w.heap.size + 1 + 1, 8, none⟩ = some (.int .i64 0) := R1.out.cell 8
      have f0 : wo.frozen? ⟨w.heap.size + 1 + 1, 0, none⟩ = false := R1.out.free 0
      have f1 : wo.frozen? ⟨w.heap.size + 1 + 1, 1, none⟩ = false := R1.out.free 1
      have f2 : wo.frozen? ⟨w.heap.size + 1 + 1, 2, none⟩ = false := R1.out.free 2
      have f3 : wo.frozen? ⟨w.heap.size + 1 + 1, 3, none⟩ = false := R1.out.free 3
      have f4 : wo.frozen? ⟨w.heap.size + 1 + 1, 4, none⟩ = false := R1.out.free 4
      have f5 : wo.frozen? ⟨w.heap.size + 1 + 1, 5, none⟩ = false := R1.out.free 5
      have f6 : wo.frozen? ⟨w.heap.size + 1 + 1, 6, none⟩ = false := R1.out.free 6
      have f7 : wo.frozen? ⟨w.heap.size + 1 + 1, 7, none⟩ = false := R1.out.free 7
      have f8 : wo.frozen? ⟨w.heap.size + 1 + 1, 8, none⟩ = false := R1.out.free 8
      have Y9 := Lib.hid (setNine Y (g := w.heap.size + 1 + 1) (by omega) (.int .i64 (lowP (p - q))) (.int .i64 (highP (p - q))) (.int .i64 0) (.int .i64 0) (.int .i64 0) (.int .i64 0) (.int .i64 0) (.int .i64 0) (.int .i64 0))
      go_wp2_with (fail)
      exact bodyPost_ret (v := bigV (lowP (p - q)) (highP (p - q))) (by simp [results, Try.results148, go_sem, bigV, *]) rfl ⟨rfl, Y9.out⟩
end Go.Proofs.Ytcpadkaljnnieaa
namespace Go.Proofs.Ytcpadkaljnnieaa
open Go.RowKit Go.ChangeShapes Go.WideShapes Go.ChangeAt Go.Deep

def diffV (p q : Int) : Value := if p < q then sgnV true (lowP (q - p)) (highP (q - p)) else sgnV false (lowP (p - q)) (highP (p - q))
set_option maxRecDepth 100000 in
set_option maxHeartbeats 4000000 in
theorem badd_any (p q : Int) (w : World) (hp : 0 ≤ p ∧ p ≤ 4611686014132420609) (hq : 0 ≤ q ∧ q ≤ 4611686014132420609) :
    Calls Try.prog 142 #[sgnV false (lowP p) (highP p), sgnV true (lowP q) (highP q)] w fun e w' => e = .returned (diffV p q) ∧ Ext w w' := by
  have B1 : Blk (((w.alloc (.cells (sgnC false (lowP p) (highP p)) 170)).alloc (.cells (sgnC true (lowP q) (highP q)) 170)).alloc (.cells (sgnC false 0 0) 170)) w.heap.size 170 (sgnC false (lowP p) (highP p)) := .alloc (.alloc (.new rfl) _) _
  have B2 : Blk (((w.alloc (.cells (sgnC false (lowP p) (highP p)) 170)).alloc (.cells (sgnC true (lowP q) (highP q)) 170)).alloc (.cells (sgnC false 0 0) 170)) (w.heap.size + 1) 170 (sgnC true (lowP q) (highP q)) := .alloc (.new (by simp)) _
  have B3 : Blk (((w.alloc (.cells (sgnC false (lowP p) (highP p)) 170)).alloc (.cells (sgnC true (lowP q) (highP q)) 170)).alloc (.cells (sgnC false 0 0) 170)) (w.heap.size + 1 + 1) 170 (sgnC false 0 0) := .new (by simp)
  have Y0 : Ext w (((w.alloc (.cells (sgnC false (lowP p) (highP p)) 170)).alloc (.cells (sgnC true (lowP q) (highP q)) 170)).alloc (.cells (sgnC false 0 0) 170)) := (((Ext.rf _).alloc _).alloc _).alloc _
  have LE := fun W => less_any p q W
  obtain ⟨wr, hwr⟩ : ∃ wr, wr = (((w.alloc (.cells (sgnC false (lowP p) (highP p)) 170)).alloc (.cells (sgnC true (lowP q) (highP q)) 170)).alloc (.cells (sgnC false 0 0) 170)) := ⟨_, rfl⟩
  have hwl : (((w.alloc (.cells #[.bool false, .int .i64 (lowP p), .int .i64 (highP p), .int .i64 0, .int .i64 0, .int .i64 0, .int .i64 0, .int .i64 0, .int .i64 0, .int .i64 0] 170)).alloc (.cells #[.bool true, .int .i64 (lowP q), .int .i64 (highP q), .int .i64 0, .int .i64 0, .int .i64 0, .int .i64 0, .int .i64 0, .int .i64 0, .int .i64 0] 170)).alloc (.cells #[.bool false, .int .i64 0, .int .i64 0, .int .i64 0, .int .i64 0, .int .i64 0, .int .i64 0, .int .i64 0, .int .i64 0, .int .i64 0] 170)) = wr := hwr.symm
  rw [← hwr] at B1 B2 B3 Y0
  clear hwr
  replace B1 := Lib.hid B1
  replace B2 := Lib.hid B2
  replace B3 := Lib.hid B3
  replace Y0 := Lib.hid Y0
  replace LE := Lib.hid LE
  replace hwl := Lib.hid hwl
  unfold sgnV
  go_enter Try.func142, Try.ntmps142
  go_wp2_with (fail)
  rw [hwl.out]
  refine (LE.out _).mono ?_
  rintro e w2 ⟨rfl, x2⟩
  replace x2 := Lib.hid x2
  by_cases hlt : p < q
  · have hb : decide (p < q) = true := by simpa using hlt
    have MIN := Lib.hid (fun W => bminus_any q p W hp.1 (by omega) hq.2)
    replace hlt := Lib.hid hlt
    clear LE
    go_wp2_with (fail)
    refine wp_region_any (by kernel_rfl) ?_
    change wpAny _ _ _ _ _ _ _ (World.drew _)
    refine wpAny_T (i := 0) (op := Op.fieldAddr 170 (Operand.tmp 3) 0) (t := 0) (d := some 23) (v := ?_) rfl (by decide +kernel) (by decide +kernel) (by decide +kernel) (fun _ _ _ h => h) ?_ ?_
    case refine_2 => (intro _; unfold exec2; go_simp; try with_reducible rfl)
    try simp only [Act.put, List.setIfInBounds_toArray, List.set_cons_zero, List.set_cons_succ]
    refine wpAny_T (i := 2) (op := Op.fieldAddr 170 (Operand.tmp 3) 1) (t := 0) (d := some 25) (v := ?_) rfl (by decide +kernel) (by decide +kernel) (by decide +kernel) (fun _ _ _ h => h) ?_ ?_
    case refine_2 => (intro _; unfold exec2; go_simp; try with_reducible rfl)
    try simp only [Act.put, List.setIfInBounds_toArray, List.set_cons_zero, List.set_cons_succ]
    refine wpAny_T (i := 4) (op := Op.fieldAddr 170 (Operand.tmp 2) 1) (t := 0) (d := some 27) (v := ?_) rfl (by decide +kernel) (by decide +kernel) (by decide +kernel) (fun _ _ _ h => h) ?_ ?_
    case refine_2 => (intro _; unfold exec2; go_simp; try with_reducible rfl)
    try simp only [Act.put, List.setIfInBounds_toArray, List.set_cons_zero, List.set_cons_succ]
    refine wpAny_core2 (n := 2) [(1, some 24), (3, some 26), (5, some 28), (6, some 29)] (Ext w2)
      (VF (fun | 1 => some (.bool true) | 3 => some (bigV (lowP q) (highP q)) | 5 => some (bigV (lowP p) (highP p)) | 6 => some (bigV (lowP (q - p)) (highP (q - p))) | _ => none) (fun _ _ _ => True))
      Ext #[true, true, true, true, true, true, true, false, false] (by kernel_rfl) (VF.stab ?_) ?_ ?_ ((Ext.rf _).drew)
    · intro j v W W' _ h _
      exact h
    · intro pq hpm u W hRW hD K hK
      have b1 := B1.out.ext (x2.out.tr hRW)
      have b2 := B2.out.ext (x2.out.tr hRW)
      simp only [List.mem_cons, List.not_mem_nil, or_false] at hpm
      rcases hpm with rfl | rfl | rfl | rfl
      · exact op_ld (T := 4) rfl (.pointer (some ⟨w.heap.size + 1, 0, none⟩)) (by kernel_rfl) (.bool true) (load_minus b2) (hK _ _ (VF.mk rfl) hRW (Ext.rf _))
      · exact op_ld (T := 168) rfl (.pointer (some ⟨w.heap.size + 1, 1, none⟩)) (by kernel_rfl) (bigV (lowP q) (highP q)) (load_size b2) (hK _ _ (VF.mk rfl) hRW (Ext.rf _))
      · exact op_ld (T := 168) rfl (.pointer (some ⟨w.heap.size, 1, none⟩)) (by kernel_rfl) (bigV (lowP p) (highP p)) (load_size b1) (hK _ _ (VF.mk rfl) hRW (Ext.rf _))
      · have h3 := (hD 3 (depIn (by kernel_rfl))).k rfl
        have h5 := (hD 5 (depIn (by kernel_rfl))).k rfl
        refine op_call rfl #[bigV (lowP q) (highP q), bigV (lowP p) (highP p)] (by go_simp) (by simp only [putAll, h3, h5]; kernel_rfl) _ (MIN.out W) ?_
        rintro e w3 ⟨rfl, x3⟩
        exact ⟨_, rfl, hK _ _ (VF.mk rfl) (hRW.tr x3) x3⟩
    · intro u w3 hRW hV
      have h1 := (hV (1, some 24) (by simp)).k rfl
      have h3 := (hV (3, some 26) (by simp)).k rfl
      have h5 := (hV (5, some 28) (by simp)).k rfl
      have h6 := (hV (6, some 29) (by simp)).k rfl
      simp only [putAll, h1, h3, h5, h6]
      clear hV h1 h3 h5 h6
      have b3 := B3.out.ext (x2.out.tr hRW)
      have b4 : Blk (tenW w3 (w.heap.size + 1 + 1) true (lowP (q - p)) (highP (q - p))) (w.heap.size + 1 + 1) 170 (sgnC true (lowP (q - p)) (highP (q - p))) := tenW_blk b3
      have Y4 := Lib.hid (tenW_ext (m := true) (lo := (lowP (q - p))) (hi := (highP (q - p))) (g := w.heap.size + 1 + 1) (Ext.tr (Ext.tr Y0.out x2.out) hRW) (by omega))
      unfold bigV
      try simp only [Act.put, List.setIfInBounds_toArray, List.set_cons_zero, List.set_cons_succ]
      refine wpAny_T (i := 7) (op := Op.build 170 #[(0, Operand.tmp 24), (1, Operand.tmp 29)]) (t := 170) (d := some 30) (v := ?_) rfl (by decide +kernel) (by decide +kernel) (by decide +kernel) (fun _ _ _ h => h) ?_ ?_
      case refine_2 => (intro _; unfold exec2; go_simp; try with_reducible rfl)
      try simp only [Act.put, List.setIfInBounds_toArray, List.set_cons_zero, List.set_cons_succ]
      refine wpAny_next 8 (by kernel_rfl) (op_st rfl (.pointer (some ⟨w.heap.size + 1 + 1, 0, none⟩)) (sgnV true (lowP (q - p)) (highP (q - p))) (by kernel_rfl) (by kernel_rfl) (store_sgn b3) ?_)
      refine wpAny_done (by kernel_rfl) ?_ _
      clear b3 hRW
      generalize tenW w3 (w.heap.size + 1 + 1) true (lowP (q - p)) (highP (q - p)) = w5 at *
      have c0 : w5.cell? ⟨w.heap.size + 1 + 1, 0, none⟩ = some (.bool true) := b4.cell 0
      have c1 : w5.cell? ⟨w.heap.size + 1 + 1, 1, none⟩ = some (.int .i64 (lowP (q - p))) := b4.cell 1
      have c2 : w5.cell? ⟨w.heap.size + 1 + 1, 2, none⟩ = some (.int .i64 (highP (q - p))) := b4.cell 2
      have c3 : w5.cell? ⟨w.heap.size + 1 + 1, 3, none⟩ = some (.int .i64 0) := b4.cell 3
      have c4 : w5.cell? ⟨w.heap.size + 1 + 1, 4, none⟩ = some (.int .i64 0) := b4.cell 4
      have c5 : w5.cell? ⟨w.heap.size + 1 + 1, 5, none⟩ = some (.int .i64 0) := b4.cell 5
      have c6 : w5.cell? ⟨w.heap.size + 1 + 1, 6, none⟩ = some (.int .i64 0) := b4.cell 6
      have c7 : w5.cell? ⟨w.heap.size + 1 + 1, 7, none⟩ = some (.int .i64 0) := b4.cell 7
      have c8 : w5.cell? ⟨w.heap.size + 1 + 1, 8, none⟩ = some (.int .i64 0) := b4.cell 8
      have c9 : w5.cell? ⟨w.heap.size + 1 + 1, 9, none⟩ = some (.int .i64 0) := b4.cell 9
      clear b4
      go_simp
      go_wp2_with (fail)
      exact bodyPost_ret (v := sgnV true (lowP (q - p)) (highP (q - p))) (by simp [results, Try.results142, go_sem, sgnV, *]) rfl ⟨by rw [diffV, if_pos hlt.out], Y4.out⟩
  · have hb : decide (p < q) = false := by simpa using hlt
    have MIN := Lib.hid (fun W => bminus_any p q W hq.1 (by omega) hp.2)
    replace hlt := Lib.hid hlt
    clear LE
    go_wp2_with (fail)
    refine wp_region_any (by kernel_rfl) ?_
    change wpAny _ _ _ _ _ _ _ (World.drew _)
    refine wpAny_T (i := 0) (op := Op.fieldAddr 170 (Operand.tmp 2) 0) (t := 0) (d := some 31) (v := ?_) rfl (by decide +kernel) (by decide +kernel) (by decide +kernel) (fun _ _ _ h => h) ?_ ?_
    case refine_2 => (intro _; unfold exec2; go_simp; try with_reducible rfl)
    try simp only [Act.put, List.setIfInBounds_toArray, List.set_cons_zero, List.set_cons_succ]
    refine wpAny_T (i := 2) (op := Op.fieldAddr 170 (Operand.tmp 2) 1) (t := 0) (d := some 33) (v := ?_) rfl (by decide +kernel) (by decide +kernel) (by decide +kernel) (fun _ _ _ h => h) ?_ ?_
    case refine_2 => (intro _; unfold exec2; go_simp; try with_reducible rfl)
    try simp only [Act.put, List.setIfInBounds_toArray, List.set_cons_zero, List.set_cons_succ]
    refine wpAny_T (i := 4) (op := Op.fieldAddr 170 (Operand.tmp 3) 1) (t := 0) (d := some 35) (v := ?_) rfl (by decide +kernel) (by decide +kernel) (by decide +kernel) (fun _ _ _ h => h) ?_ ?_
    case refine_2 => (intro _; unfold exec2; go_simp; try with_reducible rfl)
    try simp only [Act.put, List.setIfInBounds_toArray, List.set_cons_zero, List.set_cons_succ]
    refine wpAny_core2 (n := 2) [(1, some 32), (3, some 34), (5, some 36), (6, some 37)] (Ext w2)
      (VF (fun | 1 => some (.bool false) | 3 => some (bigV (lowP p) (highP p)) | 5 => some (bigV (lowP q) (highP q)) | 6 => some (bigV (lowP (p - q)) (highP (p - q))) | _ => none) (fun _ _ _ => True))
      Ext #[true, true, true, true, true, true, true, false, false] (by kernel_rfl) (VF.stab ?_) ?_ ?_ ((Ext.rf _).drew)
    · intro j v W W' _ h _
      exact h
    · intro pq hpm u W hRW hD K hK
      have b1 := B1.out.ext (x2.out.tr hRW)
      have b2 := B2.out.ext (x2.out.tr hRW)
      simp only [List.mem_cons, List.not_mem_nil, or_false] at hpm
      rcases hpm with rfl | rfl | rfl | rfl
      · exact op_ld (T := 4) rfl (.pointer (some ⟨w.heap.size, 0, none⟩)) (by kernel_rfl) (.bool false) (load_minus b1) (hK _ _ (VF.mk rfl) hRW (Ext.rf _))
      · exact op_ld (T := 168) rfl (.pointer (some ⟨w.heap.size, 1, none⟩)) (by kernel_rfl) (bigV (lowP p) (highP p)) (load_size b1) (hK _ _ (VF.mk rfl) hRW (Ext.rf _))
      · exact op_ld (T := 168) rfl (.pointer (some ⟨w.heap.size + 1, 1, none⟩)) (by kernel_rfl) (bigV (lowP q) (highP q)) (load_size b2) (hK _ _ (VF.mk rfl) hRW (Ext.rf _))
      · have h3 := (hD 3 (depIn (by kernel_rfl))).k rfl
        have h5 := (hD 5 (depIn (by kernel_rfl))).k rfl
        refine op_call rfl #[bigV (lowP p) (highP p), bigV (lowP q) (highP q)] (by go_simp) (by simp only [putAll, h3, h5]; kernel_rfl) _ (MIN.out W) ?_
        rintro e w3 ⟨rfl, x3⟩
        exact ⟨_, rfl, hK _ _ (VF.mk rfl) (hRW.tr x3) x3⟩
    · intro u w3 hRW hV
      have h1 := (hV (1, some 32) (by simp)).k rfl
      have h3 := (hV (3, some 34) (by simp)).k rfl
      have h5 := (hV (5, some 36) (by simp)).k rfl
      have h6 := (hV (6, some 37) (by simp)).k rfl
      simp only [putAll, h1, h3, h5, h6]
      clear hV h1 h3 h5 h6
      have b3 := B3.out.ext (x2.out.tr hRW)
      have b4 : Blk (tenW w3 (w.heap.size + 1 + 1) false (lowP (p - q)) (highP (p - q))) (w.heap.size + 1 + 1) 170 (sgnC false (lowP (p - q)) (highP (p - q))) := tenW_blk b3
      have Y4 := Lib.hid (tenW_ext (m := false) (lo := (lowP (p - q))) (hi := (highP (p - q))) (g := w.heap.size + 1 + 1) (Ext.tr (Ext.tr Y0.out x2.out) hRW) (by omega))
      unfold bigV
      try simp only [Act.put, List.setIfInBounds_toArray, List.set_cons_zero, List.set_cons_succ]
      refine wpAny_T (i := 7) (op := Op.build 170 #[(0, Operand.tmp 32), (1, Operand.tmp 37)]) (t := 170) (d := some 38) (v := ?_) rfl (by decide +kernel) (by decide +kernel) (by decide +kernel) (fun _ _ _ h => h) ?_ ?_
      case refine_2 => (intro _; unfold exec2; go_simp; try with_reducible rfl)
      try simp only [Act.put, List.setIfInBounds_toArray, List.set_cons_zero, List.set_cons_succ]
      refine wpAny_next 8 (by kernel_rfl) (op_st rfl (.pointer (some ⟨w.heap.size + 1 + 1, 0, none⟩)) (sgnV false (lowP (p - q)) (highP (p - q))) (by kernel_rfl) (by kernel_rfl) (store_sgn b3) ?_)
      refine wpAny_done (by kernel_rfl) ?_ _
      clear b3 hRW
      generalize tenW w3 (w.heap.size + 1 + 1) false (lowP (p - q)) (highP (p - q)) = w5 at *
      have c0 : w5.cell? ⟨w.heap.size + 1 + 1, 0, none⟩ = some (.bool false) := b4.cell 0
      have c1 : w5.cell? ⟨w.heap.size + 1 + 1, 1, none⟩ = some (.int .i64 (lowP (p - q))) := b4.cell 1
      have c2 : w5.cell? ⟨w.heap.size + 1 + 1, 2, none⟩ = some (.int .i64 (highP (p - q))) := b4.cell 2
      have c3 : w5.cell? ⟨w.heap.size + 1 + 1, 3, none⟩ = some (.int .i64 0) := b4.cell 3
      have c4 : w5.cell? ⟨w.heap.size + 1 + 1, 4, none⟩ = some (.int .i64 0) := b4.cell 4
      have c5 : w5.cell? ⟨w.heap.size + 1 + 1, 5, none⟩ = some (.int .i64 0) := b4.cell 5
      have c6 : w5.cell? ⟨w.heap.size + 1 + 1, 6, none⟩ = some (.int .i64 0) := b4.cell 6
      have c7 : w5.cell? ⟨w.heap.size + 1 + 1, 7, none⟩ = some (.int .i64 0) := b4.cell 7
      have c8 : w5.cell? ⟨w.heap.size + 1 + 1, 8, none⟩ = some (.int .i64 0) := b4.cell 8
      have c9 : w5.cell? ⟨w.heap.size + 1 + 1, 9, none⟩ = some (.int .i64 0) := b4.cell 9
      clear b4
      go_simp
      go_wp2_with (fail)
      exact bodyPost_ret (v := sgnV false (lowP (p - q)) (highP (p - q))) (by simp [results, Try.results142, go_sem, sgnV, *]) rfl ⟨by rw [diffV, if_neg (by have := hlt.out; omega)], Y4.out⟩
end Go.Proofs.Ytcpadkaljnnieaa
namespace Go.Proofs.Ytcpadkaljnnieaa
open Go.RowKit Go.ChangeShapes Go.WideShapes Go.ChangeAt Go.Deep

theorem under_big : Try.prog.underlying 168 = some (.array 9 3) := by kernel_rfl
set_option maxRecDepth 100000 in
theorem eq_big (x y : Int) (u : World) : (binOp .eql 168 (.agg #[.int .i64 x, .int .i64 y, .int .i64 0, .int .i64 0, .int .i64 0, .int .i64 0, .int .i64 0, .int .i64 0, .int .i64 0]) (.agg #[.int .i64 0, .int .i64 0, .int .i64 0, .int .i64 0, .int .i64 0, .int .i64 0, .int .i64 0, .int .i64 0, .int .i64 0])).run Try.prog u = .ok (.bool ((x == 0) && (y == 0))) u := by
  rw [run_eql_struct]
  unfold Op.equalIn
  simp only [Sem.run_bind, run_underlying under_big, Result.andThen_ok]
  have e9 : List.range' 0 9 1 = [0, 1, 2, 3, 4, 5, 6, 7, 8] := rfl
  simp only [Std.Legacy.Range.forIn_eq_forIn_range', Std.Legacy.Range.size, Nat.sub_zero, Nat.add_one_sub_one, Nat.div_one, e9, List.forIn_cons, List.forIn_nil]
  by_cases hx : x = 0
  · subst hx
    by_cases hy : y = 0
    · subst hy
      go_simp
    · have hy' : (y == 0) = false := by simpa using hy
      go_simp
  · have hx' : (x == 0) = false := by simpa using hx
    go_simp
def cmpI (p q : Int) : Int := if p = q then 0 else if p < q then -1 else 1
/-- the difference's sign and parts -/
theorem diff_cases (p q : Int) (hp : 0 ≤ p ∧ p ≤ 4611686014132420609) (hq : 0 ≤ q ∧ q ≤ 4611686014132420609) : ∃ m x y, diffV p q = sgnV m x y ∧ ((cmpI p q = 0 ∧ x = 0 ∧ y = 0) ∨ (cmpI p q = -1 ∧ m = true ∧ (x ≠ 0 ∨ y ≠ 0)) ∨ (cmpI p q = 1 ∧ m = false ∧ (x ≠ 0 ∨ y ≠ 0))) := by
  unfold diffV cmpI lowP highP
  by_cases h1 : p < q
  · rw [if_pos h1]
    exact ⟨_, _, _, rfl, .inr (.inl ⟨by rw [if_neg (by omega), if_pos h1], rfl, by omega⟩)⟩
  · rw [if_neg h1]
    by_cases h2 : p = q
    · exact ⟨_, _, _, rfl, .inl ⟨by rw [if_pos h2], by omega, by omega⟩⟩
    · exact ⟨_, _, _, rfl, .inr (.inr ⟨by rw [if_neg h2, if_neg h1], rfl, by omega⟩)⟩
set_option maxRecDepth 100000 in
set_option maxHeartbeats 4000000 in
theorem bcmp_any (p q : Int) (w : World) (hp : 0 ≤ p ∧ p ≤ 4611686014132420609) (hq : 0 ≤ q ∧ q ≤ 4611686014132420609) :
    Calls Try.prog 137 #[sgnV false (lowP p) (highP p), sgnV false (lowP q) (highP q)] w fun e w' => e = .returned (.int .i64 (cmpI p q)) ∧ Ext w w' := by
  have B1 : Blk ((w.alloc (.cells (sgnC false (lowP p) (highP p)) 170)).alloc (.cells (sgnC false (lowP q) (highP q)) 170)) w.heap.size 170 (sgnC false (lowP p) (highP p)) := .alloc (.new rfl) _
  have B2 : Blk ((w.alloc (.cells (sgnC false (lowP p) (highP p)) 170)).alloc (.cells (sgnC false (lowP q) (highP q)) 170)) (w.heap.size + 1) 170 (sgnC false (lowP q) (highP q)) := .new (by simp)
  have Y0 : Ext w ((w.alloc (.cells (sgnC false (lowP p) (highP p)) 170)).alloc (.cells (sgnC false (lowP q) (highP q)) 170)) := ((Ext.rf _).alloc _).alloc _
  have ADD := fun W => badd_any p q W hp hq
  obtain ⟨m, x, y, hd, hcase⟩ := diff_cases p q hp hq
  rw [hd] at ADD
  obtain ⟨wr, hwr⟩ : ∃ wr, wr = ((w.alloc (.cells (sgnC false (lowP p) (highP p)) 170)).alloc (.cells (sgnC false (lowP q) (highP q)) 170)) := ⟨_, rfl⟩
  have hwl : ((w.alloc (.cells #[.bool false, .int .i64 (lowP p), .int .i64 (highP p), .int .i64 0, .int .i64 0, .int .i64 0, .int .i64 0, .int .i64 0, .int .i64 0, .int .i64 0] 170)).alloc (.cells #[.bool false, .int .i64 (lowP q), .int .i64 (highP q), .int .i64 0, .int .i64 0, .int .i64 0, .int .i64 0, .int .i64 0, .int .i64 0, .int .i64 0] 170)) = wr := hwr.symm
  rw [← hwr] at B1 B2 Y0
  clear hwr hp hq hd
  generalize cmpI p q = res at *
  replace B1 := Lib.hid B1
  replace B2 := Lib.hid B2
  replace Y0 := Lib.hid Y0
  replace ADD := Lib.hid ADD
  replace hwl := Lib.hid hwl
  replace hcase := Lib.hid hcase
  unfold sgnV
  go_enter Try.func137, Try.ntmps137
  go_wp2_with (fail)
  rw [hwl.out]
  refine wp_region_any (by kernel_rfl) ?_
  change wpAny _ _ _ _ _ _ _ (World.drew _)
  refine wpAny_core2 (n := 1) [(0, some 6), (1, some 7), (2, some 8), (3, some 9), (4, some 5)] (Ext wr)
    (VF (fun | 0 => some (sgnV false (lowP p) (highP p)) | 1 => some (sgnV false (lowP q) (highP q)) | 2 => some (sgnV true (lowP q) (highP q)) | 3 => some (sgnV m x y) | _ => none)
      (fun j v W => j = 4 → ∃ h, v = .pointer (some ⟨h, 0, none⟩) ∧ wr.heap.size ≤ h ∧ Blk W h 170 (sgnC false 0 0)))
    Ext #[true, true, true, true, true, false] (by kernel_rfl) (VF.stab ?_) ?_ ?_ ((Ext.rf _).drew)
  · intro j v W W' _ g6 hx h
    obtain ⟨h, q1, q2, q3⟩ := g6 h
    exact ⟨h, q1, q2, q3.ext hx⟩
  · intro pq hpm u W hRW hD K hK
    have b1 := B1.out.ext hRW
    have b2 := B2.out.ext hRW
    have z2 := hRW.size
    simp only [List.mem_cons, List.not_mem_nil, or_false] at hpm
    rcases hpm with rfl | rfl | rfl | rfl | rfl
    · exact op_ld (T := 170) rfl (.pointer (some ⟨w.heap.size, 0, none⟩)) (by kernel_rfl) _ (load_sgn b1) (hK _ _ (VF.mk rfl) hRW (Ext.rf _))
    · exact op_ld (T := 170) rfl (.pointer (some ⟨w.heap.size + 1, 0, none⟩)) (by kernel_rfl) _ (load_sgn b2) (hK _ _ (VF.mk rfl) hRW (Ext.rf _))
    · have h1 := (hD 1 (depIn (by kernel_rfl))).k rfl
      refine op_call rfl #[sgnV false (lowP q) (highP q)] (by go_simp) (by simp only [putAll, h1]; kernel_rfl) _ (neg_any false _ _ W) ?_
      rintro e w3 ⟨rfl, x3⟩
      exact ⟨_, rfl, hK _ _ (VF.mk rfl) (hRW.tr x3) x3⟩
    · have h0 := (hD 0 (depIn (by kernel_rfl))).k rfl
      have h2 := (hD 2 (depIn (by kernel_rfl))).k rfl
      refine op_call rfl #[sgnV false (lowP p) (highP p), sgnV true (lowP q) (highP q)] (by go_simp) (by simp only [putAll, h0, h2]; kernel_rfl) _ (ADD.out W) ?_
      rintro e w3 ⟨rfl, x3⟩
      exact ⟨_, rfl, hK _ _ (VF.mk rfl) (hRW.tr x3) x3⟩
    · refine op_run rfl (.pointer (some ⟨W.heap.size, 0, none⟩)) (w' := W.alloc (.cells (sgnC false 0 0) 170)) ?_ (hK _ _ (VF.mg rfl fun _ => ⟨_, rfl, z2, .new rfl⟩) (hRW.alloc _) ((Ext.rf _).alloc _))
      unfold exec2 sgnC
      go_simp
  · intro u w3 hRW hV
    have h0 := (hV (0, some 6) (by simp)).k rfl
    have h1 := (hV (1, some 7) (by simp)).k rfl
    have h2 := (hV (2, some 8) (by simp)).k rfl
    have h3 := (hV (3, some 9) (by simp)).k rfl
    obtain ⟨gh, h4, hgh, b3⟩ := (hV (4, some 5) (by simp)).g rfl rfl
    simp only [putAll, h0, h1, h2, h3, h4]
    clear hV h0 h1 h2 h3 h4
    have b4 : Blk (tenW w3 gh m x y) gh 170 (sgnC m x y) := tenW_blk b3
    have Y4 := Lib.hid (tenW_ext (m := m) (lo := x) (hi := y) (g := gh) (Ext.tr Y0.out hRW) (Nat.le_trans Y0.out.size hgh))
    try simp only [Act.put, List.setIfInBounds_toArray, List.set_cons_zero, List.set_cons_succ]
    refine wpAny_next 5 (by kernel_rfl) (op_st rfl (.pointer (some ⟨gh, 0, none⟩)) (sgnV m x y) (by kernel_rfl) (by kernel_rfl) (store_sgn b3) ?_)
    refine wpAny_done (by kernel_rfl) ?_ _
    clear b3 hRW
    generalize tenW w3 gh m x y = w5 at *
    have c0 : w5.cell? ⟨gh, 0, none⟩ = some (.bool m) := b4.cell 0
    have c1 : w5.cell? ⟨gh, 1, none⟩ = some (.int .i64 x) := b4.cell 1
    have c2 : w5.cell? ⟨gh, 2, none⟩ = some (.int .i64 y) := b4.cell 2
    have c3 : w5.cell? ⟨gh, 3, none⟩ = some (.int .i64 0) := b4.cell 3
    have c4 : w5.cell? ⟨gh, 4, none⟩ = some (.int .i64 0) := b4.cell 4
    have c5 : w5.cell? ⟨gh, 5, none⟩ = some (.int .i64 0) := b4.cell 5
    have c6 : w5.cell? ⟨gh, 6, none⟩ = some (.int .i64 0) := b4.cell 6
    have c7 : w5.cell? ⟨gh, 7, none⟩ = some (.int .i64 0) := b4.cell 7
    have c8 : w5.cell? ⟨gh, 8, none⟩ = some (.int .i64 0) := b4.cell 8
    have c9 : w5.cell? ⟨gh, 9, none⟩ = some (.int .i64 0) := b4.cell 9
    clear b4
    obtain ⟨bz, hbz⟩ : ∃ bz, Hid (((x == 0) && (y == 0)) = bz) := ⟨_, rfl⟩
    have hq : ∀ u : World, (binOp .eql 168 (.agg #[.int .i64 x, .int .i64 y, .int .i64 0, .int .i64 0, .int .i64 0, .int .i64 0, .int .i64 0, .int .i64 0, .int .i64 0]) (.agg #[.int .i64 0, .int .i64 0, .int .i64 0, .int .i64 0, .int .i64 0, .int .i64 0, .int .i64 0, .int .i64 0, .int .i64 0])).run Try.prog u = .ok (.bool bz) u := fun u => by rw [eq_big, hbz.out]
    rcases hcase.out with ⟨e1, e2, e3⟩ | ⟨e1, e2, e3⟩ | ⟨e1, e2, e3⟩
    · obtain rfl : bz = true := by rw [← hbz.out, e2, e3]; rfl
      have e1 := Lib.hid e1
      clear e2 e3
      go_simp
      go_wp2_with (fail)
      go_ret
      exact ⟨ret_i e1.out.symm, Y4.out⟩
    · obtain rfl : bz = false := by rw [← hbz.out, Bool.eq_false_iff]; simp; omega
      have e1 := Lib.hid e1
      subst e2
      clear e3
      go_simp
      go_wp2_with (fail)
      go_ret
      exact ⟨rfl, Y4.out⟩
    · obtain rfl : bz = false := by rw [← hbz.out, Bool.eq_false_iff]; simp; omega
      have e1 := Lib.hid e1
      subst e2
      clear e3
      go_simp
      go_wp2_with (fail)
      go_ret
      exact ⟨rfl, Y4.out⟩
end Go.Proofs.Ytcpadkaljnnieaa
namespace Go.Proofs.Ytcpadkaljnnieaa
open Go.RowKit Go.ChangeShapes Go.WideShapes Go.ChangeAt Go.Deep

set_option maxRecDepth 100000 in
set_option maxHeartbeats 4000000 in
theorem better_any (A B : Option Addr) (c d : Nat) (vs ws : List Int) (a b : Nat) (w : World) (hv : RdI w A vs) (hw : RdI w B ws) (sv : Small31 vs) (sw : Small31 ws) (ha : a < vs.length) (hb : b < vs.length) (ha' : a < ws.length) (hb' : b < ws.length) (lv : vs.length ≤ 1000000) (lw : ws.length ≤ 1000000) :
    Calls Try.prog 134 #[.slice A vs.length c, .slice B ws.length d, .int .i64 a, .int .i64 b] w fun e w' => e = .returned (.bool (betterB vs ws a b)) ∧ Ext w w' := by
  obtain ⟨g1, o1, va, rfl, z1, c1, e1, _⟩ := hv.at ha
  obtain ⟨g1', o1', vb, h1', z1', c2, e2, _⟩ := hv.at hb
  obtain ⟨rfl, rfl⟩ : g1 = g1' ∧ o1 = o1' := by injection h1' with h; injection h with h3 h4; exact ⟨h3, h4⟩
  obtain ⟨g2, o2, wa, rfl, z2, c3, e3, _⟩ := hw.at ha'
  obtain ⟨g2', o2', wb, h2', z2', c4, e4, _⟩ := hw.at hb'
  obtain ⟨rfl, rfl⟩ : g2 = g2' ∧ o2 = o2' := by injection h2' with h; injection h with h3 h4; exact ⟨h3, h4⟩
  have bva := sv.get e1.out
  have bvb := sv.get e2.out
  have bwa := sw.get e3.out
  have bwb := sw.get e4.out
  obtain ⟨res, hres⟩ : ∃ res, Hid (res = betterB vs ws a b) := ⟨_, rfl⟩
  rw [← hres.out]
  have HA : Hid (res = if wa = 0 ∨ wb = 0 then decide (wa = 0) && (decide (wb ≠ 0) || decide (a < b)) else decide (vb * wa < va * wb) || (decide (va * wb = vb * wa) && decide (a < b))) := by
    have h : res = if wa = 0 ∨ wb = 0 then decide (wa = 0) && (decide (wb ≠ 0) || decide (a < b)) else decide (vb * wa < va * wb) || (decide (va * wb = vb * wa) && decide (a < b)) := by
      rw [hres.out]
      unfold betterB
      rw [getD_some e1.out, getD_some e2.out, getD_some e3.out, getD_some e4.out]
    exact h
  clear h1' h2' hv hw sv sw e1 e2 e3 e4 hres
  by_cases hwa : wa = 0
  · subst hwa
    by_cases hwb : wb = 0
    · subst hwb
      have HR : Hid (res = decide (a < b)) := by
        have h := HA.out
        rw [if_pos (by simp)] at h
        exact (by simpa using h : res = decide (a < b))
      clear HA
      go_enter Try.func134, Try.ntmps134
      go_wp2
      all_goals go_ret
      all_goals exact ⟨ret_b HR.out.symm, Ext.rf _⟩
    · have hwb' : (wb != 0) = true := by simpa using hwb
      have HR : Hid (res = true) := by
        have h := HA.out
        rw [if_pos (by simp)] at h
        exact (by simpa [hwb] using h : res = true)
      clear HA hwb
      go_enter Try.func134, Try.ntmps134
      go_wp2
      all_goals go_ret
      all_goals exact ⟨ret_b HR.out.symm, Ext.rf _⟩
  · have hwa' : (wa == 0) = false := by simpa using hwa
    by_cases hwb : wb = 0
    · subst hwb
      have HR : Hid (res = false) := by
        have h := HA.out
        rw [if_pos (by simp)] at h
        exact (by simpa [hwa] using h : res = false)
      clear HA hwa
      go_enter Try.func134, Try.ntmps134
      go_wp2
      all_goals go_ret
      all_goals exact ⟨ret_b HR.out.symm, Ext.rf _⟩
    · have hwb' : (wb == 0) = false := by simpa using hwb
      have HR0 : Hid (res = (decide (vb * wa < va * wb) || (decide (va * wb = vb * wa) && decide (a < b)))) := by
        have h := HA.out
        rw [if_neg (by simp [hwa, hwb])] at h
        exact h
      obtain ⟨p, hp⟩ : ∃ p, Hid (p = va * wb) := ⟨_, rfl⟩
      obtain ⟨q, hq⟩ : ∃ q, Hid (q = vb * wa) := ⟨_, rfl⟩
      have bp : 0 ≤ p ∧ p ≤ 4611686014132420609 := by rw [hp.out]; exact mul_bd bva.1 bva.2 bwb.1 bwb.2
      have bq : 0 ≤ q ∧ q ≤ 4611686014132420609 := by rw [hq.out]; exact mul_bd bvb.1 bvb.2 bwa.1 bwa.2
      rw [← hp.out, ← hq.out] at HR0
      have hR : res = (decide (0 < cmpI p q) || ((cmpI p q == 0) && decide (a < b))) := by
        have h := HR0.out
        unfold cmpI
        by_cases h1 : p = q
        · have h2 : ¬ q < p := by omega
          simp [h1, h]
        · by_cases h2 : p < q
          · have h3 : ¬ q < p := by omega
            simp [h1, h2, h3, h]
          · have h3 : q < p := by omega
            simp [h1, h2, h3, h]
      have HR := Lib.hid hR
      clear hR
      have CM := Lib.hid (fun W => bcmp_any p q W bp bq)
      have bc : -1 ≤ cmpI p q ∧ cmpI p q ≤ 1 := by unfold cmpI; split <;> (try split) <;> omega
      have M1 := Lib.hid (fun W => mul_any va wb p W bva bwb hp.out)
      have M2 := Lib.hid (fun W => mul_any vb wa q W bvb bwa hq.out)
      generalize cmpI p q = cc at *
      clear HA hwa hwb HR0 bp bq
      go_enter Try.func134, Try.ntmps134
      go_wp2_with (fail)
      go_region_held3 (fun w' => w'.cell? ⟨g1, o1 + a, none⟩ = some (.int .i64 va) ∧ w'.cell? ⟨g1, o1 + b, none⟩ = some (.int .i64 vb) ∧ w'.cell? ⟨g2, o2 + a, none⟩ = some (.int .i64 wa) ∧ w'.cell? ⟨g2, o2 + b, none⟩ = some (.int .i64 wb)) (go_keep)
        (first
        | (go_at_call_of 139 (Value.int .i64 va); refine (num_any va _ bva.1 bva.2).mono ?_; rintro e w2 ⟨rfl, x2⟩; have y := Ext.tr (a := w) (by (repeat (first | assumption | exact Ext.rf _ | apply Ext.drew | apply Ext.drewN | apply Ext.alloc))) x2; have s1 := keepEL y z1 c1; have s2 := keepEL y z1 c2; have s3 := keepEL y z2 c3; have s4 := keepEL y z2 c4)
        | (go_at_call_of 139 (Value.int .i64 wb); refine (num_any wb _ bwb.1 bwb.2).mono ?_; rintro e w3 ⟨rfl, x3⟩; have y := Ext.tr (a := w) (by (repeat (first | assumption | exact Ext.rf _ | apply Ext.drew | apply Ext.drewN | apply Ext.alloc))) x3; have s1 := keepEL y z1 c1; have s2 := keepEL y z1 c2; have s3 := keepEL y z2 c3; have s4 := keepEL y z2 c4)
        | (go_at_call_of 139 (Value.int .i64 vb); refine (num_any vb _ bvb.1 bvb.2).mono ?_; rintro e w4 ⟨rfl, x4⟩; have y := Ext.tr (a := w) (by (repeat (first | assumption | exact Ext.rf _ | apply Ext.drew | apply Ext.drewN | apply Ext.alloc))) x4; have s1 := keepEL y z1 c1; have s2 := keepEL y z1 c2; have s3 := keepEL y z2 c3; have s4 := keepEL y z2 c4)
        | (go_at_call_of 139 (Value.int .i64 wa); refine (num_any wa _ bwa.1 bwa.2).mono ?_; rintro e w5 ⟨rfl, x5⟩; have y := Ext.tr (a := w) (by (repeat (first | assumption | exact Ext.rf _ | apply Ext.drew | apply Ext.drewN | apply Ext.alloc))) x5; have s1 := keepEL y z1 c1; have s2 := keepEL y z1 c2; have s3 := keepEL y z2 c3; have s4 := keepEL y z2 c4)
        | (go_at_call_of 138 (sgnV false va 0); refine (M1.out _).mono ?_; rintro e w6 ⟨rfl, x6⟩; have y := Ext.tr (a := w) (by (repeat (first | assumption | exact Ext.rf _ | apply Ext.drew | apply Ext.drewN | apply Ext.alloc))) x6; have s1 := keepEL y z1 c1; have s2 := keepEL y z1 c2; have s3 := keepEL y z2 c3; have s4 := keepEL y z2 c4)
        | (go_at_call_of 138 (sgnV false vb 0); refine (M2.out _).mono ?_; rintro e w7 ⟨rfl, x7⟩; have y := Ext.tr (a := w) (by (repeat (first | assumption | exact Ext.rf _ | apply Ext.drew | apply Ext.drewN | apply Ext.alloc))) x7; have s1 := keepEL y z1 c1; have s2 := keepEL y z1 c2; have s3 := keepEL y z2 c3; have s4 := keepEL y z2 c4)
        | (go_at_call 137; refine (CM.out _).mono ?_; rintro e w8 ⟨rfl, x8⟩; have y := Ext.tr (a := w) (by (repeat (first | assumption | exact Ext.rf _ | apply Ext.drew | apply Ext.drewN | apply Ext.alloc))) x8; have s1 := keepEL y z1 c1; have s2 := keepEL y z1 c2; have s3 := keepEL y z2 c3; have s4 := keepEL y z2 c4))
      obtain rfl | rfl | rfl : cc = -1 ∨ cc = 0 ∨ cc = 1 := by omega
      · have HF : Hid (res = false) := HR.out
        go_wp2
        all_goals go_ret
        all_goals exact ⟨ret_b HF.out.symm, by (repeat (first | assumption | exact Ext.rf _ | apply Ext.drew | apply Ext.drewN | apply Ext.alloc))⟩
      · have HF : Hid (res = decide (a < b)) := HR.out
        go_wp2
        all_goals go_ret
        all_goals exact ⟨ret_b HF.out.symm, by (repeat (first | assumption | exact Ext.rf _ | apply Ext.drew | apply Ext.drewN | apply Ext.alloc))⟩
      · have HF : Hid (res = true) := HR.out
        go_wp2
        all_goals go_ret
        all_goals exact ⟨ret_b HF.out.symm, by (repeat (first | assumption | exact Ext.rf _ | apply Ext.drew | apply Ext.drewN | apply Ext.alloc))⟩
end Go.Proofs.Ytcpadkaljnnieaa
namespace Go.Proofs.Ytcpadkaljnnieaa
open Go.RowKit Go.ChangeShapes Go.WideShapes Go.ChangeAt Go.Deep

def RRatioPost (l : List Nat) (w : World) (e : Ending) (w' : World) : Prop := ∃ A c, e = .returned (.tuple #[.slice A l.length c, .int .i64 0]) ∧ OwI w' w.heap.size A c (nl l) ∧ Ext w w'
set_option maxRecDepth 100000 in
set_option maxHeartbeats 4000000 in
theorem rratio_any (A B : Option Addr) (a b : Nat) (vs ws : List Int) (w : World) (hA : RdI w A vs) (hB : RdI w B ws) (hl : vs.length = ws.length) (h64 : vs.length ≤ 64) (sv : Small31 vs) (sw : Small31 ws) :
    Calls Try.prog 131 #[.slice A vs.length a, .slice B ws.length b] w (RRatioPost (ratioP vs ws) w) := by
  have hne : ((vs.length : Int) != (ws.length : Int)) = false := by simp [hl]
  have h64' : (vs.length : Int) ≤ 64 := by omega
  have BT := fun (i j : Nat) (hi : i < vs.length) (hj : j < vs.length) (W : World) (x : Ext w W) => better_any A B a b vs ws i j W (hA.ext x) (hB.ext x) sv sw hi hj (by omega) (by omega) (by omega) (by omega)
  have PR := place_ratio (v := vs) (w := ws) (fun x hx => (sw x hx).1)
  have RL := ratioP_len vs ws
  have AL := fun i m => aheads_le vs ws i m
  have PA : Hid (∀ i, i < vs.length → aheads vs ws i vs.length < vs.length) := fun i hi => by
    have hm := (ratioP_mem (v := vs) (w := ws) (a := i)).2 hi
    obtain ⟨k, hk, he⟩ := List.mem_iff_getElem.1 hm
    have := aheads_at (v := vs) (w := ws) (fun x hx => (sw x hx).1) (k := k) (a := i) (by rw [List.getElem?_eq_getElem hk, he])
    rw [ratioP_len] at hk
    omega
  replace hl := Lib.hid hl
  replace BT := Lib.hid BT
  replace PR := Lib.hid PR
  replace RL := Lib.hid RL
  replace AL := Lib.hid AL
  go_enter Try.func131, Try.ntmps131
  go_wp2_with (fail)
  go_loopw [6] (fun i wr => ∃ k : Nat, i = .int .i64 k ∧ k ≤ vs.length ∧ Ext w wr) (fun i _ => vs.length - (intOf i).toNat)
  case atStart => exact ⟨0, rfl, by omega, Ext.rf _⟩
  case round =>
    obtain ⟨w1, rfl⟩ : ∃ w1 : World, w1 = wr := ⟨_, rfl⟩
    obtain ⟨k, rfl, hk, Y⟩ := hrel
    by_cases hlt : k < vs.length
    · obtain ⟨g1, o1, x, rfl, _, c1, e1, _⟩ := (hA.ext Y).at hlt
      obtain ⟨g2, o2, y, rfl, _, c2, e2, _⟩ := (hB.ext Y).at (k := k) (by rw [← hl.out]; exact hlt)
      have b1 := sv.get e1.out
      have b2 := sw.get e2.out
      have hkw : k < ws.length := by rw [← hl.out]; exact hlt
      clear e1 e2
      go_wp2
      go_roundw
      case rel => exact ⟨k + 1, by go_num, by omega, Y⟩
      case measure => simp [intOf]; omega
    · obtain rfl : k = vs.length := by omega
      clear hlt
      have Yo := Lib.hid Y
      go_wp2_with (at_make; refine wpl_make_i _ rfl _ _ rfl w.heap.size _ _ vs.length rfl rfl rfl rfl (by omega) Y.size ?_; rintro w3 o3 g3)
      have X3 := Lib.hid (Y.grownNone g3)
      have O3 : Hid (OwI w3 w.heap.size (some ⟨w1.heap.size, 0, none⟩) vs.length (placeL (fun i => aheads vs ws i vs.length) vs.length 0)) := o3
      have zr := Y.size
      clear o3 g3
      go_loopw [8] (fun i wq => ∃ m : Nat, i = .int .i64 m ∧ m ≤ vs.length ∧ Hid (OwI wq w.heap.size (some ⟨w1.heap.size, 0, none⟩) vs.length (placeL (fun i => aheads vs ws i vs.length) vs.length m)) ∧ Ext w wq) (fun i _ => vs.length - (intOf i).toNat)
      case atStart => exact ⟨0, rfl, by omega, O3, X3.out⟩
      case round =>
        obtain ⟨wo, rfl⟩ : ∃ wo : World, wo = wr := ⟨_, rfl⟩
        obtain ⟨m, rfl, hm, HO, Z⟩ := hrel
        by_cases hlm : m < vs.length
        · go_wp2_with (fail)
          go_loopw [9, 10] (fun n i wq => ∃ (j c : Nat), i = .int .i64 j ∧ n = .int .i64 c ∧ j ≤ vs.length ∧ c ≤ j ∧ Hid (c = aheads vs ws m j) ∧ Ext wo wq) (fun _ i _ => vs.length - (intOf i).toNat)
          case atStart => exact ⟨0, 0, rfl, rfl, by omega, by omega, by exact rfl, Ext.rf _⟩
          case round =>
            obtain ⟨j, c, rfl, rfl, hj, hcj, HC, V⟩ := hrel
            have HN : Hid (aheads vs ws m (j + 1) = c + if (decide (j ≠ m) && betterB vs ws j m) = true then 1 else 0) := by
              have h := aheads_succ vs ws m j
              rw [← HC.out] at h
              exact h
            by_cases hlj : j < vs.length
            · by_cases hjm : j = m
              · subst hjm
                have HN2 : Hid (c = aheads vs ws j (j + 1)) := by
                  have h := HN.out
                  simp at h
                  exact h.symm
                go_wp2_with (fail)
                go_roundw
                case rel => exact ⟨j + 1, c, by go_num, rfl, by omega, by omega, HN2, V⟩
                case measure => simp [intOf]; omega
              · have hb : ((j : Int) != (m : Int)) = true := by rw [bne_iff_ne]; omega
                have K := BT.out j m hlj hlm _ (Z.tr V)
                cases hq : betterB vs ws j m with
                | true =>
                  rw [hq] at K
                  have HN2 : Hid (c + 1 = aheads vs ws m (j + 1)) := by
                    have h := HN.out
                    rw [hq] at h
                    simp [hjm] at h
                    exact h.symm
                  clear hq hjm
                  go_wp2_with (fail)
                  refine K.mono ?_
                  rintro e w5 ⟨rfl, x5⟩
                  go_wp2
                  go_roundw
                  case rel => exact ⟨j + 1, c + 1, by go_num, by go_num, by omega, by omega, HN2, V.tr x5⟩
                  case measure => simp [intOf]; omega
                | false =>
                  rw [hq] at K
                  have HN2 : Hid (c = aheads vs ws m (j + 1)) := by
                    have h := HN.out
                    rw [hq] at h
                    simp at h
                    exact h.symm
                  clear hq hjm
                  go_wp2_with (fail)
                  refine K.mono ?_
                  rintro e w5 ⟨rfl, x5⟩
                  go_wp2
                  go_roundw
                  case rel => exact ⟨j + 1, c, by go_num, rfl, by omega, by omega, HN2, V.tr x5⟩
                  case measure => simp [intOf]; omega
            · obtain rfl : j = vs.length := by omega
              have hc : c < vs.length := by rw [HC.out]; exact PA.out m hlm
              have HO2 := HO.out.ext V
              obtain ⟨x, hcx, hfx, hbx, _, hset⟩ := HO2.cell (k := c) (by rw [placeL_len]; exact hc)
              have HN2 : Hid (OwI (wr.setCell ⟨w1.heap.size, c, none⟩ (.int .i64 m)) w.heap.size (some ⟨w1.heap.size, 0, none⟩) vs.length (placeL (fun i => aheads vs ws i vs.length) vs.length (m + 1))) := by
                have h := hset.out m
                rw [HC.out] at h ⊢
                exact h
              have ZN := Lib.hid ((Z.tr V).setNew (p := ⟨w1.heap.size, c, none⟩) zr (.int .i64 m))
              clear hset HO2 HN
              go_wp2
              go_roundw
              case rel => exact ⟨m + 1, by go_num, by omega, HN2, ZN.out⟩
              case measure => simp [intOf]; omega
        · obtain rfl : m = vs.length := by omega
          have HF : Hid (OwI wo w.heap.size (some ⟨w1.heap.size, 0, none⟩) vs.length (nl (ratioP vs ws))) := by
            have h := HO.out
            rw [PR.out] at h
            exact h
          clear hlm HO
          go_wp2
          go_ret2
          exact ⟨_, _, by rw [RL.out]; rfl, HF.out, Z⟩
end Go.Proofs.Ytcpadkaljnnieaa
namespace Go.Proofs.Ytcpadkaljnnieaa
open Go.RowKit Go.ChangeShapes Go.WideShapes Go.ChangeAt Go.Deep

def orderP (i : InstP) : List Nat := ratioP i.value i.weight
def wsP (i : InstP) : List Int := inOrder (orderP i) i.weight
def vsP (i : InstP) : List Int := inOrder (orderP i) i.value
theorem orderP_len {i : InstP} (ok : KnapOk i) : ((orderP i).length : Int) = i.n := by unfold orderP; rw [ratioP_len]; exact ok.v
theorem small_inOrder {l : List Nat} {v : List Int} (h : Small31 v) : Small31 (inOrder l v) := by
  intro x hx
  obtain ⟨q, hq, rfl⟩ := List.mem_map.1 hx
  cases hv : v[q]? with
  | none => simp [List.getD, hv]
  | some y => rw [getD_some hv]; exact h.get hv
theorem kok {i : InstP} (ok : KnapOk i) : KOk i.cap (orderP i) (wsP i) (vsP i) (sumsL (vsP i) 0) :=
  ⟨ok.cap, by have := orderP_len ok; have := ok.n2; omega, inOrder_len _ _, inOrder_len _ _, by rw [sumsL_len]; unfold vsP; rw [inOrder_len], small_inOrder ok.sw, small_inOrder ok.sv⟩
def RStPost (l : List Nat) (st : Option (Int × Int)) (w : World) (e : Ending) (w' : World) : Prop := Ext w w' ∧ match st with
  | none => e = .returned (.tuple #[.slice none 0 0, .int .i64 0, .int .i64 0, .bool false])
  | some (r, o) => ∃ A c, e = .returned (.tuple #[.slice A l.length c, .int .i64 r, .int .i64 o, .bool true]) ∧ RdI w' A (nl l)
set_option maxRecDepth 100000 in
set_option maxHeartbeats 4000000 in
theorem rstate_any (i : InstP) (us : List Value) (P : Option Addr) (c : Nat) (p : List Int) (w : World) (H : RInst w us i) (ok : KnapOk i) (hP : RdI w P p) (lp : p.length ≤ 1000000000) :
    Calls Try.prog 118 #[.agg (List.toArray us), .slice P p.length c] w (RStPost (orderP i) (stP i.cap 0 (wsP i) (vsP i) p) w) := by
  have K := kok ok
  have lN := orderP_len ok
  have RA := fun (A B : Option Addr) (a b : Nat) (W : World) (hA : RdI W A i.value) (hB : RdI W B i.weight) => rratio_any A B a b i.value i.weight W hA hB (by have := ok.w; have := ok.v; omega) (by have := ok.v; have := ok.n2; omega) ok.sv ok.sw
  have LM : ∀ k q, (orderP i)[k]? = some q → q < i.weight.length ∧ q < i.value.length := fun k q h => by
    have h1 := ratioP_lt h
    have := ok.w
    have := ok.v
    omega
  have EW : ∀ k q x, (orderP i)[k]? = some q → i.weight[q]? = some x → (wsP i)[k]? = some x := fun k q x h1 h2 => inOrder_get h1 h2
  have EV : ∀ k q x, (orderP i)[k]? = some q → i.value[q]? = some x → (vsP i)[k]? = some x := fun k q x h1 h2 => inOrder_get h1 h2
  change ∀ (A B : Option Addr) (a b : Nat) (W : World), RdI W A i.value → RdI W B i.weight → Calls Try.prog _ _ W (RRatioPost (orderP i) W) at RA
  have K1 := K.cap
  have K2 := K.l64
  have K3 := K.lw
  have K4 := K.lv
  have K5 := K.sw
  have K6 := K.sv
  generalize orderP i = l at *
  generalize wsP i = ws at *
  generalize vsP i = vs at *
  clear K ok
  obtain ⟨kind, nn, cap, xw, xv, co⟩ := i
  obtain ⟨A, a, B, b, D, d, rfl, ⟨rA, iA, lA, mA⟩, ⟨rB, iB, lB, mB⟩, -⟩ := H
  simp only at *
  obtain ⟨n, rfl⟩ : ∃ n : Nat, nn = (n : Int) := ⟨nn.toNat, by omega⟩
  have hn : l.length = n := by omega
  clear lN
  obtain ⟨kc1, kc2⟩ := K1
  replace RA := Lib.hid RA
  replace LM := Lib.hid LM
  replace EW := Lib.hid EW
  replace EV := Lib.hid EV
  replace K3 := Lib.hid K3
  replace K4 := Lib.hid K4
  replace K5 := Lib.hid K5
  replace K6 := Lib.hid K6
  replace rA := Lib.hid rA
  replace rB := Lib.hid rB
  replace iA := Lib.hid iA
  replace iB := Lib.hid iB
  replace mA := Lib.hid mA
  replace mB := Lib.hid mB
  have hn2 : n ≤ 64 := by omega
  replace hn := Lib.hid hn
  have B1 : Hid (Blk (w.alloc (.cells #[.int .i64 kind, .int .i64 n, .int .i64 cap, .slice A xw.length a, .slice B xv.length b, .slice D co.length d] 61)) w.heap.size 61 #[.int .i64 kind, .int .i64 n, .int .i64 cap, .slice A xw.length a, .slice B xv.length b, .slice D co.length d]) := .new rfl
  obtain ⟨st, hst⟩ : ∃ st, Hid (stP cap 0 ws vs p = st) := ⟨_, rfl⟩
  rw [hst.out]
  go_enter Try.func118, Try.ntmps118
  go_wp2_with (fail)
  refine (RA.out B A b a _ (rB.out.ext ((Ext.rf _).alloc _)) (rA.out.ext ((Ext.rf _).alloc _))).mono ?_
  rintro e w2 ⟨LA, lc, rfl, oL, x2⟩
  have X2 := Lib.hid (Ext.tr (a := w) (by (repeat (first | assumption | exact Ext.rf _ | apply Ext.drew | apply Ext.drewN | apply Ext.alloc))) x2)
  have B2 := Lib.hid (B1.out.ext x2)
  have rL := Lib.hid oL.read
  have d1 : w2.cell? ⟨w.heap.size, 1, none⟩ = some (.int .i64 n) := B2.out.cell 1
  have d2 : w2.cell? ⟨w.heap.size, 2, none⟩ = some (.int .i64 cap) := B2.out.cell 2
  have d3 : w2.cell? ⟨w.heap.size, 3, none⟩ = some (.slice A xw.length a) := B2.out.cell 3
  have d4 : w2.cell? ⟨w.heap.size, 4, none⟩ = some (.slice B xv.length b) := B2.out.cell 4
  have zb := B2.out.lt
  clear x2 oL
  by_cases hlen : n < p.length
  · have HN : Hid (st = none) := by
      have h := hst.out
      rw [stP_long (by rw [K3.out, hn.out]; exact hlen)] at h
      exact h.symm
    go_wp2_with (fail)
    refine bodyPost_ret (v := .tuple #[.slice none 0 0, .int .i64 0, .int .i64 0, .bool false]) (by simp [results, Try.results118, go_sem]) rfl ?_
    rw [HN.out]
    exact ⟨X2.out, rfl⟩
  · have hlb : decide (n < p.length) = false := by simpa using hlen
    go_wp2_with (fail)
    go_loopw [10, 11, 12] (fun r o i wr => ∃ (k : Nat) (room out : Int), i = .int .i64 k ∧ r = .int .i64 room ∧ o = .int .i64 out ∧ k ≤ p.length ∧ 0 ≤ room ∧ room ≤ 2147483647 ∧ 0 ≤ out ∧ out ≤ 2147483647 * (k : Int) ∧ Hid (st = stP room out (ws.drop k) (vs.drop k) (p.drop k)) ∧ Ext w2 wr) (fun _ _ i _ => p.length - (intOf i).toNat)
    case atStart => exact ⟨0, cap, 0, rfl, rfl, rfl, by omega, kc1, kc2, by omega, by omega, hst.out.symm, Ext.rf _⟩
    case round =>
      obtain ⟨wo, rfl⟩ : ∃ wo : World, wo = wr := ⟨_, rfl⟩
      obtain ⟨k, room, out, rfl, rfl, rfl, hk, b1, b2, b3, b4, HS, Y⟩ := hrel
      by_cases hlt : k < p.length
      · obtain ⟨pb, po, x, rfl, _, cx, ex, dx⟩ := (hP.ext (X2.out.tr Y)).at hlt
        have hkl : k < l.length := by rw [hn.out]; omega
        obtain ⟨q, hq0⟩ : ∃ q, Hid (l[k]? = some q) := ⟨l[k], List.getElem?_eq_getElem hkl⟩
        obtain ⟨qb, qo, qi, rfl, zq, cq, eq, _⟩ := (rL.out.ext Y).at (k := k) (by rw [nl_len]; exact hkl)
        obtain rfl : qi = (q : Int) := by
          have h1 := nl_get hq0.out
          rw [eq.out] at h1
          exact Option.some.inj h1
        obtain ⟨hqw, hqv⟩ := LM.out k q hq0.out
        obtain ⟨wb, wo', u, rfl, zu, cu, eu, _⟩ := (rA.out.ext (X2.out.tr Y)).at hqw
        obtain ⟨vb, vo', v, rfl, zv, cv, ev, _⟩ := (rB.out.ext (X2.out.tr Y)).at hqv
        have du : Hid (ws.drop k = u :: ws.drop (k + 1)) := by
          obtain ⟨h1, h2⟩ := List.getElem?_eq_some_iff.1 (EW.out k q u hq0.out eu.out)
          exact (by rw [List.drop_eq_getElem_cons h1, h2] : ws.drop k = u :: ws.drop (k + 1))
        have dv : Hid (vs.drop k = v :: vs.drop (k + 1)) := by
          obtain ⟨h1, h2⟩ := List.getElem?_eq_some_iff.1 (EV.out k q v hq0.out ev.out)
          exact (by rw [List.drop_eq_getElem_cons h1, h2] : vs.drop k = v :: vs.drop (k + 1))
        have bu := K5.out.get (EW.out k q u hq0.out eu.out)
        have bv := K6.out.get (EV.out k q v hq0.out ev.out)
        have e3 := keepEL Y zb d3
        have e4 := keepEL Y zb d4
        have HT : Hid (st = if x = 1 then (if room - u < 0 then none else stP (room - u) out (ws.drop (k + 1)) (vs.drop (k + 1)) (p.drop (k + 1))) else if x = 0 then (if room < 0 then none else stP room (out + v) (ws.drop (k + 1)) (vs.drop (k + 1)) (p.drop (k + 1))) else none) := by
          have h := HS.out
          rw [dx.out, du.out, dv.out] at h
          exact h
        have wr1 : Hid (IntKind.i64.wrap (room - u) = room - u) := IntWalk.i64_in _ (by omega)
        have wr2 : Hid (IntKind.i64.wrap (out + v) = out + v) := IntWalk.i64_in _ (by omega)
        clear HS ex eu ev dx du dv eq
        have qi1 : (q : Int) < (xw.length : Int) := by omega
        have qi2 : (q : Int) < (xv.length : Int) := by omega
        have qi3 : (k : Int) < (l.length : Int) := by omega
        by_cases x1 : x = 1
        · subst x1
          have wr1' := wr1.out
          by_cases hneg : room - u < 0
          · have HN : Hid (st = none) := by
              have h := HT.out
              rw [if_pos rfl, if_pos hneg] at h
              exact h
            go_wp2_with (go_quiet (fail))
            all_goals (refine bodyPost_ret (v := .tuple #[.slice none 0 0, .int .i64 0, .int .i64 0, .bool false]) (by simp [results, Try.results118, go_sem]) rfl ?_)
            all_goals rw [HN.out]
            all_goals exact ⟨Ext.tr X2.out (by repeat (first | exact Y | apply Ext.drewN)), rfl⟩
          · have HN : Hid (st = stP (room - u) out (ws.drop (k + 1)) (vs.drop (k + 1)) (p.drop (k + 1))) := by
              have h := HT.out
              rw [if_pos rfl, if_neg hneg] at h
              exact h
            go_wp2_with (go_quiet (fail))
            go_roundw
            case rel => exact ⟨k + 1, room - u, out, by go_num, rfl, rfl, by omega, by omega, by omega, by omega, by omega, HN, by repeat (first | exact Y | apply Ext.drewN)⟩
            case measure => simp [intOf]; omega
        · have x1' : (x == 1) = false := by simpa using x1
          have x1n : (x != 1) = true := by simpa using x1
          by_cases x0 : x = 0
          · subst x0
            have wr2' := wr2.out
            have HN : Hid (st = stP room (out + v) (ws.drop (k + 1)) (vs.drop (k + 1)) (p.drop (k + 1))) := by
              have h := HT.out
              rw [if_neg x1, if_pos rfl, if_neg (by omega)] at h
              exact h
            clear x1
            go_wp2_with (go_quiet (fail))
            go_roundw
            case rel => exact ⟨k + 1, room, out + v, by go_num, rfl, rfl, by omega, by omega, by omega, by omega, by omega, HN, by repeat (first | exact Y | apply Ext.drewN)⟩
            case measure => simp [intOf]; omega
          · have x0n : (x != 0) = true := by simpa using x0
            have HN : Hid (st = none) := by
              have h := HT.out
              rw [if_neg x1, if_neg x0] at h
              exact h
            clear x1 x0
            go_wp2_with (go_quiet (fail))
            all_goals (refine bodyPost_ret (v := .tuple #[.slice none 0 0, .int .i64 0, .int .i64 0, .bool false]) (by simp [results, Try.results118, go_sem]) rfl ?_)
            all_goals rw [HN.out]
            all_goals exact ⟨Ext.tr X2.out (by repeat (first | exact Y | apply Ext.drewN)), rfl⟩
      · have HN : Hid (st = some (room, out)) := by
          have h := HS.out
          rw [List.drop_of_length_le (l := p) (i := k) (by omega)] at h
          have h2 : stP room out (ws.drop k) (vs.drop k) [] = some (room, out) := by cases ws.drop k <;> cases vs.drop k <;> rfl
          rw [h2] at h
          exact h
        clear HS
        go_wp2_with (fail)
        refine bodyPost_ret (v := .tuple #[.slice LA l.length lc, .int .i64 room, .int .i64 out, .bool true]) (by simp [results, Try.results118, go_sem]) rfl ?_
        rw [HN.out]
        exact ⟨Ext.tr X2.out Y, LA, lc, rfl, rL.out.ext Y⟩
end Go.Proofs.Ytcpadkaljnnieaa
namespace Go.Proofs.Ytcpadkaljnnieaa

theorem KrnOk.perm {D : Nat} {kids kids' : List Int → List Int} {bound : List Int → Int} {okp : List Int → Prop} {bx : List Int → Int} (h : KrnOk D kids bound okp bx) (hk : ∀ p, okp p → p.length < D → ∀ n, n ∈ kids p ↔ n ∈ kids' p) : KrnOk D kids' bound okp bx where
  len := h.len
  kid := fun p ho hl n hn => h.kid p ho hl n ((hk p ho hl n).2 hn)
  leaf := h.leaf
  low := h.low
  node := fun p ho hl => node_perm (hk p ho hl) (h.node p ho hl)
def depthI (i : InstP) : Nat := if i.kind = 3 then i.n.toNat - 1 else i.n.toNat
def kidsK (cap : Int) (ws p : List Int) : List Int := match ws.drop p.length with
  | [] => []
  | w :: _ => if w ≤ roomC cap ws p then [0, 1] else [0]
/-- the numbers from some on that aren't in a list -/
def absL (a n : Nat) (p : List Int) : List Int := intsN ((List.range n).filter fun c => decide (a ≤ c) && !p.contains (c : Int))
def kidsI (i : InstP) (p : List Int) : List Int := if i.kind = 1 then kidsK i.cap (wsP i) p else absL (if i.kind = 2 then 0 else 1) i.cost.length p
def boundI (i : InstP) (p : List Int) : Int := if i.kind = 1 then (boundP i.cap (wsP i) (vsP i) p).1 else if i.kind = 2 then (boundA i.cost p).1 else (boundT i.cost (mirP i.cost) p).1
def okI (i : InstP) (p : List Int) : Prop := if i.kind = 1 then ∃ q, stP i.cap 0 (wsP i) (vsP i) p = some q else if i.kind = 2 then ∃ m, freeP i.cost.length p = some m else ∃ s, walkP i.cost p = some s
def bxI (i : InstP) (p : List Int) : Int := if i.kind = 1 then bestAt i.cap (wsP i) (vsP i) p else if i.kind = 2 then bestA i.cost i.cost.length (i.cost.length - p.length) p else bestT i.cost (i.cost.length - 1 - p.length) p
theorem contains_ints {l : List Nat} {c : Nat} : (intsN l).contains (c : Int) = true ↔ c ∈ l := by
  rw [List.contains_iff_mem]
  unfold intsN
  rw [List.mem_map]
  constructor
  · rintro ⟨d, hd, e⟩
    have : d = c := by omega
    exact this ▸ hd
  · exact fun h => ⟨c, h, rfl⟩
theorem absL_mems {n : Nat} {p : List Int} {l : List Nat} {m a : Nat} (hp : p = intsN l) (hm : ∀ x, x ∈ memsM m ↔ (x < n ∧ a ≤ x) ∧ x ∉ l) : absL a n p = intsN (memsM m) := by
  unfold absL
  congr 1
  refine List.Perm.eq_of_pairwise (le := (· < ·)) (fun a b _ _ h1 h2 => by omega) (List.Pairwise.filter _ List.pairwise_lt_range) (memsM_sorted m) ?_
  refine (List.perm_ext_iff_of_nodup ((List.Pairwise.filter _ List.pairwise_lt_range).imp fun h => Nat.ne_of_lt h) ((memsM_sorted m).imp fun h => Nat.ne_of_lt h)).2 fun c => ?_
  rw [hm c, List.mem_filter, List.mem_range, Bool.and_eq_true, decide_eq_true_eq, Bool.not_eq_true', hp]
  have := contains_ints (l := l) (c := c)
  constructor
  · rintro ⟨h1, h2, h3⟩
    exact ⟨⟨h1, h2⟩, fun h => by rw [this.2 h] at h3; cases h3⟩
  · rintro ⟨⟨h1, h2⟩, h3⟩
    refine ⟨h1, h2, ?_⟩
    cases h4 : (intsN l).contains (c : Int) with
    | false => rfl
    | true => exact absurd (this.1 h4) h3
theorem abs_assign {n : Nat} (h24 : n ≤ 24) {p : List Int} {m : Nat} (h : freeP n p = some m) : absL 0 n p = intsN (memsM m) := by
  obtain ⟨l, e1, _, _, e4⟩ := freeP_cols h24 h
  exact absL_mems e1 fun x => by rw [e4 x]; simp
theorem abs_tour {rows : List (List Int)} (h1 : 1 ≤ rows.length) (h24 : rows.length ≤ 24) {p : List Int} {m last : Nat} {cost : Int} (h : walkP rows p = some (m, last, cost)) : absL 1 rows.length p = intsN (memsM m) := by
  obtain ⟨l, W⟩ := walk_ok h1 h24 h
  exact absL_mems W.eq fun x => by
    rw [W.rest x]
    constructor
    · rintro ⟨⟨h1, h2⟩, h3⟩; exact ⟨⟨h1, by omega⟩, h3⟩
    · rintro ⟨⟨h1, h2⟩, h3⟩; exact ⟨⟨h1, by omega⟩, h3⟩
theorem kidsK_P {cap : Int} {ws vs p : List Int} {r o : Int} (h : stP cap 0 ws vs p = some (r, o)) (n : Int) : n ∈ (kidsP cap ws vs p).1 ↔ n ∈ kidsK cap ws p := by
  have e := (st_roomC h).1
  unfold kidsP kidsK
  rw [h, e]
  simp only
  cases ws.drop p.length with
  | nil => simp
  | cons w t =>
    simp only
    split <;> simp [or_comm]
theorem knap_facts {i : InstP} (ok : KnapOk i) : (wsP i).length = (vsP i).length ∧ ((wsP i).length : Int) = i.n ∧ (∀ x ∈ wsP i, 0 ≤ x) ∧ (∀ x ∈ vsP i, 0 ≤ x ∧ x ≤ 2147483647) ∧ Falls (wsP i) (vsP i) := by
  have sw := ok.sw
  have sv := ok.sv
  have hw : ∀ x ∈ i.weight, 0 ≤ x := fun x hx => (sw x hx).1
  have hv : ∀ x ∈ i.value, 0 ≤ x := fun x hx => (sv x hx).1
  have l1 : (wsP i).length = (orderP i).length := inOrder_len _ _
  have l2 : (vsP i).length = (orderP i).length := inOrder_len _ _
  have lo := orderP_len ok
  refine ⟨by omega, by omega, fun x hx => (small_inOrder sw x hx).1, fun x hx => small_inOrder sv x hx, ?_⟩
  exact falls_of hv hw (ratioP_sorted hw)
theorem num_of {rows : List (List Int)} (ok : RowsOk rows) (a b : Nat) (ha : a < rows.length) (hb : b < rows.length) : 0 ≤ costAt rows a b ∧ costAt rows a b ≤ 2147483647 := by
  unfold costAt
  have e : rows.getD a [] = rows[a] := by simp [List.getD, List.getElem?_eq_getElem ha]
  rw [e]
  exact ok.get (List.getElem_mem ha) hb
theorem okI_nil {i : InstP} (hc : checkP i = 0) : okI i [] := by
  unfold okI
  rcases check_kind hc with h | h | h
  · rw [if_pos h]
    exact ⟨(i.cap, 0), by cases wsP i <;> cases vsP i <;> rfl⟩
  · rw [if_neg (by omega), if_pos h]
    exact ⟨_, freeP_root⟩
  · rw [if_neg (by omega), if_neg (by omega)]
    exact ⟨_, walkP_root⟩
theorem krn_inst {i : InstP} (hc : checkP i = 0) : KrnOk (depthI i) (kidsI i) (boundI i) (okI i) (bxI i) := by
  rcases check_kind hc with h | h | h
  · have ok := knap_ok hc h
    obtain ⟨f1, f2, f3, f4, f5⟩ := knap_facts ok
    have K := (krn_knap ok.cap.1 f3 f4 f1 f5).perm (kids' := kidsK i.cap (wsP i)) fun p ⟨⟨r, o⟩, hp⟩ _ n => kidsK_P hp n
    have hd : depthI i = (wsP i).length := by unfold depthI; rw [if_neg (by omega)]; omega
    have e1 : kidsI i = kidsK i.cap (wsP i) := by funext p; unfold kidsI; rw [if_pos h]
    have e2 : boundI i = fun p => (boundP i.cap (wsP i) (vsP i) p).1 := by funext p; unfold boundI; rw [if_pos h]
    have e3 : okI i = fun p => ∃ q, stP i.cap 0 (wsP i) (vsP i) p = some q := by funext p; unfold okI; rw [if_pos h]
    have e4 : bxI i = bestAt i.cap (wsP i) (vsP i) := by funext p; unfold bxI; rw [if_pos h]
    rw [hd, e1, e2, e3, e4]
    exact K
  · have sq := square_ok hc (by omega)
    have rok := rows_ok sq
    have K := (krn_assign rok).perm (kids' := absL 0 i.cost.length) fun p ⟨m, hp⟩ _ n => by
      obtain ⟨l, e1, e2, _⟩ := kidsA_of hp
      rw [e1, abs_assign rok.n2 hp]
      unfold intsN
      rw [List.mem_map, List.mem_map]
      exact ⟨fun ⟨c, hc, e⟩ => ⟨c, e2.mem_iff.1 hc, e⟩, fun ⟨c, hc, e⟩ => ⟨c, e2.mem_iff.2 hc, e⟩⟩
    have hd : depthI i = i.cost.length := by unfold depthI; rw [if_neg (by omega)]; have := sq.len; omega
    have e1 : kidsI i = absL 0 i.cost.length := by funext p; unfold kidsI; rw [if_neg (by omega), if_pos h]
    have e2 : boundI i = fun p => (boundA i.cost p).1 := by funext p; unfold boundI; rw [if_neg (by omega), if_pos h]
    have e3 : okI i = fun p => ∃ m, freeP i.cost.length p = some m := by funext p; unfold okI; rw [if_neg (by omega), if_pos h]
    have e4 : bxI i = fun p => bestA i.cost i.cost.length (i.cost.length - p.length) p := by funext p; unfold bxI; rw [if_neg (by omega), if_pos h]
    rw [hd, e1, e2, e3, e4]
    exact K
  · have sq := square_ok hc (by omega)
    have rok := rows_ok sq
    have K := (krn_tour (mi := mirP i.cost) rok (num_of rok) (fun h => mirP_sym h)).perm (kids' := absL 1 i.cost.length) fun p ⟨⟨m, last, cost⟩, hp⟩ _ n => by
      obtain ⟨l, e1, e2, _⟩ := kidsT_of hp
      rw [e1, abs_tour rok.n1 rok.n2 hp]
      unfold intsN
      rw [List.mem_map, List.mem_map]
      exact ⟨fun ⟨c, hc, e⟩ => ⟨c, e2.mem_iff.1 hc, e⟩, fun ⟨c, hc, e⟩ => ⟨c, e2.mem_iff.2 hc, e⟩⟩
    have hd : depthI i = i.cost.length - 1 := by unfold depthI; rw [if_pos h]; have := sq.len; omega
    have e1 : kidsI i = absL 1 i.cost.length := by funext p; unfold kidsI; rw [if_neg (by omega), if_neg (by omega)]
    have e2 : boundI i = fun p => (boundT i.cost (mirP i.cost) p).1 := by funext p; unfold boundI; rw [if_neg (by omega), if_neg (by omega)]
    have e3 : okI i = fun p => ∃ s, walkP i.cost p = some s := by funext p; unfold okI; rw [if_neg (by omega), if_neg (by omega)]
    have e4 : bxI i = fun p => bestT i.cost (i.cost.length - 1 - p.length) p := by funext p; unfold bxI; rw [if_neg (by omega), if_neg (by omega)]
    rw [hd, e1, e2, e3, e4]
    exact K
end Go.Proofs.Ytcpadkaljnnieaa
namespace Go.Proofs.Ytcpadkaljnnieaa

section
variable (D : Nat) (kids : List Int → List Int) (bound : List Int → Int) (cost : Int)
/-- in so many steps -/
def wordS : Nat → List (List Int) → Wd
  | 0, _ => []
  | _ + 1, [] => []
  | n + 1, p :: S => if cost ≤ bound p then 112 :: wordS n S else if p.length = D then 108 :: wordS n S else 98 :: wordS n ((kids p).map (fun n => p ++ [n]) ++ S)
/-- is a word one of a whole search? -/
def readC : Wd → List (List Int) → Int
  | [], [] => 0
  | _ :: _, [] => 7
  | [], _ :: _ => 6
  | c :: w, p :: S =>
    if c = 112 then readC w S
    else if c = 98 then (if p.length = D then 8 else readC w ((kids p).map (fun n => p ++ [n]) ++ S))
    else if c = 108 then (if p.length = D then readC w S else 8)
    else 2
end
section
variable {D : Nat} {kids : List Int → List Int} {bound : List Int → Int} {cost : Int} {okp : List Int → Prop}
theorem wordS_cons (n : Nat) (p : List Int) (S : List (List Int)) : wordS D kids bound cost (n + 1) (p :: S) = if cost ≤ bound p then 112 :: wordS D kids bound cost n S else if p.length = D then 108 :: wordS D kids bound cost n S else 98 :: wordS D kids bound cost n ((kids p).map (fun n => p ++ [n]) ++ S) := by rw [wordS]
theorem readC_cons (c : UInt8) (w : Wd) (p : List Int) (S : List (List Int)) : readC D kids (c :: w) (p :: S) = if c = 112 then readC D kids w S
    else if c = 98 then (if p.length = D then 8 else readC D kids w ((kids p).map (fun n => p ++ [n]) ++ S))
    else if c = 108 then (if p.length = D then readC D kids w S else 8)
    else 2 := by rw [readC]
theorem wordS_nil : ∀ n, wordS D kids bound cost n [] = []
  | 0 => rfl
  | _ + 1 => rfl
theorem wordC_succ (f : Nat) (p : List Int) : wordC D kids bound cost (f + 1) p = if cost ≤ bound p then [112] else if p.length = D then [108] else 98 :: ((kids p).map fun n => wordC D kids bound cost f (p ++ [n])).flatten := by rw [wordC]
theorem wordS_C (hlen : ∀ p, okp p → p.length ≤ D) (hkid : ∀ p, okp p → p.length < D → ∀ n ∈ kids p, okp (p ++ [n])) : ∀ (f : Nat) (p : List Int) (S : List (List Int)) (n : Nat), okp p → f + p.length = D + 1 → (wordC D kids bound cost f p).length ≤ n →
    wordS D kids bound cost n (p :: S) = wordC D kids bound cost f p ++ wordS D kids bound cost (n - (wordC D kids bound cost f p).length) S
  | 0, p, S, n, ho, hf, _ => by have := hlen p ho; omega
  | f + 1, p, S, n, ho, hf, hn => by
    have hl := hlen p ho
    rw [wordC_succ] at hn ⊢
    have hn0 : 0 < n := by
      rcases Nat.eq_zero_or_pos n with h | h
      · subst h
        split at hn
        · simp at hn
        · split at hn <;> simp at hn
      · exact h
    obtain ⟨k, rfl⟩ : ∃ k, n = k + 1 := ⟨n - 1, by omega⟩
    rw [wordS_cons]
    by_cases h1 : cost ≤ bound p
    · rw [if_pos h1, if_pos h1]; simp
    · rw [if_neg h1, if_neg h1]
      rw [if_neg h1] at hn
      by_cases h2 : p.length = D
      · rw [if_pos h2, if_pos h2]; simp
      · rw [if_neg h2, if_neg h2]
        rw [if_neg h2] at hn
        have key : ∀ (l : List Int) (k : Nat), (∀ n ∈ l, okp (p ++ [n])) → ((l.map fun n => wordC D kids bound cost f (p ++ [n])).flatten).length ≤ k →
            wordS D kids bound cost k (l.map (fun n => p ++ [n]) ++ S) = (l.map fun n => wordC D kids bound cost f (p ++ [n])).flatten ++ wordS D kids bound cost (k - ((l.map fun n => wordC D kids bound cost f (p ++ [n])).flatten).length) S := by
          intro l
          induction l with
          | nil => intro k _ _; simp
          | cons m l ih =>
            intro k hk hkl
            simp only [List.map_cons, List.flatten_cons, List.length_append] at hkl ⊢
            have h3 := wordS_C hlen hkid f (p ++ [m]) (l.map (fun n => p ++ [n]) ++ S) k (hk m (by simp)) (by simp; omega) (by omega)
            rw [List.cons_append, h3, ih _ (fun n hn => hk n (by simp [hn])) (by omega), List.append_assoc]
            congr 3
            omega
        rw [key (kids p) k (hkid p ho (by omega)) (by simp only [List.length_cons] at hn; omega)]
        simp only [List.cons_append, List.length_cons]
        congr 3
        omega
theorem read_word (hlen : ∀ p, okp p → p.length ≤ D) (hkid : ∀ p, okp p → p.length < D → ∀ n ∈ kids p, okp (p ++ [n])) : ∀ (f : Nat) (p : List Int) (S : List (List Int)) (r : Wd), okp p → f + p.length = D + 1 →
    readC D kids (wordC D kids bound cost f p ++ r) (p :: S) = readC D kids r S
  | 0, p, S, r, ho, hf => by have := hlen p ho; omega
  | f + 1, p, S, r, ho, hf => by
    have hl := hlen p ho
    rw [wordC_succ]
    by_cases h1 : cost ≤ bound p
    · rw [if_pos h1, List.cons_append, List.nil_append, readC_cons, if_pos rfl]
    · rw [if_neg h1]
      by_cases h2 : p.length = D
      · rw [if_pos h2, List.cons_append, List.nil_append, readC_cons, if_neg (by decide), if_neg (by decide), if_pos rfl, if_pos h2]
      · rw [if_neg h2, List.cons_append, readC_cons, if_neg (by decide), if_pos rfl, if_neg h2]
        have key : ∀ (l : List Int) (r : Wd), (∀ n ∈ l, okp (p ++ [n])) → readC D kids ((l.map fun n => wordC D kids bound cost f (p ++ [n])).flatten ++ r) (l.map (fun n => p ++ [n]) ++ S) = readC D kids r S := by
          intro l
          induction l with
          | nil => intro r _; simp
          | cons m l ih =>
            intro r hk
            simp only [List.map_cons, List.flatten_cons, List.append_assoc, List.cons_append]
            rw [read_word hlen hkid f (p ++ [m]) _ _ (hk m (by simp)) (by simp; omega)]
            exact ih r fun n hn => hk n (by simp [hn])
        exact key (kids p) r (hkid p ho (by omega))
theorem wordC_len (hlen : ∀ p, okp p → p.length ≤ D) (hkid : ∀ p, okp p → p.length < D → ∀ n ∈ kids p, okp (p ++ [n])) (w : Nat → Nat) (hw : ∀ p, okp p → p.length < D → (kids p).length ≤ w (D - p.length)) : ∀ (f : Nat) (p : List Int), okp p → f + p.length = D + 1 → (wordC D kids bound cost f p).length ≤ cntK w (D - p.length)
  | 0, p, ho, hf => by have := hlen p ho; omega
  | f + 1, p, ho, hf => by
    have hl := hlen p ho
    have hpos : 0 < cntK w (D - p.length) := by
      cases D - p.length with
      | zero => simp [cntK]
      | succ r => unfold cntK; omega
    rw [wordC_succ]
    by_cases h1 : cost ≤ bound p
    · rw [if_pos h1]; simp; omega
    · rw [if_neg h1]
      by_cases h2 : p.length = D
      · rw [if_pos h2]; simp; omega
      · rw [if_neg h2]
        have hlt : p.length < D := by omega
        obtain ⟨r, hr⟩ : ∃ r, D - p.length = r + 1 := ⟨D - p.length - 1, by omega⟩
        have hwp := hw p ho hlt
        rw [hr] at hwp ⊢
        have key : ∀ (l : List Int), (∀ n ∈ l, okp (p ++ [n])) → ((l.map fun n => wordC D kids bound cost f (p ++ [n])).flatten).length ≤ l.length * cntK w r := by
          intro l
          induction l with
          | nil => intro _; simp
          | cons m l ih =>
            intro hk
            have h3 := wordC_len hlen hkid w hw f (p ++ [m]) (hk m (by simp)) (by simp; omega)
            rw [show D - (p ++ [m]).length = r by simp; omega] at h3
            have h4 := ih fun n hn => hk n (by simp [hn])
            simp only [List.map_cons, List.flatten_cons, List.length_append, List.length_cons, Nat.succ_mul]
            omega
        have h3 := key (kids p) (hkid p ho hlt)
        have h4 : (kids p).length * cntK w r ≤ w (r + 1) * cntK w r := Nat.mul_le_mul_right _ hwp
        simp only [List.length_cons]
        unfold cntK
        omega
end
/-- how many kids there are -/
theorem kidsI_len {i : InstP} (hc : checkP i = 0) (p : List Int) (ho : okI i p) (hl : p.length < depthI i) : (kidsI i p).length ≤ if i.kind = 1 then 2 else depthI i - p.length := by
  unfold okI at ho
  rcases check_kind hc with h | h | h
  · rw [if_pos h]
    unfold kidsI kidsK
    rw [if_pos h]
    split
    · simp
    · split <;> simp
  · have sq := square_ok hc (by omega)
    have rok := rows_ok sq
    rw [if_neg (by omega), if_pos h] at ho
    obtain ⟨m, hm⟩ := ho
    have h1 := freeP_len rok.n2 hm
    have hd : depthI i = i.cost.length := by unfold depthI; rw [if_neg (by omega)]; have := sq.len; omega
    have e : kidsI i p = intsN (memsM m) := by unfold kidsI; rw [if_neg (by omega), if_pos h, abs_assign rok.n2 hm]
    rw [if_neg (show ¬ i.kind = 1 by omega), e, intsN_len]
    omega
  · have sq := square_ok hc (by omega)
    have rok := rows_ok sq
    rw [if_neg (by omega), if_neg (by omega)] at ho
    obtain ⟨⟨m, last, cost⟩, hm⟩ := ho
    have h1 := walkP_len rok.n1 rok.n2 hm
    have hd : depthI i = i.cost.length - 1 := by unfold depthI; rw [if_pos h]; have := sq.len; omega
    have e : kidsI i p = intsN (memsM m) := by unfold kidsI; rw [if_neg (by omega), if_neg (by omega), abs_tour rok.n1 rok.n2 hm]
    rw [if_neg (show ¬ i.kind = 1 by omega), e, intsN_len]
    omega
theorem cnt_two : ∀ r, r ≤ 7 → cntK (fun _ => 2) r ≤ 300 := by decide
theorem cnt_id : ∀ r, r ≤ 4 → cntK (fun r => r) r ≤ 300 := by decide
/-- the search's word, of few items -/
theorem word_few {i : InstP} (hc : checkP i = 0) (hf : i.kind = 1 ∧ i.n ≤ 7 ∨ i.kind ≠ 1 ∧ i.n ≤ 4) (cost : Int) : (wordC (depthI i) (kidsI i) (boundI i) cost (depthI i + 1) []).length ≤ 300 ∧ wordS (depthI i) (kidsI i) (boundI i) cost 3000 [[]] = wordC (depthI i) (kidsI i) (boundI i) cost (depthI i + 1) [] ∧ readC (depthI i) (kidsI i) (wordC (depthI i) (kidsI i) (boundI i) cost (depthI i + 1) []) [[]] = 0 := by
  have K := krn_inst hc
  have o0 := okI_nil hc
  have hd : depthI i ≤ i.n.toNat := by unfold depthI; split <;> omega
  have hlen : (wordC (depthI i) (kidsI i) (boundI i) cost (depthI i + 1) []).length ≤ 300 := by
    by_cases h1 : i.kind = 1
    · have := wordC_len (bound := boundI i) (cost := cost) K.len K.kid (fun _ => 2) (fun p ho hl => by have := kidsI_len hc p ho hl; rw [if_pos h1] at this; exact this) (depthI i + 1) [] o0 (by simp)
      exact Nat.le_trans this (cnt_two _ (by simp; omega))
    · have := wordC_len (bound := boundI i) (cost := cost) K.len K.kid (fun r => r) (fun p ho hl => by have := kidsI_len hc p ho hl; rw [if_neg h1] at this; exact this) (depthI i + 1) [] o0 (by simp)
      exact Nat.le_trans this (cnt_id _ (by simp; omega))
  refine ⟨hlen, ?_, ?_⟩
  · have := wordS_C (bound := boundI i) (cost := cost) K.len K.kid (depthI i + 1) [] [] 3000 o0 (by simp) (by omega)
    rw [this, wordS_nil, List.append_nil]
  · have := read_word (bound := boundI i) (cost := cost) K.len K.kid (depthI i + 1) [] [] [] o0 (by simp)
    rw [List.append_nil] at this
    rw [this]
    rfl
end Go.Proofs.Ytcpadkaljnnieaa
namespace Go.Proofs.Ytcpadkaljnnieaa
open Go.RowKit Go.ChangeShapes Go.WideShapes Go.ChangeAt Go.Deep

/-- each of 0 to n - 1, once? -/
def permB (x : List Int) (n : Nat) : Bool := decide (x.length = n ∧ ∀ k, k < n → x.count (k : Int) = 1)
set_option maxRecDepth 100000 in
set_option maxHeartbeats 2000000 in
theorem perm_gen (P : Option Addr) (c n : Nat) (x : List Int) (w : World) (hP : RdI w P x) (hn : n ≤ 1000) :
    Calls Try.prog 57 #[.slice P x.length c, .int .i64 n] w fun e w' => e = .returned (.bool (permB x n)) ∧ Ext w w' := by
  by_cases hl : x.length = n
  · have PB : Hid (∀ b : Bool, (b = true ↔ ∀ k, k < n → x.count (k : Int) = 1) → permB x n = b) := fun b h => by
      unfold permB
      rw [Bool.eq_iff_iff, decide_eq_true_iff, h]
      exact ⟨fun h => h.2, fun h => ⟨hl, h⟩⟩
    have ne0 : ((n : Int) != (n : Int)) = false := by simp
    generalize permB x n = pb at *
    have hlen : Hid (x.length = n) := by
      have h : x.length = n := hl
      exact h
    rw [hl]
    clear hl
    replace hP := Lib.hid hP
    go_enter Try.func57, Try.ntmps57
    go_wp2_with (fail)
    go_loopw [5] (fun v wr => ∃ k : Nat, v = .int .i64 k ∧ k ≤ n ∧ Hid (∀ k', k' < k → x.count (k' : Int) = 1) ∧ Hid (Ext w wr)) (fun v _ => n - (intOf v).toNat)
    case atStart => exact ⟨0, rfl, by omega, fun k' h => by omega, Ext.rf _⟩
    case round =>
      obtain ⟨wo, rfl⟩ : ∃ wo : World, wo = wr := ⟨_, rfl⟩
      obtain ⟨k, rfl, hk, HK, Y⟩ := hrel
      by_cases hkn : k < n
      · have q1 : (k : Int) < (n : Int) := by omega
        go_wp2_with (fail)
        go_loopw [7, 6] (fun v fv wr => ∃ j : Nat, v = .int .i64 j ∧ fv = .int .i64 ((x.take j).count (k : Int) : Nat) ∧ j ≤ n ∧ Hid (Ext w wr)) (fun v _ _ => n - (intOf v).toNat)
        case atStart => exact ⟨0, rfl, by rw [List.take_zero, List.count_nil]; rfl, by omega, Y⟩
        case round =>
          obtain ⟨wi, rfl⟩ : ∃ wi : World, wi = wr := ⟨_, rfl⟩
          obtain ⟨j, rfl, rfl, hj, YI⟩ := hrel
          have hcl := List.count_le_length (a := (k : Int)) (l := x.take j)
          rw [List.length_take] at hcl
          by_cases hjn : j < n
          · have q2 : (j : Int) < (n : Int) := by omega
            obtain ⟨pb', po, y, rfl, _, cx, ey, _⟩ := (hP.out.ext YI.out).at (k := j) (by rw [hlen.out]; exact hjn)
            have HC : Hid ((x.take (j + 1)).count (k : Int) = (x.take j).count (k : Int) + if y = (k : Int) then 1 else 0) := by
              have h : (x.take (j + 1)).count (k : Int) = (x.take j).count (k : Int) + if y = (k : Int) then 1 else 0 := by
                rw [List.take_add_one, ey.out, List.count_append]
                simp [List.count_cons]
              exact h
            clear ey
            generalize (x.take j).count (k : Int) = cn at *
            by_cases hyk : y = (k : Int)
            · subst hyk
              rw [if_pos rfl] at HC
              go_wp2_with (fail)
              go_roundw
              case rel => exact ⟨j + 1, by go_num, by rw [HC.out]; go_num, by omega, YI⟩
              case measure => simp [intOf]; omega
            · have HC2 : Hid ((x.take (j + 1)).count (k : Int) = cn) := by
                have h := HC.out
                rw [if_neg hyk] at h
                exact h
              clear HC
              have t2 : (y == (k : Int)) = false := by rw [beq_eq_false_iff_ne]; exact hyk
              go_wp2_with (fail)
              go_roundw
              case rel => exact ⟨j + 1, by go_num, by rw [HC2.out], by omega, YI⟩
              case measure => simp [intOf]; omega
          · have q2 : ¬ (j : Int) < (n : Int) := by omega
            have e1 : x.take j = x := List.take_of_length_le (by rw [hlen.out]; omega)
            rw [e1]
            clear e1 hcl
            by_cases hc1 : x.count (k : Int) = 1
            · have HK2 : Hid (∀ k', k' < k + 1 → x.count (k' : Int) = 1) := fun k' h => by
                by_cases e : k' = k
                · subst e; exact hc1
                · exact HK.out k' (by omega)
              rw [hc1]
              clear hc1
              go_wp2_with (fail)
              go_roundw
              case rel => exact ⟨k + 1, by go_num, by omega, HK2, YI⟩
              case measure => simp [intOf]; omega
            · have R := PB.out false (by
                constructor
                · intro h; cases h
                · intro h; exact absurd (h k hkn) hc1)
              have t3 : (((x.count (k : Int) : Nat) : Int) != 1) = true := by
                rw [bne_iff_ne]
                omega
              replace hc1 := Lib.hid hc1
              generalize x.count (k : Int) = cn at *
              go_wp2_with (fail)
              go_ret
              exact ⟨by first | rfl | (rw [R]; rfl), YI.out⟩
      · have q1 : ¬ (k : Int) < (n : Int) := by omega
        have R := PB.out true ⟨fun _ k' h => HK.out k' (by omega), fun _ => rfl⟩
        go_wp2_with (fail)
        go_ret
        exact ⟨by first | rfl | (rw [R]; rfl), Y.out⟩
  · have PB : permB x n = false := by
      unfold permB
      exact decide_eq_false fun h => hl h.1
    have ne0 : ((x.length : Int) != (n : Int)) = true := by rw [bne_iff_ne]; omega
    rw [PB]
    replace hl := Lib.hid hl
    go_enter Try.func57, Try.ntmps57
    go_wp2_with (fail)
    go_ret
    exact ⟨rfl, by (repeat (first | assumption | exact Ext.rf _ | apply Ext.drew | apply Ext.drewN | apply Ext.alloc))⟩
theorem perm_of_sub : ∀ {r x : List Int}, r.Nodup → (∀ y ∈ r, y ∈ x) → r.length = x.length → r.Perm x
  | [], x, _, _, hl => by rw [List.eq_nil_of_length_eq_zero hl.symm]
  | a :: r, x, hd, hs, hl => by
    obtain ⟨h1, h2⟩ := List.nodup_cons.1 hd
    have ha : a ∈ x := hs a (by simp)
    have hp := List.perm_cons_erase ha
    have ih := perm_of_sub (r := r) (x := x.erase a) h2 (fun y hy => by
      have hne : y ≠ a := fun e => h1 (e ▸ hy)
      exact (List.mem_erase_of_ne hne).2 (hs y (by simp [hy]))) (by
      have := hp.length_eq
      simp only [List.length_cons] at this hl
      omega)
    exact (ih.cons a).trans hp.symm
theorem count_one_i {k : Int} : ∀ {l : List Int}, l.Nodup → k ∈ l → l.count k = 1
  | [], _, h => by cases h
  | x :: l, hd, h => by
    have hd' := List.nodup_cons.1 hd
    by_cases e : x = k
    · subst e
      rw [List.count_cons_self, List.count_eq_zero.2 hd'.1]
    · rw [List.count_cons_of_ne e]
      rcases List.mem_cons.1 h with h | h
      · exact absurd h.symm e
      · exact count_one_i hd'.2 h
theorem permB_iff {x : List Int} {n : Nat} : permB x n = true ↔ ∃ l : List Nat, x = intsN l ∧ l.Perm (List.range n) := by
  unfold permB
  rw [decide_eq_true_iff]
  constructor
  · rintro ⟨h1, h2⟩
    have hsub : intsN (List.range n) ⊆ x := fun y hy => by
      obtain ⟨k, hk, rfl⟩ := List.mem_map.1 hy
      have := h2 k (List.mem_range.1 hk)
      exact List.count_pos_iff.1 (by omega)
    have hnd : (intsN (List.range n)).Nodup := by
      unfold intsN
      refine List.pairwise_map.2 (List.nodup_range.imp ?_)
      intro a b hab e
      exact hab (by omega)
    have hp : (intsN (List.range n)).Perm x := perm_of_sub hnd (fun y hy => hsub hy) (by rw [intsN_len, List.length_range]; omega)
    refine ⟨x.map Int.toNat, ?_, ?_⟩
    · unfold intsN
      rw [List.map_map]
      refine (List.map_id x).symm.trans (List.map_congr_left fun y hy => ?_)
      obtain ⟨k, _, rfl⟩ := List.mem_map.1 (hp.mem_iff.2 hy)
      simp
    · have := hp.symm.map Int.toNat
      refine this.trans ?_
      unfold intsN
      rw [List.map_map]
      have e : (List.range n).map (Int.toNat ∘ fun n : Nat => (n : Int)) = List.range n := by
        refine (List.map_congr_left fun k _ => ?_).trans (List.map_id _)
        simp
      rw [e]
  · rintro ⟨l, rfl, hl⟩
    refine ⟨by rw [intsN_len, hl.length_eq, List.length_range], fun k hk => ?_⟩
    have h1 : (intsN l).Perm (intsN (List.range n)) := hl.map _
    rw [h1.count_eq]
    have hm : (k : Int) ∈ intsN (List.range n) := List.mem_map.2 ⟨k, List.mem_range.2 hk, rfl⟩
    have hnd : (intsN (List.range n)).Nodup := by
      unfold intsN
      refine List.pairwise_map.2 (List.nodup_range.imp ?_)
      intro a b hab e
      exact hab (by omega)
    exact count_one_i hnd hm
end Go.Proofs.Ytcpadkaljnnieaa
namespace Go.Proofs.Ytcpadkaljnnieaa
open Go.RowKit Go.ChangeShapes Go.WideShapes Go.ChangeAt Go.Deep

set_option maxRecDepth 100000 in
set_option maxHeartbeats 4000000 in
theorem rcost_wrong (i : InstP) (us : List Value) (P : Option Addr) (c : Nat) (x : List Int) (w : World) (H : RInst w us i) (hc : checkP i = 0) (hk : i.kind = 1) (hP : RdI w P x) (lx : (x.length : Int) = i.n) (hbad : ¬ ∀ v ∈ x, v = 0 ∨ v = 1) :
    Calls Try.prog 30 #[.agg (List.toArray us), .slice P x.length c] w fun e w' => e = .returned (.tuple #[.int .i64 0, .int .i64 1]) ∧ Ext w w' := by
  have CH := fun (W : World) (x : Ext w W) => rcheck_any i us W (H.ext x)
  rw [hc] at CH
  have ok := knap_ok hc hk
  have k1 := ok.n1
  have k2 := ok.n2
  have k3 := ok.w
  have k4 := ok.v
  have k5 := ok.cap
  have k6 := Lib.hid ok.sw
  have k7 := Lib.hid ok.sv
  clear ok hc
  obtain ⟨kind, nn, cap, xw, xv, co⟩ := i
  obtain ⟨A, a, B, b, D, d, rfl, ⟨rA, iA, lA, mA⟩, ⟨rB, iB, lB, mB⟩, -⟩ := H
  simp only at *
  subst hk
  obtain ⟨n, rfl⟩ : ∃ n : Nat, nn = (n : Int) := ⟨nn.toNat, by omega⟩
  have lxn : x.length = n := by omega
  have lwn : xw.length = n := by omega
  have lvn : xv.length = n := by omega
  have hn2 : n ≤ 64 := by omega
  replace lwn := Lib.hid lwn
  replace lvn := Lib.hid lvn
  replace lxn := Lib.hid lxn
  clear lx k3 k4
  have W1 : ∀ k v u, x[k]? = some v → xw[k]? = some u → takenL (x.take (k + 1)) xw = takenL (x.take k) xw + if v = 1 then u else 0 := fun k v u h1 h2 => sumZip_take _ k x xw h1 h2
  have V1 : ∀ k v u, x[k]? = some v → xv[k]? = some u → leftL (x.take (k + 1)) xv = leftL (x.take k) xv + if v = 1 then 0 else u := fun k v u h1 h2 => sumZip_take _ k x xv h1 h2
  replace W1 := Lib.hid W1
  replace V1 := Lib.hid V1
  replace CH := Lib.hid CH
  replace rA := Lib.hid rA
  replace rB := Lib.hid rB
  replace hP := Lib.hid hP
  replace mA := Lib.hid mA
  replace mB := Lib.hid mB
  replace iA := Lib.hid iA
  replace iB := Lib.hid iB
  replace hbad := Lib.hid hbad
  have B1 : Hid (Blk (w.alloc (.cells #[.int .i64 1, .int .i64 n, .int .i64 cap, .slice A xw.length a, .slice B xv.length b, .slice D co.length d] 61)) w.heap.size 61 #[.int .i64 1, .int .i64 n, .int .i64 cap, .slice A xw.length a, .slice B xv.length b, .slice D co.length d]) := .new rfl
  have lz := List.take_length (l := x)
  have bW : ∀ k, k ≤ n → 0 ≤ takenL (x.take k) xw ∧ takenL (x.take k) xw ≤ 2147483647 * (k : Int) := by
    intro k
    induction k with
    | zero => intro _; simp [takenL, sumL]
    | succ k ih =>
      intro hk
      have h0 := ih (by omega)
      have h8 : k < x.length := by rw [lxn.out]; omega
      have e1 : x[k]? = some x[k] := List.getElem?_eq_getElem h8
      have h9 : k < xw.length := by rw [lwn.out]; omega
      have e2 : xw[k]? = some xw[k] := List.getElem?_eq_getElem h9
      have h1 := W1.out k _ _ e1 e2
      have h2 := k6.out.get e2
      rw [h1]
      split <;> omega
  have bV : ∀ k, k ≤ n → 0 ≤ leftL (x.take k) xv ∧ leftL (x.take k) xv ≤ 2147483647 * (k : Int) := by
    intro k
    induction k with
    | zero => intro _; simp [leftL, sumL]
    | succ k ih =>
      intro hk
      have h0 := ih (by omega)
      have h8 : k < x.length := by rw [lxn.out]; omega
      have e1 : x[k]? = some x[k] := List.getElem?_eq_getElem h8
      have h9 : k < xv.length := by rw [lvn.out]; omega
      have e2 : xv[k]? = some xv[k] := List.getElem?_eq_getElem h9
      have h1 := V1.out k _ _ e1 e2
      have h2 := k7.out.get e2
      rw [h1]
      split <;> omega
  replace bW := Lib.hid bW
  replace bV := Lib.hid bV
  clear lz
  go_enter Try.func30, Try.ntmps30
  go_wp2_with (fail)
  refine (CH.out _ (by (repeat (first | assumption | exact Ext.rf _ | apply Ext.drew | apply Ext.drewN | apply Ext.alloc)))).mono ?_
  rintro e w1 ⟨rfl, x1⟩
  have X1 := Lib.hid (Ext.tr (a := w) (by (repeat (first | assumption | exact Ext.rf _ | apply Ext.drew | apply Ext.drewN | apply Ext.alloc))) x1)
  have BB := Lib.hid (B1.out.ext x1)
  have d0 : w1.cell? ⟨w.heap.size, 0, none⟩ = some (.int .i64 1) := BB.out.cell 0
  have d1 : w1.cell? ⟨w.heap.size, 1, none⟩ = some (.int .i64 n) := BB.out.cell 1
  have zb := BB.out.lt
  clear x1
  have exn : (x.length : Int) = (n : Int) := by rw [lxn.out]
  have d2 : w1.cell? ⟨w.heap.size, 2, none⟩ = some (.int .i64 cap) := BB.out.cell 2
  have d3 : w1.cell? ⟨w.heap.size, 3, none⟩ = some (.slice A xw.length a) := BB.out.cell 3
  have d4 : w1.cell? ⟨w.heap.size, 4, none⟩ = some (.slice B xv.length b) := BB.out.cell 4
  go_wp2_with (fail)
  go_loopw [9, 10, 11] (fun a b i wr => ∃ k : Nat, i = .int .i64 k ∧ a = .int .i64 (takenL (x.take k) xw) ∧ b = .int .i64 (leftL (x.take k) xv) ∧ k ≤ n ∧ Hid (∀ j y, j < k → x[j]? = some y → y = 0 ∨ y = 1) ∧ Ext w1 wr) (fun _ _ i _ => n - (intOf i).toNat)
  case atStart => exact ⟨0, rfl, rfl, rfl, by omega, (fun j y h => by omega), Ext.rf _⟩
  case round =>
    obtain ⟨wo, rfl⟩ : ∃ wo : World, wo = wr := ⟨_, rfl⟩
    obtain ⟨k, rfl, rfl, rfl, hk, HG, Y⟩ := hrel
    have e1 := keepEL Y zb d1
    have e2 := keepEL Y zb d2
    have e3 := keepEL Y zb d3
    have e4 := keepEL Y zb d4
    obtain ⟨tw1, tw2⟩ := bW.out k hk
    obtain ⟨tv1, tv2⟩ := bV.out k hk
    by_cases hlt : k < n
    · obtain ⟨pb, po, y, rfl, zy, cy, ey, _⟩ := (hP.out.ext (X1.out.tr Y)).at (k := k) (by rw [lxn.out]; exact hlt)
      obtain ⟨ab, ao, u, rfl, zu, cu, eu, _⟩ := (rA.out.ext (X1.out.tr Y)).at (k := k) (by rw [lwn.out]; exact hlt)
      obtain ⟨vb, vo, v, rfl, zv, cv, ev, _⟩ := (rB.out.ext (X1.out.tr Y)).at (k := k) (by rw [lvn.out]; exact hlt)
      have sW := Lib.hid (W1.out k y u ey.out eu.out)
      have sV := Lib.hid (V1.out k y v ey.out ev.out)
      have bu := k6.out.get eu.out
      have bv := k7.out.get ev.out
      have q1 : (k : Int) < (x.length : Int) := by omega
      have q2 : (k : Int) < (xw.length : Int) := by rw [lwn.out]; omega
      have q3 : (k : Int) < (xv.length : Int) := by rw [lvn.out]; omega
      have HGN : Hid ((y = 0 ∨ y = 1) → ∀ j y', j < k + 1 → x[j]? = some y' → y' = 0 ∨ y' = 1) := fun hy j y' hj e => by
        by_cases ej : j = k
        · subst ej
          rw [ey.out] at e
          obtain rfl := Option.some.inj e
          exact hy
        · exact HG.out j y' (by omega) e
      obtain ⟨tw, htw⟩ : ∃ tw, tw = takenL (x.take k) xw := ⟨_, rfl⟩
      obtain ⟨tv, htv⟩ : ∃ tv, tv = leftL (x.take k) xv := ⟨_, rfl⟩
      rw [← htw] at tw1 tw2 sW ⊢
      rw [← htv] at tv1 tv2 sV ⊢
      clear ey eu ev htw htv e2
      by_cases y1 : y = 1
      · subst y1
        have sW2 : Hid (takenL (x.take (k + 1)) xw = tw + u) := by
          have h := sW.out
          rw [if_pos rfl] at h
          exact h
        have sV2 : Hid (leftL (x.take (k + 1)) xv = tv) := by
          have h := sV.out
          rw [if_pos rfl, Int.add_zero] at h
          exact h
        have HN := Lib.hid (HGN.out (.inr rfl))
        clear sW sV HGN
        have w1' : IntKind.i64.wrap (tw + u) = tw + u := IntWalk.i64_in _ (by omega)
        go_wp2_with (go_quiet (fail))
        go_roundw
        case rel => exact ⟨k + 1, by go_num, by rw [sW2.out], by rw [sV2.out], by omega, HN.out, by repeat (first | exact Y | apply Ext.drewN)⟩
        case measure => simp [intOf]; omega
      by_cases y0 : y = 0
      · subst y0
        have sW2 : Hid (takenL (x.take (k + 1)) xw = tw) := by
          have h := sW.out
          rw [if_neg (by decide), Int.add_zero] at h
          exact h
        have sV2 : Hid (leftL (x.take (k + 1)) xv = tv + v) := by
          have h := sV.out
          rw [if_neg (by decide)] at h
          exact h
        have HN := Lib.hid (HGN.out (.inl rfl))
        clear sW sV HGN y1
        have w1' : IntKind.i64.wrap (tv + v) = tv + v := IntWalk.i64_in _ (by omega)
        go_wp2_with (go_quiet (fail))
        go_roundw
        case rel => exact ⟨k + 1, by go_num, by rw [sW2.out], by rw [sV2.out], by omega, HN.out, by repeat (first | exact Y | apply Ext.drewN)⟩
        case measure => simp [intOf]; omega
      · have e0 : (y != 0) = true := by simpa using y0
        have e1 : (y != 1) = true := by simpa using y1
        clear sW sV HGN
        go_wp2_with (fail)
        go_ret2
        exact ⟨rfl, X1.out.tr Y⟩
    · exfalso
      refine hbad.out fun y hy => ?_
      obtain ⟨j, hj, rfl⟩ := List.mem_iff_getElem.1 hy
      exact HG.out j _ (by rw [lxn.out] at hj; omega) (List.getElem?_eq_getElem hj)
set_option maxRecDepth 100000 in
set_option maxHeartbeats 1000000 in
theorem rcost_bad (i : InstP) (us : List Value) (X : Value) (w : World) (H : RInst w us i) (hc : checkP i ≠ 0) :
    Calls Try.prog 30 #[.agg (List.toArray us), X] w fun e w' => e = .returned (.tuple #[.int .i64 0, .int .i64 (checkP i)]) ∧ Ext w w' := by
  have CH := fun (W : World) (x : Ext w W) => rcheck_any i us W (H.ext x)
  generalize checkP i = cc at *
  have e1 : (cc != 0) = true := by simpa using hc
  obtain ⟨kind, nn, cap, xw, xv, co⟩ := i
  obtain ⟨A, a, B, b, D, d, rfl, -, -, -⟩ := H
  simp only at *
  replace CH := Lib.hid CH
  clear hc
  go_enter Try.func30, Try.ntmps30
  go_wp2_with (fail)
  refine (CH.out _ (by (repeat (first | assumption | exact Ext.rf _ | apply Ext.drew | apply Ext.drewN | apply Ext.alloc)))).mono ?_
  rintro e w1 ⟨rfl, x1⟩
  have X1 := Lib.hid (Ext.tr (a := w) (by (repeat (first | assumption | exact Ext.rf _ | apply Ext.drew | apply Ext.drewN | apply Ext.alloc))) x1)
  clear x1
  go_wp2_with (fail)
  go_ret2
  exact ⟨rfl, X1.out⟩
set_option maxRecDepth 100000 in
set_option maxHeartbeats 1000000 in
theorem rcost_len (i : InstP) (us : List Value) (P : Option Addr) (c m : Nat) (w : World) (H : RInst w us i) (hc : checkP i = 0) (hk : i.kind = 1) (hm : (m : Int) ≠ i.n) :
    Calls Try.prog 30 #[.agg (List.toArray us), .slice P m c] w fun e w' => e = .returned (.tuple #[.int .i64 0, .int .i64 1]) ∧ Ext w w' := by
  have CH := fun (W : World) (x : Ext w W) => rcheck_any i us W (H.ext x)
  rw [hc] at CH
  obtain ⟨kind, nn, cap, xw, xv, co⟩ := i
  obtain ⟨A, a, B, b, D, d, rfl, -, -, -⟩ := H
  simp only at *
  subst hk
  have e1 : ((m : Int) != nn) = true := by simpa using hm
  have B1 : Hid (Blk (w.alloc (.cells #[.int .i64 1, .int .i64 nn, .int .i64 cap, .slice A xw.length a, .slice B xv.length b, .slice D co.length d] 61)) w.heap.size 61 #[.int .i64 1, .int .i64 nn, .int .i64 cap, .slice A xw.length a, .slice B xv.length b, .slice D co.length d]) := .new rfl
  replace CH := Lib.hid CH
  clear hc hm
  go_enter Try.func30, Try.ntmps30
  go_wp2_with (fail)
  refine (CH.out _ (by (repeat (first | assumption | exact Ext.rf _ | apply Ext.drew | apply Ext.drewN | apply Ext.alloc)))).mono ?_
  rintro e w1 ⟨rfl, x1⟩
  have X1 := Lib.hid (Ext.tr (a := w) (by (repeat (first | assumption | exact Ext.rf _ | apply Ext.drew | apply Ext.drewN | apply Ext.alloc))) x1)
  have BB := Lib.hid (B1.out.ext x1)
  have d0 : w1.cell? ⟨w.heap.size, 0, none⟩ = some (.int .i64 1) := BB.out.cell 0
  have d1 : w1.cell? ⟨w.heap.size, 1, none⟩ = some (.int .i64 nn) := BB.out.cell 1
  clear x1
  go_wp2_with (fail)
  go_ret2
  exact ⟨rfl, X1.out⟩
set_option maxRecDepth 100000 in
set_option maxHeartbeats 1000000 in
theorem rcost_perm (i : InstP) (us : List Value) (P : Option Addr) (c : Nat) (x : List Int) (w : World) (H : RInst w us i) (hc : checkP i = 0) (hk : i.kind ≠ 1) (hP : RdI w P x) (hno : permB x i.cost.length = false ∨ permB x i.cost.length = true ∧ i.kind = 3 ∧ x[0]? ≠ some 0) :
    Calls Try.prog 30 #[.agg (List.toArray us), .slice P x.length c] w fun e w' => e = .returned (.tuple #[.int .i64 0, .int .i64 1]) ∧ Ext w w' := by
  have CH := fun (W : World) (x : Ext w W) => rcheck_any i us W (H.ext x)
  rw [hc] at CH
  have sq := square_ok hc hk
  have rok := rows_ok sq
  have n1 := rok.n1
  have hin : i.n = (i.cost.length : Int) := sq.len.symm
  have PG := fun (W : World) (y : Ext w W) => perm_gen P c i.cost.length x W (hP.ext y) (by have := rok.n2; omega)
  have LX : permB x i.cost.length = true → x.length = i.cost.length := fun h => by
    obtain ⟨l, rfl, hl⟩ := permB_iff.1 h
    rw [intsN_len, hl.length_eq, List.length_range]
  clear sq rok
  obtain ⟨kind, nn, cap, xw, xv, co⟩ := i
  obtain ⟨A, a, B, b, D, d, rfl, -, -, -⟩ := H
  simp only at *
  subst hin
  have e1 : (kind != 1) = true := by simpa using hk
  have B1 : Hid (Blk (w.alloc (.cells #[.int .i64 kind, .int .i64 co.length, .int .i64 cap, .slice A xw.length a, .slice B xv.length b, .slice D co.length d] 61)) w.heap.size 61 #[.int .i64 kind, .int .i64 co.length, .int .i64 cap, .slice A xw.length a, .slice B xv.length b, .slice D co.length d]) := .new rfl
  replace CH := Lib.hid CH
  replace PG := Lib.hid PG
  replace hP := Lib.hid hP
  replace LX := Lib.hid LX
  clear hc
  go_enter Try.func30, Try.ntmps30
  go_wp2_with (fail)
  refine (CH.out _ (by (repeat (first | assumption | exact Ext.rf _ | apply Ext.drew | apply Ext.drewN | apply Ext.alloc)))).mono ?_
  rintro e w1 ⟨rfl, x1⟩
  have X1 := Lib.hid (Ext.tr (a := w) (by (repeat (first | assumption | exact Ext.rf _ | apply Ext.drew | apply Ext.drewN | apply Ext.alloc))) x1)
  have BB := Lib.hid (B1.out.ext x1)
  have d0 : w1.cell? ⟨w.heap.size, 0, none⟩ = some (.int .i64 kind) := BB.out.cell 0
  have d1 : w1.cell? ⟨w.heap.size, 1, none⟩ = some (.int .i64 co.length) := BB.out.cell 1
  clear x1
  rcases hno with hno | ⟨hyes, hk3, hx0⟩
  · rw [hno] at PG
    go_wp2_with (fail)
    refine (PG.out _ X1.out).mono ?_
    rintro e w2 ⟨rfl, x2⟩
    have X2 := Lib.hid (X1.out.tr x2)
    clear x2
    go_wp2_with (fail)
    go_ret2
    exact ⟨rfl, X2.out⟩
  · have hl := LX.out hyes
    obtain ⟨pb, po, x0, rfl, zp0, cp0, ep0, _⟩ := hP.out.at (k := 0) (by omega)
    have e0 : (x0 != 0) = true := by
      rw [bne_iff_ne]
      rintro rfl
      exact hx0 ep0.out
    replace cp0 : w.cell? ⟨pb, po, none⟩ = some (.int .i64 x0) := cp0
    have e3 : (kind == 3) = true := by simpa using hk3
    have q0 : (0 : Int) < (x.length : Int) := by omega
    rw [hyes] at PG
    replace hk3 := Lib.hid hk3
    replace hl := Lib.hid hl
    clear hx0 ep0
    go_wp2_with (fail)
    refine (PG.out _ X1.out).mono ?_
    rintro e w2 ⟨rfl, x2⟩
    have X2 := Lib.hid (X1.out.tr x2)
    have u0 : w2.cell? ⟨w.heap.size, 0, none⟩ = some (.int .i64 kind) := (BB.out.ext x2).cell 0
    have u1 : w2.cell? ⟨pb, po, none⟩ = some (.int .i64 x0) := keepEL X2.out zp0 cp0
    clear x2 d0 d1
    go_wp2_with (fail)
    go_ret2
    exact ⟨rfl, X2.out⟩
/-- what an answer costs, or why it is none -/
def costG (i : InstP) (x : List Int) : Int × Int :=
  if checkP i ≠ 0 then (0, checkP i)
  else if i.kind = 1 then (if (x.length : Int) = i.n ∧ ∀ v ∈ x, v = 0 ∨ v = 1 then costP i.cap i.weight i.value x else (0, 1))
  else if permB x i.cost.length = true ∧ (i.kind = 3 → x[0]? = some 0) then (if i.kind = 2 then costF i.cost x else pathT i.cost 0 (x.tail.map Int.toNat), 0) else (0, 1)
theorem rcost_gen (i : InstP) (us : List Value) (P : Option Addr) (c : Nat) (x : List Int) (w : World) (H : RInst w us i) (hP : RdI w P x) :
    Calls Try.prog 30 #[.agg (List.toArray us), .slice P x.length c] w fun e w' => e = .returned (.tuple #[.int .i64 (costG i x).1, .int .i64 (costG i x).2]) ∧ Ext w w' := by
  unfold costG
  by_cases hc : checkP i = 0
  · rw [if_neg (by simpa using hc)]
    by_cases hk : i.kind = 1
    · rw [if_pos hk]
      by_cases hl : (x.length : Int) = i.n
      · by_cases h01 : ∀ v ∈ x, v = 0 ∨ v = 1
        · rw [if_pos ⟨hl, h01⟩]
          exact rcost_any i us P c x w H hc hk hP hl h01
        · rw [if_neg (fun h => h01 h.2)]
          exact rcost_wrong i us P c x w H hc hk hP hl h01
      · rw [if_neg (fun h => hl h.1)]
        exact rcost_len i us P c x.length w H hc hk hl
    · rw [if_neg hk]
      by_cases hp : permB x i.cost.length = true
      · obtain ⟨l, rfl, hl⟩ := permB_iff.1 hp
        have hll : l.length = i.cost.length := by rw [hl.length_eq, List.length_range]
        have hlen : (intsN l).length = i.cost.length := by rw [intsN_len, hll]
        have n1 := (rows_ok (square_ok hc hk)).n1
        rcases check_kind hc with h | h | h
        · exact absurd h hk
        · rw [if_pos ⟨hp, fun h3 => by omega⟩, if_pos h, hlen]
          exact cost2_any i us P c l w H hc h hP hl
        · by_cases h0 : (intsN l)[0]? = some 0
          · rw [if_pos ⟨hp, fun _ => h0⟩, if_neg (by omega), hlen]
            cases l with
            | nil => simp at hll; omega
            | cons a q =>
              obtain rfl : a = 0 := by
                simp [intsN] at h0
                omega
              have e : (intsN (0 :: q)).tail.map Int.toNat = q := by
                simp [intsN, Function.comp_def]
              rw [e]
              exact cost3_any i us P c q w H hc h hP hl
          · rw [if_neg (fun h9 => h0 (h9.2 h))]
            exact rcost_perm i us P c _ w H hc hk hP (.inr ⟨hp, h, h0⟩)
      · rw [if_neg (fun h => hp h.1)]
        exact rcost_perm i us P c x w H hc hk hP (.inl (by simpa using hp))
  · rw [if_pos hc]
    exact rcost_bad i us _ w H hc
end Go.Proofs.Ytcpadkaljnnieaa
namespace Go.Proofs.Ytcpadkaljnnieaa

theorem leftL_cons (x v : Int) (p vs : List Int) : leftL (x :: p) (v :: vs) = (if x = 1 then 0 else v) + leftL p vs := by simp [leftL, sumL]
theorem takenL_cons (x w : Int) (p ws : List Int) : takenL (x :: p) (w :: ws) = (if x = 1 then w else 0) + takenL p ws := by simp [takenL, sumL]
theorem bestP_low : ∀ (ws vs p : List Int) (room out : Int), p.length = ws.length → ws.length = vs.length → (∀ x ∈ p, x = 0 ∨ x = 1) → (∀ w ∈ ws, 0 ≤ w) → takenL p ws ≤ room → bestP room out ws vs ≤ out + leftL p vs
  | [], [], p, room, out, h, _, _, _, _ => by
    have : p = [] := List.eq_nil_of_length_eq_zero (by simpa using h)
    subst this
    simp [bestP, leftL, sumL]
  | [], _ :: _, _, _, _, _, h, _, _, _ => by simp at h
  | _ :: _, [], _, _, _, _, h, _, _, _ => by simp at h
  | _ :: _, _ :: _, [], _, _, h, _, _, _, _ => by simp at h
  | w :: ws, v :: vs, x :: p, room, out, h1, h2, h3, h4, h5 => by
    rw [takenL_cons] at h5
    rw [leftL_cons]
    have hw := h4 w (by simp)
    have hp : 0 ≤ takenL p ws := by
      unfold takenL
      refine sumL_nonneg fun z hz => ?_
      obtain ⟨k, hk, rfl⟩ := List.mem_iff_getElem.1 hz
      rw [List.getElem_zipWith]
      have := h4 _ (List.mem_cons_of_mem _ (List.getElem_mem (show k < ws.length by simp at hk; omega)))
      split <;> omega
    have i0 := bestP_low ws vs p room (out + v) (by simpa using h1) (by simpa using h2) (fun y hy => h3 y (by simp [hy])) (fun y hy => h4 y (by simp [hy]))
    have i1 := bestP_low ws vs p (room - w) out (by simpa using h1) (by simpa using h2) (fun y hy => h3 y (by simp [hy])) (fun y hy => h4 y (by simp [hy]))
    rcases h3 x (by simp) with rfl | rfl
    · rw [if_neg (show ¬ (0 : Int) = 1 by decide)] at h5 ⊢
      have := i0 (by omega)
      unfold bestP
      split
      · split <;> omega
      · omega
    · rw [if_pos rfl] at h5 ⊢
      have := i1 (by omega)
      unfold bestP
      rw [if_pos (show w ≤ room by omega)]
      split <;> omega
theorem bestP_at : ∀ (ws vs : List Int) (room out : Int), ws.length = vs.length → 0 ≤ room → ∃ p : List Int, p.length = ws.length ∧ (∀ x ∈ p, x = 0 ∨ x = 1) ∧ takenL p ws ≤ room ∧ bestP room out ws vs = out + leftL p vs
  | [], [], room, out, _, h0 => ⟨[], rfl, by simp, by simpa [takenL, sumL] using h0, by simp [bestP, leftL, sumL]⟩
  | [], _ :: _, _, _, h, _ => by simp at h
  | _ :: _, [], _, _, h, _ => by simp at h
  | w :: ws, v :: vs, room, out, h, h0 => by
    obtain ⟨p0, a1, a2, a3, a4⟩ := bestP_at ws vs room (out + v) (by simpa using h) h0
    have no : ∃ p : List Int, p.length = (w :: ws).length ∧ (∀ x ∈ p, x = 0 ∨ x = 1) ∧ takenL p (w :: ws) ≤ room ∧ bestP room (out + v) ws vs = out + leftL p (v :: vs) :=
      ⟨0 :: p0, by simp [a1], fun x hx => by
        rcases List.mem_cons.1 hx with h | h
        · exact .inl h
        · exact a2 x h, by rw [takenL_cons, if_neg (by decide)]; omega, by rw [leftL_cons, if_neg (by decide)]; omega⟩
    unfold bestP
    by_cases hw : w ≤ room
    · rw [if_pos hw]
      obtain ⟨p1, b1, b2, b3, b4⟩ := bestP_at ws vs (room - w) out (by simpa using h) (by omega)
      split
      · exact no
      · exact ⟨1 :: p1, by simp [b1], fun x hx => by
          rcases List.mem_cons.1 hx with h | h
          · exact .inr h
          · exact b2 x h, by rw [takenL_cons, if_pos rfl]; omega, by rw [leftL_cons, if_pos rfl]; omega⟩
    · rw [if_neg hw]
      exact no
theorem sum_order (f : Int → Int → Int) {l : List Nat} {n : Nat} (hp : l.Perm (List.range n)) {y w : List Int} (ly : y.length = n) (lw : w.length = n) : sumL (List.zipWith f (inOrder l y) (inOrder l w)) = sumL (List.zipWith f y w) := by
  rw [sumZip_range f y w (by omega), ly, ← sumL_perm (hp.map _)]
  unfold inOrder
  rw [List.zipWith_map]
  congr 1
  apply List.ext_getElem
  · simp
  · intro k h1 h2
    simp
/-- the value of the document's Best of nothing -/
def bestI (i : InstP) : Int := if i.kind = 1 then best1 i.cap i.weight i.value i.n.toNat [] else bxI i []
theorem bx_best {i : InstP} (hc : checkP i = 0) : bxI i [] = bestI i := by
  unfold bestI
  by_cases h : i.kind = 1
  · rw [if_pos h]
    have ok := knap_ok hc h
    obtain ⟨f1, f2, f3, f4, f5⟩ := knap_facts ok
    have hv : ∀ x ∈ i.value, 0 ≤ x := fun x hx => (ok.sv x hx).1
    have hn : i.weight.length = i.n.toNat := by have := ok.w; omega
    have hnv : i.value.length = i.n.toNat := by have := ok.v; omega
    have hperm : (orderP i).Perm (List.range i.n.toNat) := by
      have := ratioP_perm i.value i.weight
      rw [hnv] at this
      exact this
    have hwl : (wsP i).length = i.n.toNat := by omega
    obtain ⟨L1, L2⟩ := best1_law (cap := i.cap) (ws := i.weight) (n := i.n.toNat) hv i.n.toNat [] (by simp) (by simp)
    have e : bxI i [] = bestP i.cap 0 (wsP i) (vsP i) := by
      unfold bxI
      rw [if_pos h]
      unfold bestAt
      have : stP i.cap 0 (wsP i) (vsP i) [] = some (i.cap, 0) := by cases wsP i <;> cases vsP i <;> rfl
      rw [this]
      rfl
    rw [e]
    obtain ⟨p, p1, p2, p3, p4⟩ := bestP_at (wsP i) (vsP i) i.cap 0 f1 ok.cap.1
    have T := sumZip_order (fun x w => if x = 1 then w else 0) hperm (p := p) (w := i.weight) (by omega) hn
    have V := sumZip_order (fun x w => if x = 1 then 0 else w) hperm (p := p) (w := i.value) (by omega) hnv
    have E1 : ExtB i.n.toNat [] (ansP (orderP i) p i.n.toNat) := ⟨⟨_, rfl⟩, by rw [ansP_len, hperm.length_eq, List.length_range], ansP_01 p2 _⟩
    have T' : takenL (ansP (orderP i) p i.n.toNat) i.weight = takenL p (wsP i) := T
    have V' : leftL (ansP (orderP i) p i.n.toNat) i.value = leftL p (vsP i) := V
    have B1 := L2 _ E1 (by omega)
    rw [V'] at B1
    have low : ∀ y, ExtB i.n.toNat [] y → takenL y i.weight ≤ i.cap → bestP i.cap 0 (wsP i) (vsP i) ≤ leftL y i.value := fun y hy ht => by
      have t1 := sum_order (fun x w => if x = 1 then w else 0) hperm (y := y) (w := i.weight) hy.2.1 hn
      have t2 := sum_order (fun x w => if x = 1 then 0 else w) hperm (y := y) (w := i.value) hy.2.1 hnv
      have h01 : ∀ x ∈ inOrder (orderP i) y, x = 0 ∨ x = 1 := fun x hx => by
        obtain ⟨k, hk, rfl⟩ := List.mem_map.1 hx
        have : k < y.length := by rw [hy.2.1]; exact List.mem_range.1 (hperm.mem_iff.1 hk)
        rw [List.getD, List.getElem?_eq_getElem this]
        exact hy.2.2 _ (List.getElem_mem this)
      have t1' : takenL (inOrder (orderP i) y) (wsP i) = takenL y i.weight := t1
      have t2' : leftL (inOrder (orderP i) y) (vsP i) = leftL y i.value := t2
      have := bestP_low (wsP i) (vsP i) (inOrder (orderP i) y) i.cap 0 (by rw [inOrder_len]; have := hperm.length_eq; rw [List.length_range] at this; omega) f1 h01 f3 (by omega)
      omega
    rcases L1 with L1 | ⟨y, y1, y2, y3⟩
    · omega
    · have := low y y1 y2
      omega
  · rw [if_neg h]
/-- no answer costs less -/
theorem best_low {i : InstP} (hc : checkP i = 0) {x : List Int} (hx : (costG i x).2 = 0) : bestI i ≤ (costG i x).1 := by
  have e0 : (costG i x).2 = 0 := hx
  unfold costG at hx ⊢
  rw [if_neg (by simpa using hc)] at hx ⊢
  by_cases h : i.kind = 1
  · rw [if_pos h] at hx ⊢
    have ok := knap_ok hc h
    split at hx
    · rename_i hx1
      rw [if_pos hx1]
      unfold costP at hx ⊢
      split at hx
      · simp at hx
      · rename_i hcap
        rw [if_neg hcap]
        unfold bestI
        rw [if_pos h]
        have hv : ∀ x ∈ i.value, 0 ≤ x := fun x hx => (ok.sv x hx).1
        obtain ⟨_, L2⟩ := best1_law (cap := i.cap) (ws := i.weight) (n := i.n.toNat) hv i.n.toNat [] (by simp) (by simp)
        exact (L2 x ⟨⟨x, rfl⟩, by omega, hx1.2⟩ (by omega)).2
    · simp at hx
  · rw [if_neg h] at hx ⊢
    have sq := square_ok hc h
    have rok := rows_ok sq
    split at hx
    · rename_i hx1
      rw [if_pos hx1]
      unfold bestI bxI
      rw [if_neg h, if_neg h]
      obtain ⟨l, rfl, hl⟩ := permB_iff.1 hx1.1
      by_cases h2 : i.kind = 2
      · rw [if_pos h2, if_pos h2]
        have := bestA_le rok.n2 (fun row hr c hc => (rok.get hr hc).1) i.cost.length [] _ freeP_root (by simp) l (by rw [memsM_full (by have := rok.n2; omega)]; exact hl)
        simpa using this
      · rw [if_neg h2, if_neg h2]
        have h3 : i.kind = 3 := by rcases check_kind hc with h | h | h <;> omega
        obtain ⟨a, q, rfl⟩ : ∃ a q, l = a :: q := by
          cases l with
          | nil => have := hx1.2 h3; simp [intsN] at this
          | cons a q => exact ⟨a, q, rfl⟩
        have ha : a = 0 := by
          have := hx1.2 h3
          simp [intsN] at this
          omega
        subst ha
        obtain ⟨l0, W⟩ := walk_ok rok.n1 rok.n2 (walkP_root (rows := i.cost))
        have hl0 : l0 = [] := by
          have := W.eq
          cases l0 with
          | nil => rfl
          | cons a b => simp [intsN] at this
        subst hl0
        have hq : q.Perm (memsM (restM i.cost.length)) := by
          refine (List.perm_ext_iff_of_nodup ?_ ((memsM_sorted _).imp fun h => Nat.ne_of_lt h)).2 fun c => ?_
          · have := hl.nodup_iff.2 List.nodup_range
            exact (List.nodup_cons.1 this).2
          · have nd := hl.nodup_iff.2 List.nodup_range
            have n0 := (List.nodup_cons.1 nd).1
            rw [W.rest c]
            have m := hl.mem_iff (a := c)
            rw [List.mem_range, List.mem_cons] at m
            constructor
            · intro hq
              exact ⟨⟨m.1 (.inr hq), fun e => n0 (e ▸ hq)⟩, by simp⟩
            · rintro ⟨⟨g1, g2⟩, _⟩
              rcases m.2 g1 with g | g
              · exact absurd g g2
              · exact g
        have := bestT_le rok.n1 rok.n2 (fun a b ha hb => (num_of rok a b ha hb).1) (i.cost.length - 1) [] _ _ _ [] walkP_root W (by simp) q hq
        rw [List.nil_append] at this
        have e2 : (intsN (0 :: q)).tail.map Int.toNat = q := by
          show (intsN q).map Int.toNat = q
          exact toNat_ints q
        rw [e2]
        simpa using this
    · simp at hx
end Go.Proofs.Ytcpadkaljnnieaa
namespace Go.Proofs.Ytcpadkaljnnieaa
open Go.RowKit Go.ChangeShapes Go.WideShapes Go.ChangeAt Go.Deep

theorem sum31 : ∀ {l : List Int}, Small31 l → 0 ≤ sumL l ∧ sumL l ≤ (l.length : Int) * 2147483647
  | [], _ => by simp [sumL]
  | x :: l, h => by
    have ih := sum31 (l := l) fun y hy => h y (by simp [hy])
    have h1 := h x (by simp)
    simp only [sumL, List.length_cons]
    omega
theorem sum31_take {l : List Int} (h : Small31 l) (k : Nat) : 0 ≤ sumL (l.take k) ∧ sumL (l.take k) ≤ (l.length : Int) * 2147483647 := by
  have h1 := sum31 (l := l.take k) fun y hy => h y (List.mem_of_mem_take hy)
  rw [List.length_take] at h1
  omega
theorem sumL_take_succ {l : List Int} {k : Nat} {x : Int} (h : l[k]? = some x) : sumL (l.take (k + 1)) = sumL (l.take k) + x := by
  rw [List.take_add_one, h, sumL_append]
  simp [sumL]
theorem leftL_in : ∀ (x vs : List Int), Small31 vs → 0 ≤ leftL x vs ∧ leftL x vs ≤ (vs.length : Int) * 2147483647
  | [], vs, _ => by
    simp only [leftL, List.zipWith_nil_left, sumL]
    omega
  | _ :: _, [], _ => by simp [leftL, sumL]
  | a :: x, v :: vs, h => by
    have ih := leftL_in x vs fun y hy => h y (by simp [hy])
    have h1 := h v (by simp)
    simp only [leftL, List.zipWith_cons_cons, sumL, List.length_cons] at *
    split <;> omega
/-- what a cost is worth -/
def ofG (i : InstP) (c : Int) : Int := if i.kind = 1 then sumL i.value - c else c
set_option maxRecDepth 100000 in
set_option maxHeartbeats 1000000 in
theorem rtotal_any (i : InstP) (us : List Value) (w : World) (H : RInst w us i) (hc : checkP i = 0) (hk : i.kind = 1) :
    Calls Try.prog 66 #[.agg (List.toArray us)] w fun e w' => e = .returned (.int .i64 (sumL i.value)) ∧ Ext w w' := by
  have ok := knap_ok hc hk
  have CH := fun (W : World) (x : Ext w W) => rcheck_any i us W (H.ext x)
  rw [hc] at CH
  have k2 := ok.n2
  have k3 := ok.v
  have k1 := ok.n1
  have T1 : Hid (∀ k v, i.value[k]? = some v → sumL (i.value.take (k + 1)) = sumL (i.value.take k) + v) := fun k v h => sumL_take_succ h
  have TB := Lib.hid (sum31_take ok.sv)
  have hs := Lib.hid ok.sv
  clear ok hc
  obtain ⟨kind, nn, cap, xw, xv, co⟩ := i
  obtain ⟨A, a, B, b, D, d, rfl, -, ⟨rB, -⟩, -⟩ := H
  simp only at *
  subst hk
  obtain ⟨n, rfl⟩ : ∃ n : Nat, nn = (n : Int) := ⟨nn.toNat, by omega⟩
  have lv : xv.length = n := by omega
  have B1 : Hid (Blk (w.alloc (.cells #[.int .i64 1, .int .i64 n, .int .i64 cap, .slice A xw.length a, .slice B xv.length b, .slice D co.length d] 61)) w.heap.size 61 #[.int .i64 1, .int .i64 n, .int .i64 cap, .slice A xw.length a, .slice B xv.length b, .slice D co.length d]) := .new rfl
  have hn2 : n ≤ 64 := by omega
  replace lv := Lib.hid lv
  replace CH := Lib.hid CH
  replace rB := Lib.hid rB
  clear k3 k1 k2
  go_enter Try.func66, Try.ntmps66
  go_wp2_with (fail)
  refine (CH.out _ (by (repeat (first | assumption | exact Ext.rf _ | apply Ext.drew | apply Ext.drewN | apply Ext.alloc)))).mono ?_
  rintro e w1 ⟨rfl, x1⟩
  have X1 := Lib.hid (Ext.tr (a := w) (by (repeat (first | assumption | exact Ext.rf _ | apply Ext.drew | apply Ext.drewN | apply Ext.alloc))) x1)
  have BB := Lib.hid (B1.out.ext x1)
  clear x1 B1
  go_wp2_with (fail)
  go_loopw [3, 4] (fun a i wr => ∃ k : Nat, i = .int .i64 k ∧ a = .int .i64 (sumL (xv.take k)) ∧ k ≤ n ∧ Hid (Ext w1 wr)) (fun _ i _ => n - (intOf i).toNat)
  case atStart => exact ⟨0, rfl, rfl, by omega, Ext.rf _⟩
  case round =>
    obtain ⟨wo, rfl⟩ : ∃ wo : World, wo = wr := ⟨_, rfl⟩
    obtain ⟨k, rfl, rfl, hk, Y⟩ := hrel
    have b9 := BB.out.ext Y.out
    have d0 : wo.cell? ⟨w.heap.size, 0, none⟩ = some (.int .i64 1) := b9.cell 0
    have d1 : wo.cell? ⟨w.heap.size, 1, none⟩ = some (.int .i64 n) := b9.cell 1
    have d4 : wo.cell? ⟨w.heap.size, 4, none⟩ = some (.slice B xv.length b) := b9.cell 4
    clear b9
    by_cases hlt : k < n
    · obtain ⟨pb, po, y, rfl, zy, cy, ey, _⟩ := (rB.out.ext (X1.out.tr Y.out)).at (k := k) (by rw [lv.out]; exact hlt)
      have S := Lib.hid (T1.out k y ey.out)
      have b1 := TB.out k
      have b2 := hs.out.get ey.out
      have q2 : (k : Int) < (xv.length : Int) := by rw [lv.out]; omega
      have b3 : (xv.length : Int) ≤ 64 := by rw [lv.out]; omega
      generalize sumL (xv.take k) = tk at *
      have w1' : IntKind.i64.wrap (tk + y) = tk + y := IntWalk.i64_in _ (by omega)
      have q1 : (k : Int) < (n : Int) := by omega
      clear ey b1 b2 b3
      go_wp2_with (go_quiet (fail))
      go_roundw
      case rel => exact ⟨k + 1, by go_num, by rw [S.out], by omega, by have Y' := Y.out; repeat (first | exact Y' | apply Ext.drewN)⟩
      case measure => simp [intOf]; omega
    · obtain rfl : k = n := by omega
      have lz : xv.take k = xv := List.take_of_length_le (by rw [lv.out]; omega)
      rw [lz]
      clear lz
      go_wp2_with (fail)
      go_ret
      exact ⟨rfl, X1.out.tr Y.out⟩
set_option maxRecDepth 100000 in
theorem rof_any (i : InstP) (us : List Value) (w : World) (c : Int) (H : RInst w us i) (hc : checkP i = 0) (hb : i.kind = 1 → 0 ≤ c ∧ c ≤ (i.value.length : Int) * 2147483647) :
    Calls Try.prog 34 #[.agg (List.toArray us), .int .i64 c] w fun e w' => e = .returned (.int .i64 (ofG i c)) ∧ Ext w w' := by
  by_cases hk : i.kind = 1
  · have ok := knap_ok hc hk
    have k1 := ok.v
    have k2 := ok.n2
    have TT : ∀ (W : World), Ext w W → Calls Try.prog 66 #[.agg (List.toArray us)] W fun e w' => e = .returned (.int .i64 (sumL i.value)) ∧ Ext W w' := fun W h => rtotal_any i us W (H.ext h) hc hk
    have b1 := sum31 ok.sv
    have b2 := hb hk
    unfold ofG
    rw [if_pos hk]
    clear ok hc hb
    obtain ⟨kind, nn, cap, xw, xv, co⟩ := i
    obtain ⟨A, a, B, b, D, d, rfl, -, -, -⟩ := H
    simp only at *
    subst hk
    generalize sumL xv = sv at *
    have w1 : IntKind.i64.wrap (sv - c) = sv - c := IntWalk.i64_in _ (by omega)
    replace TT := Lib.hid TT
    clear b1 b2 k1
    go_enter Try.func34, Try.ntmps34
    go_wp2_with (fail)
    refine (TT.out _ (by (repeat (first | assumption | exact Ext.rf _ | apply Ext.drew | apply Ext.drewN | apply Ext.alloc)))).mono ?_
    rintro e w1 ⟨rfl, x1⟩
    have X1 := Lib.hid (Ext.tr (a := w) (by (repeat (first | assumption | exact Ext.rf _ | apply Ext.drew | apply Ext.drewN | apply Ext.alloc))) x1)
    clear x1
    go_wp2_with (fail)
    go_ret
    exact ⟨rfl, X1.out⟩
  · unfold ofG
    rw [if_neg hk]
    obtain ⟨kind, nn, cap, xw, xv, co⟩ := i
    obtain ⟨A, a, B, b, D, d, rfl, -, -, -⟩ := H
    simp only at *
    have e1 : (kind == 1) = false := by simpa using hk
    clear hc hb hk
    go_enter Try.func34, Try.ntmps34
    go_wp2_with (fail)
    go_ret
    exact ⟨rfl, by (repeat (first | assumption | exact Ext.rf _ | apply Ext.drew | apply Ext.drewN | apply Ext.alloc))⟩
end Go.Proofs.Ytcpadkaljnnieaa
namespace Go.Proofs.Ytcpadkaljnnieaa

theorem perm_walk {x : List Int} {n : Nat} (hl : x.length = n) : permB x n = true ↔ ∀ (k : Nat) (v : Int), x[k]? = some v → (0 ≤ v ∧ v < (n : Int)) ∧ (x.take k).contains v = false := by
  rw [permB_iff]
  constructor
  · rintro ⟨l, rfl, hp⟩ k v hv
    have nd := hp.nodup_iff.2 List.nodup_range
    unfold intsN at hv
    rw [List.getElem?_map] at hv
    obtain ⟨a, ha, rfl⟩ := Option.map_eq_some_iff.1 hv
    have hk := (List.getElem?_eq_some_iff.1 ha).1
    have ham := List.mem_range.1 (hp.mem_iff.1 (List.mem_of_getElem? ha))
    refine ⟨by omega, ?_⟩
    have e : (intsN l).take k = intsN (l.take k) := by unfold intsN; rw [List.map_take]
    rw [e]
    cases hc : (intsN (l.take k)).contains (a : Int) with
    | false => rfl
    | true =>
      have hm := contains_ints.1 hc
      obtain ⟨j, hj, ej⟩ := List.getElem_of_mem hm
      rw [List.length_take] at hj
      rw [List.getElem_take] at ej
      have := (List.nodup_iff_pairwise_ne.1 nd)
      have h2 := List.pairwise_iff_getElem.1 this j k (by omega) hk (by omega)
      rw [ej] at h2
      have h3 := (List.getElem?_eq_some_iff.1 ha).2
      exact absurd h3.symm h2
  · intro h
    have hn : ∀ v ∈ x, 0 ≤ v ∧ v < (n : Int) := fun v hv => by
      obtain ⟨k, hk, rfl⟩ := List.getElem_of_mem hv
      exact (h k _ (List.getElem?_eq_getElem hk)).1
    have nd : x.Pairwise (· ≠ ·) := by
      rw [List.pairwise_iff_getElem]
      intro a b ha hb hab e
      have := (h b _ (List.getElem?_eq_getElem hb)).2
      have hm : x[b] ∈ x.take b := by
        rw [← e, List.mem_take_iff_getElem]
        exact ⟨a, by omega, rfl⟩
      rw [← List.contains_iff_mem] at hm
      rw [hm] at this
      cases this
    have ex : x = intsN (x.map Int.toNat) := by
      unfold intsN
      rw [List.map_map]
      refine (List.map_id x).symm.trans (List.map_congr_left fun v hv => ?_)
      have := hn v hv
      simp only [id, Function.comp]
      omega
    refine ⟨x.map Int.toNat, ex, ?_⟩
    have sub : ∀ v ∈ x, v ∈ intsN (List.range n) := fun v hv => by
      have := hn v hv
      exact List.mem_map.2 ⟨v.toNat, List.mem_range.2 (by omega), by omega⟩
    have P := (perm_of_sub (List.nodup_iff_pairwise_ne.2 nd) sub (by rw [intsN_len, List.length_range, hl])).map Int.toNat
    rwa [toNat_ints] at P
theorem taken_left : ∀ (x vs : List Int), x.length = vs.length → takenL x vs = sumL vs - leftL x vs
  | [], [], _ => by simp [takenL, leftL, sumL]
  | [], _ :: _, h => by simp at h
  | _ :: _, [], h => by simp at h
  | a :: x, v :: vs, h => by
    have ih := taken_left x vs (by simpa using h)
    unfold takenL leftL at *
    simp only [List.zipWith_cons_cons, sumL]
    split <;> omega
end Go.Proofs.Ytcpadkaljnnieaa
