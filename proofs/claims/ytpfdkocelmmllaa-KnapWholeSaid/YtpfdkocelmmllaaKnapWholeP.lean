/-
  A knapsack's beginnings as a tree, plainly: which whole ones are behind a beginning, each once; how many there are.
-/
import Derived.Test.YtpfdkocelmmllaaPlainK
import Derived.Test.YtpfdkocelmmllaaTreePlain
namespace Go.Proofs.Ytpfdkocelmmllaa

/-- what may follow, to the end -/
def sufsP (room : Int) : List Int → List (List Int)
  | [] => [[]]
  | w :: ws => (sufsP room ws).map (fun s => 0 :: s) ++ if w ≤ room then (sufsP (room - w) ws).map (fun s => 1 :: s) else []
/-- how many ways there are to take some of the weights -/
def cntP (room : Int) : List Int → Nat
  | [] => if room < 0 then 0 else 1
  | w :: ws => cntP room ws + cntP (room - w) ws
theorem cntP_neg : ∀ {ws : List Int} {room : Int}, (∀ x ∈ ws, 0 ≤ x) → room < 0 → cntP room ws = 0
  | [], _, _, h => by simp [cntP, h]
  | w :: ws, room, hw, h => by
    have h0 := hw w (by simp)
    have hw' : ∀ x ∈ ws, 0 ≤ x := fun x hx => hw x (by simp [hx])
    simp only [cntP]
    rw [cntP_neg hw' h, cntP_neg hw' (by omega)]
theorem sufsP_len : ∀ {ws : List Int} {room : Int}, 0 ≤ room → (∀ x ∈ ws, 0 ≤ x) → (sufsP room ws).length = cntP room ws
  | [], room, h, _ => by
    simp only [sufsP, cntP]
    rw [if_neg (by omega)]
    rfl
  | w :: ws, room, h, hw => by
    have hw' : ∀ x ∈ ws, 0 ≤ x := fun x hx => hw x (by simp [hx])
    simp only [sufsP, cntP, List.length_append, List.length_map]
    rw [sufsP_len h hw']
    split
    · rename_i hle
      rw [List.length_map, sufsP_len (by omega) hw']
    · rename_i hle
      rw [cntP_neg (ws := ws) (room := room - w) hw' (by omega)]
      rfl
theorem cntP_perm {a b : List Int} (h : a.Perm b) : ∀ room, cntP room a = cntP room b := by
  induction h with
  | nil => exact fun _ => rfl
  | cons x _ ih => intro room; simp only [cntP, ih]
  | swap x y l =>
    intro room
    simp only [cntP]
    rw [show room - x - y = room - y - x by omega]
    omega
  | trans _ _ h1 h2 => exact fun room => (h1 room).trans (h2 room)
theorem sufsP_pos : ∀ (ws : List Int) (room : Int), 0 < (sufsP room ws).length
  | [], _ => by simp [sufsP]
  | w :: ws, room => by
    have := sufsP_pos ws room
    simp only [sufsP, List.length_append, List.length_map]
    omega
theorem sufsP_le : ∀ (ws : List Int) (room : Int), (sufsP room ws).length ≤ 2 ^ ws.length
  | [], _ => by simp [sufsP]
  | w :: ws, room => by
    have h1 := sufsP_le ws room
    have h2 := sufsP_le ws (room - w)
    simp only [sufsP, List.length_append, List.length_map, List.length_cons, Nat.pow_succ]
    split
    · rw [List.length_map]; omega
    · simp; omega
theorem nodup_cons_map {x : Int} {l : List (List Int)} (h : l.Nodup) : (l.map (fun s => x :: s)).Nodup := by
  refine List.Pairwise.map _ (fun a b hab he => hab ?_) h
  injection he
theorem sufsP_nodup : ∀ (ws : List Int) (room : Int), (sufsP room ws).Nodup
  | [], _ => by simp [sufsP]
  | w :: ws, room => by
    unfold sufsP
    rw [List.nodup_append]
    refine ⟨nodup_cons_map (sufsP_nodup ws room), ?_, ?_⟩
    · split
      · exact nodup_cons_map (sufsP_nodup ws (room - w))
      · exact List.nodup_nil
    · intro a ha b hb
      obtain ⟨s, _, rfl⟩ := List.mem_map.1 ha
      split at hb
      · obtain ⟨t, _, rfl⟩ := List.mem_map.1 hb
        simp
      · cases hb
theorem sufsP_lens : ∀ (ws : List Int) (room : Int), ∀ s ∈ sufsP room ws, s.length = ws.length
  | [], _, s, h => by simp [sufsP] at h; simp [h]
  | w :: ws, room, s, h => by
    unfold sufsP at h
    rcases List.mem_append.1 h with h | h
    · obtain ⟨t, ht, rfl⟩ := List.mem_map.1 h
      simp [sufsP_lens ws room t ht]
    · split at h
      · obtain ⟨t, ht, rfl⟩ := List.mem_map.1 h
        simp [sufsP_lens ws _ t ht]
      · cases h
/-- the whole beginnings behind one -/
def leavesP (cap : Int) (ws vs p : List Int) : List (List Int) := match stP cap 0 ws vs p with
  | none => []
  | some (r, _) => (sufsP r (ws.drop p.length)).map (fun s => p ++ s)
section
variable {cap : Int} {ws vs p : List Int} {r o : Int}
theorem leavesP_of (h : stP cap 0 ws vs p = some (r, o)) : leavesP cap ws vs p = (sufsP r (ws.drop p.length)).map (fun s => p ++ s) := by unfold leavesP; rw [h]
theorem leavesP_pos (h : stP cap 0 ws vs p = some (r, o)) : 0 < (leavesP cap ws vs p).length := by
  rw [leavesP_of h, List.length_map]
  exact sufsP_pos _ _
theorem leavesP_whole (h : stP cap 0 ws vs p = some (r, o)) (hl : p.length = ws.length) : leavesP cap ws vs p = [p] := by
  rw [leavesP_of h, List.drop_of_length_le (by omega)]
  simp [sufsP]
/-- what may follow is behind it, and nothing else; each is a beginning -/
theorem leavesP_step (h : stP cap 0 ws vs p = some (r, o)) (h0 : 0 ≤ r) (hl : p.length < ws.length) (hlv : ws.length = vs.length) :
    leavesP cap ws vs p = (kidsP cap ws vs p).1.reverse.flatMap (fun x => leavesP cap ws vs (p ++ [x])) ∧ (∀ x ∈ (kidsP cap ws vs p).1, ∃ q, stP cap 0 ws vs (p ++ [x]) = some q) ∧ (kidsP cap ws vs p).1.length ≤ 2 ∧ (kidsP cap ws vs p).2 = 0 := by
  obtain ⟨w, ws', hw⟩ : ∃ w ws', ws.drop p.length = w :: ws' := ⟨_, _, List.drop_eq_getElem_cons hl⟩
  obtain ⟨v, vs', hv⟩ : ∃ v vs', vs.drop p.length = v :: vs' := ⟨_, _, List.drop_eq_getElem_cons (by omega)⟩
  have e := leavesP_of h
  rw [hw] at e
  have s0 := stP_snoc0 h hw hv h0
  have e0 := leavesP_of s0
  rw [drop_snoc hw] at e0
  unfold kidsP
  rw [h, e]
  simp only [hw]
  unfold sufsP
  split
  · rename_i hle
    have s1 := stP_snoc1 h hw hv hle
    have e1 := leavesP_of s1
    rw [drop_snoc hw] at e1
    refine ⟨?_, ?_, by simp, rfl⟩
    · simp [e0, e1, List.map_map, Function.comp_def]
    · intro x hx
      simp only [List.mem_cons, List.not_mem_nil, or_false] at hx
      rcases hx with rfl | rfl
      · exact ⟨_, s1⟩
      · exact ⟨_, s0⟩
  · refine ⟨?_, ?_, by simp, rfl⟩
    · simp [e0, List.map_map, Function.comp_def]
    · intro x hx
      simp only [List.mem_cons, List.not_mem_nil, or_false] at hx
      subst hx
      exact ⟨_, s0⟩
end
theorem leavesP_nil (cap : Int) (ws vs : List Int) : leavesP cap ws vs [] = sufsP cap ws := by
  rw [leavesP_of (r := cap) (o := 0) (by cases ws <;> cases vs <;> rfl)]
  simp
theorem inOrder_perm {l : List Nat} {w : List Int} (hp : l.Perm (List.range w.length)) : (inOrder l w).Perm w := by
  have h := hp.map fun n => w.getD n 0
  have e : ((List.range w.length).map fun n => w.getD n 0) = w := by
    apply List.ext_getElem
    · simp
    · intro k h1 h2
      simp [List.getD, List.getElem?_eq_getElem h2]
  rw [e] at h
  exact h
/-- the answers of two whole beginnings are two -/
theorem ansP_inj {l : List Nat} {n : Nat} (hp : l.Perm (List.range n)) {p q : List Int} (lp : p.length = n) (lq : q.length = n) (h : ansP l p n = ansP l q n) : p = q := by
  have hl : l.length = n := by rw [hp.length_eq, List.length_range]
  have hnd : l.Nodup := hp.nodup_iff.2 List.nodup_range
  have hlt : ∀ a ∈ l, a < l.length := fun a ha => by rw [hl]; exact List.mem_range.1 (hp.mem_iff.1 ha)
  apply List.ext_getElem (by omega)
  intro k h1 h2
  have e1 := ansP_at (p := p) hnd hlt n (by omega) k (by omega)
  have e2 := ansP_at (p := q) hnd hlt n (by omega) k (by omega)
  rw [h, e2] at e1
  have e3 := Option.some.inj e1
  simpa [List.getD, List.getElem?_eq_getElem h1, List.getElem?_eq_getElem h2] using e3.symm
/-- as many answers as ways, each once -/
theorem found_all {cap : Int} {l : List Nat} {w vs : List Int} (hp : l.Perm (List.range w.length)) (h0 : 0 ≤ cap) (hw : ∀ x ∈ w, 0 ≤ x) :
    ((leavesP cap (inOrder l w) vs []).map (fun p => ansP l p w.length)).Nodup ∧ (leavesP cap (inOrder l w) vs []).length = cntP cap w ∧ (leavesP cap (inOrder l w) vs []).length ≤ 2 ^ w.length := by
  have hl : l.length = w.length := by rw [hp.length_eq, List.length_range]
  have lo : (inOrder l w).length = w.length := by simp [inOrder, hl]
  have hw' : ∀ x ∈ inOrder l w, 0 ≤ x := fun x hx => hw x ((inOrder_perm hp).mem_iff.1 hx)
  rw [leavesP_nil]
  refine ⟨?_, ?_, ?_⟩
  · refine List.pairwise_map.2 (List.Pairwise.imp_of_mem (fun {a b} ha hb hab he => hab ?_) (sufsP_nodup (inOrder l w) cap))
    exact ansP_inj hp (by rw [sufsP_lens _ _ a ha, lo]) (by rw [sufsP_lens _ _ b hb, lo]) he
  · rw [sufsP_len h0 hw', cntP_perm (inOrder_perm hp)]
  · have := sufsP_le (inOrder l w) cap
    rwa [lo] at this
theorem cntP_le : ∀ (ws : List Int) (room : Int), cntP room ws ≤ 2 ^ ws.length
  | [], room => by simp only [cntP]; split <;> simp
  | w :: ws, room => by
    have h1 := cntP_le ws room
    have h2 := cntP_le ws (room - w)
    simp only [cntP, List.length_cons, Nat.pow_succ]
    omega
theorem takenL_snoc {x ws : List Int} {u v : Int} (h : ws[x.length]? = some u) : takenL (x ++ [v]) ws = takenL x ws + if v = 1 then u else 0 := by
  have h1 := sumZip_take (fun x w => if x = 1 then w else 0) x.length (x ++ [v]) ws (v := v) (u := u) (by simp) h
  have e1 : (x ++ [v]).take (x.length + 1) = x ++ [v] := List.take_of_length_le (by simp)
  have e2 : (x ++ [v]).take x.length = x := by simp
  rw [e1, e2] at h1
  exact h1
/-- the answers that begin so -/
def answersAt (cap : Int) (ws x : List Int) : Nat := cntP (cap - takenL x ws) (ws.drop x.length)
theorem answersAt_step {cap : Int} {ws x : List Int} (h : x.length < ws.length) : answersAt cap ws x = answersAt cap ws (x ++ [0]) + answersAt cap ws (x ++ [1]) := by
  unfold answersAt
  have hu : ws[x.length]? = some ws[x.length] := List.getElem?_eq_getElem h
  have hd : ws.drop x.length = ws[x.length] :: ws.drop (x.length + 1) := List.drop_eq_getElem_cons h
  rw [takenL_snoc hu, takenL_snoc hu, if_neg (by decide), if_pos rfl, hd]
  simp only [cntP, List.length_append, List.length_cons, List.length_nil, Int.add_zero, Nat.zero_add]
  congr 2
  omega
theorem answersAt_whole {cap : Int} {ws vs x : List Int} (h : x.length = ws.length) : answersAt cap ws x = if (costP cap ws vs x).2 = 0 then 1 else 0 := by
  unfold answersAt costP
  rw [List.drop_of_length_le (by omega)]
  simp only [cntP]
  by_cases hc : cap < takenL x ws
  · rw [if_pos (by omega), if_pos hc]; rfl
  · rw [if_neg (by omega), if_neg hc]; rfl
theorem answersAt_le (cap : Int) (ws x : List Int) : answersAt cap ws x ≤ 2 ^ ws.length := by
  refine Nat.le_trans (cntP_le _ _) (Nat.pow_le_pow_right (by omega) (by simp))
theorem answersAt_nil (cap : Int) (ws : List Int) : answersAt cap ws [] = cntP cap ws := by
  unfold answersAt takenL
  simp [sumL]
/-- the tree of a knapsack of few items -/
theorem tree_knap {cap : Int} {l : List Nat} {w v : List Int} (hp : l.Perm (List.range w.length)) (h0 : 0 ≤ cap) (hw : ∀ x ∈ w, 0 ≤ x) (hv : v.length = w.length) (h7 : w.length ≤ 11) :
    TreeP w.length (fun p => ∃ q, stP cap 0 (inOrder l w) (inOrder l v) p = some q) (fun p => (kidsP cap (inOrder l w) (inOrder l v) p).1) (leavesP cap (inOrder l w) (inOrder l v)) (fun p => ansP l p w.length) (cntP cap w) := by
  have hl : l.length = w.length := by rw [hp.length_eq, List.length_range]
  have lo : (inOrder l w).length = w.length := by simp [inOrder, hl]
  have lv : (inOrder l v).length = w.length := by simp [inOrder, hl]
  have hw' : ∀ x ∈ inOrder l w, 0 ≤ x := fun x hx => hw x ((inOrder_perm hp).mem_iff.1 hx)
  obtain ⟨f1, f2, f3⟩ := found_all (cap := cap) (vs := inOrder l v) hp h0 hw
  have hlen : ∀ {p}, (∃ q, stP cap 0 (inOrder l w) (inOrder l v) p = some q) → p.length ≤ w.length := by
    rintro p ⟨q, h⟩
    by_cases hlt : (inOrder l w).length < p.length
    · rw [stP_long hlt] at h; cases h
    · omega
  refine ⟨⟨(cap, 0), by cases inOrder l w <;> cases inOrder l v <;> rfl⟩, hlen, ?_, ?_, ?_, ?_, ?_, ?_, ?_, f2, f1⟩
  · rintro p ⟨⟨r, o⟩, h⟩
    exact leavesP_pos h
  · rintro p ⟨⟨r, o⟩, h⟩ hpl
    exact leavesP_whole h (by omega)
  · rintro p ⟨⟨r, o⟩, h⟩ hpl
    unfold kidsP
    rw [h]
    simp only
    rw [List.drop_of_length_le (by omega)]
  · rintro p ⟨⟨r, o⟩, h⟩ hpl
    exact (leavesP_step h (stP_room hw' h0 h).1 (by omega) (by omega)).1
  · rintro p ⟨⟨r, o⟩, h⟩ hpl
    exact (leavesP_step h (stP_room hw' h0 h).1 (by omega) (by omega)).2.1
  · rintro p ⟨⟨r, o⟩, h⟩ hpl
    have := (leavesP_step h (stP_room hw' h0 h).1 (by omega) (by omega)).2.2.1
    omega
  · have : 2 ^ w.length ≤ 2 ^ 11 := Nat.pow_le_pow_right (by omega) h7
    omega
theorem sufsP_ok : ∀ (ws vs : List Int) (room out : Int) (s : List Int), 0 ≤ room → ws.length = vs.length → s ∈ sufsP room ws → ∃ q, stP room out ws vs s = some q
  | [], _, room, out, s, _, _, h => by
    simp only [sufsP, List.mem_cons, List.not_mem_nil, or_false] at h
    subst h
    exact ⟨_, rfl⟩
  | _ :: _, [], _, _, _, _, h, _ => by simp at h
  | w :: ws, v :: vs, room, out, s, h0, hl, h => by
    have hl' : ws.length = vs.length := by simpa using hl
    unfold sufsP at h
    rcases List.mem_append.1 h with h | h
    · obtain ⟨t, ht, rfl⟩ := List.mem_map.1 h
      obtain ⟨q, hq⟩ := sufsP_ok ws vs room (out + v) t h0 hl' ht
      refine ⟨q, ?_⟩
      unfold stP
      rw [if_neg (by decide), if_pos rfl, if_neg (by omega)]
      exact hq
    · split at h
      · rename_i hle
        obtain ⟨t, ht, rfl⟩ := List.mem_map.1 h
        obtain ⟨q, hq⟩ := sufsP_ok ws vs (room - w) out t (by omega) hl' ht
        refine ⟨q, ?_⟩
        unfold stP
        rw [if_pos rfl, if_neg (by omega)]
        exact hq
      · cases h
end Go.Proofs.Ytpfdkocelmmllaa
