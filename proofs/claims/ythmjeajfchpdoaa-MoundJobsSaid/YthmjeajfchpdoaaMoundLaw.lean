/-
  Mounds, plain: what is put in stands in order; what is taken is the least; nothing is lost and nothing is made.
-/
import Derived.Test.YthmjeajfchpdoaaMoundD
namespace Go.Proofs.Ythmjeajfchpdoaa
open Go.RowKit

/-- a list's value is no more than another one's; a list of nothing is above all -/
def leL : List It → List It → Prop
  | _, [] => True
  | [], _ :: _ => False
  | p :: _, q :: _ => p.1 ≤ q.1
theorem leL.rf (a : List It) : leL a a := by cases a <;> simp [leL]
theorem leL.tr {a b c : List It} (h : leL a b) (k : leL b c) : leL a c := by
  cases c with
  | nil => simp [leL]
  | cons r c =>
    cases b with
    | nil => simp [leL] at k
    | cons q b =>
      cases a with
      | nil => simp [leL] at h
      | cons p a => simp only [leL] at *; omega
theorem leL.total (a b : List It) : leL a b ∨ leL b a := by
  cases a with
  | nil => right; simp [leL]
  | cons p a =>
    cases b with
    | nil => left; simp [leL]
    | cons q b => simp only [leL]; omega
theorem lessP_iff (ls : Ls) (i k : Nat) : lessP ls i k = true ↔ ¬ leL (ls.getD k []) (ls.getD i []) := by
  unfold lessP
  cases ls.getD i [] with
  | nil => simp [leL]
  | cons p l =>
    cases ls.getD k [] with
    | nil => simp [leL]
    | cons q m => simp [leL]
theorem lessP_no {ls : Ls} {i k : Nat} (h : lessP ls i k = false) : leL (ls.getD k []) (ls.getD i []) := by
  apply Classical.byContradiction
  intro hn
  rw [(lessP_iff ls i k).2 hn] at h
  cases h
theorem fitsP_iff (ls : Ls) (i : Nat) (key : Int) : fitsP ls i key = true ↔ leL [(key, 0)] (ls.getD i []) := by
  unfold fitsP
  cases ls.getD i [] with
  | nil => simp [leL]
  | cons p l => simp [leL]

def SortedL (l : List It) : Prop := l.Pairwise fun p q => p.1 ≤ q.1
/-- all lists rise but perhaps .. : no place's value is above one beneath -/
structure Ordered (ls : Ls) : Prop where
  sorted : ∀ i, SortedL (ls.getD i [])
  zero : ls.getD 0 [] = []
  heap : ∀ i, 2 ≤ i → leL (ls.getD (i / 2) []) (ls.getD i [])
theorem getD_set {ls : Ls} {i : Nat} (v : List It) (hi : i < ls.length) (j : Nat) : (ls.set i v).getD j [] = if j = i then v else ls.getD j [] := by
  simp only [List.getD_eq_getElem?_getD]
  by_cases h : j = i
  · subst h
    rw [if_pos rfl, List.getElem?_set_self hi]
    rfl
  · rw [if_neg h, List.getElem?_set_ne (Ne.symm h)]
theorem sorted_cons {x : It} {l : List It} (hs : SortedL l) (h : leL [(x.1, 0)] l) : SortedL (x :: l) := by
  refine List.pairwise_cons.2 ⟨fun q hq => ?_, hs⟩
  cases l with
  | nil => cases hq
  | cons p l =>
    have h1 : x.1 ≤ p.1 := h
    rcases List.mem_cons.1 hq with rfl | hq
    · exact h1
    · have := (List.pairwise_cons.1 hs).1 q hq
      omega
theorem leL_head {x : It} {l m : List It} (h : leL [(x.1, 0)] m) : leL (x :: l) m := by
  cases m with
  | nil => simp [leL]
  | cons q m => simpa [leL] using h
theorem leL_head' {x : It} {l m : List It} (h : leL m [(x.1, 0)]) : leL m (x :: l) := by
  cases m with
  | nil => simp [leL] at h
  | cons q m => simpa [leL] using h
theorem Ordered.put {ls : Ls} (h : Ordered ls) {i : Nat} {x : It} (hi : i < ls.length) (h1 : 1 ≤ i) (hf : fitsP ls i x.1 = true) (hp : 2 ≤ i → fitsP ls (i / 2) x.1 = false) : Ordered (ls.set i (x :: ls.getD i [])) := by
  have hf' := (fitsP_iff ls i x.1).1 hf
  refine ⟨fun j => ?_, ?_, fun j hj => ?_⟩
  · rw [getD_set _ hi]
    split
    · exact sorted_cons (h.sorted i) hf'
    · exact h.sorted j
  · rw [getD_set _ hi, if_neg (by omega)]
    exact h.zero
  · rw [getD_set _ hi, getD_set _ hi]
    by_cases hji : j = i
    · subst hji
      rw [if_pos rfl, if_neg (by omega)]
      have hn := hp hj
      refine leL_head' ?_
      rcases leL.total (ls.getD (j / 2) []) [(x.1, 0)] with hl | hl
      · exact hl
      · rw [(fitsP_iff ls (j / 2) x.1).2 hl] at hn
        cases hn
    · rw [if_neg hji]
      by_cases hjp : j / 2 = i
      · rw [if_pos hjp]
        have := h.heap j hj
        rw [hjp] at this
        exact leL_head (hf'.tr this)
      · rw [if_neg hjp]
        exact h.heap j hj

/-! the way down -/
theorem upsP_head {f i : Nat} (hf : 0 < f) (hi : 0 < i) : (upsP f i).getD 0 0 = i := by
  obtain ⟨f, rfl⟩ : ∃ g, f = g + 1 := ⟨f - 1, by omega⟩
  rw [upsP_succ f i hi]
  rfl
theorem upsP_chain : ∀ (f i k : Nat), i < f → k + 1 < (upsP f i).length → (upsP f i).getD (k + 1) 0 = (upsP f i).getD k 0 / 2
  | 0, i, k, h, _ => by omega
  | f + 1, i, k, h, hk => by
    by_cases hi : i = 0
    · subst hi; simp [upsP] at hk
    · rw [upsP_succ f i (by omega)] at hk ⊢
      have hk' : k < (upsP f (i / 2)).length := by simpa using hk
      cases k with
      | zero =>
        show (upsP f (i / 2)).getD 0 0 = i / 2
        by_cases h2 : i / 2 = 0
        · rw [h2, upsP_zero] at hk'; simp at hk'
        · exact upsP_head (by omega) (by omega)
      | succ k => exact upsP_chain f (i / 2) k (by omega) hk'
theorem upsP_last : ∀ (f i : Nat), 0 < i → i < f → (upsP f i).getD ((upsP f i).length - 1) 0 = 1
  | 0, i, _, h => by omega
  | f + 1, i, hi, h => by
    rw [upsP_succ f i hi]
    by_cases h2 : i / 2 = 0
    · rw [h2, upsP_zero]
      show i = 1
      omega
    · have ih := upsP_last f (i / 2) (by omega) (by omega)
      have hl : 0 < (upsP f (i / 2)).length := by
        obtain ⟨g, rfl⟩ : ∃ g, f = g + 1 := ⟨f - 1, by omega⟩
        rw [upsP_succ g _ (by omega)]
        simp
      obtain ⟨m, hm⟩ : ∃ m, (upsP f (i / 2)).length = m + 1 := ⟨(upsP f (i / 2)).length - 1, by omega⟩
      rw [hm, Nat.add_sub_cancel] at ih
      rw [List.length_cons, hm, Nat.add_sub_cancel]
      exact ih
theorem rev_getD (l : List Nat) {j : Nat} (hj : j < l.length) : l.reverse.getD j 0 = l.getD (l.length - 1 - j) 0 := by
  simp only [List.getD_eq_getElem?_getD]
  rw [List.getElem?_reverse hj]
theorem wayP_up {leaf r : Nat} (hl : 1 ≤ leaf) (hr : r < (wayP leaf).length) (h0 : 0 < r) : (wayP leaf).getD (r - 1) 0 = (wayP leaf).getD r 0 / 2 := by
  have hlen : (wayP leaf).length = (upsP (leaf + 1) leaf).length := by simp [wayP]
  rw [wayP, rev_getD _ (by omega), rev_getD _ (by omega), ← upsP_chain (leaf + 1) leaf _ (by omega) (by omega)]
  congr 1
  omega
theorem wayP_top {leaf : Nat} (hl : 1 ≤ leaf) : (wayP leaf).getD 0 0 = 1 := by
  have hp := wayP_pos hl
  have hlen : (wayP leaf).length = (upsP (leaf + 1) leaf).length := by simp [wayP]
  rw [wayP, rev_getD _ (by omega)]
  exact upsP_last (leaf + 1) leaf hl (by omega)
theorem wayP_bottom {leaf : Nat} (hl : 1 ≤ leaf) : (wayP leaf).getD ((wayP leaf).length - 1) 0 = leaf := by
  have hp := wayP_pos hl
  have hlen : (wayP leaf).length = (upsP (leaf + 1) leaf).length := by simp [wayP]
  rw [hlen, wayP, rev_getD _ (by omega), Nat.sub_self]
  exact upsP_head (by omega) hl
theorem halfP_spec (ls : Ls) (key : Int) (path : List Nat) : ∀ (f lo hi : Nat), hi - lo ≤ f → lo ≤ hi → fitsP ls (path.getD hi 0) key = true → (lo = 0 ∨ fitsP ls (path.getD (lo - 1) 0) key = false) →
    halfP ls key path f lo hi ≤ hi ∧ fitsP ls (path.getD (halfP ls key path f lo hi) 0) key = true ∧ (halfP ls key path f lo hi = 0 ∨ fitsP ls (path.getD (halfP ls key path f lo hi - 1) 0) key = false)
  | 0, lo, hi, hf, hlh, hh, hl => by
    obtain rfl : lo = hi := by omega
    exact ⟨Nat.le_refl _, hh, hl⟩
  | f + 1, lo, hi, hf, hlh, hh, hl => by
    by_cases hlt : lo < hi
    · rw [halfP_step _ _ _ _ _ _ hlt]
      cases hm : fitsP ls (path.getD ((lo + hi) / 2) 0) key with
      | true =>
        rw [if_pos rfl]
        have := halfP_spec ls key path f lo ((lo + hi) / 2) (by omega) (by omega) hm hl
        exact ⟨by omega, this.2⟩
      | false =>
        rw [if_neg (by simp)]
        exact halfP_spec ls key path f ((lo + hi) / 2 + 1) hi (by omega) (by omega) hh (.inr (by simpa using hm))
    · obtain rfl : lo = hi := by omega
      rw [halfP_done _ _ _ _ _ _ (by omega)]
      exact ⟨Nat.le_refl _, hh, hl⟩
theorem placeP_spec (ls : Ls) (key : Int) {leaf : Nat} (hl : 1 ≤ leaf) (hf : fitsP ls leaf key = true) :
    fitsP ls (placeP ls key leaf) key = true ∧ (2 ≤ placeP ls key leaf → fitsP ls (placeP ls key leaf / 2) key = false) := by
  have hp := wayP_pos hl
  have hb := wayP_bottom hl
  obtain ⟨h1, h2, h3⟩ := halfP_spec ls key (wayP leaf) (wayP leaf).length 0 ((wayP leaf).length - 1) (by omega) (by omega) (by rw [hb]; exact hf) (.inl rfl)
  refine ⟨h2, fun h => ?_⟩
  unfold placeP at h ⊢
  generalize halfP ls key (wayP leaf) (wayP leaf).length 0 ((wayP leaf).length - 1) = r at *
  rcases h3 with rfl | h3
  · rw [wayP_top hl] at h
    omega
  · by_cases hr0 : r = 0
    · subst hr0
      rw [wayP_top hl] at h
      omega
    · rw [← wayP_up hl (by omega) (by omega)]
      exact h3
theorem scanP_fits (ls : Ls) (key : Int) : ∀ (f i : Nat), scanP ls key f i ≠ 0 → fitsP ls (scanP ls key f i) key = true
  | 0, _, h => absurd rfl h
  | f + 1, i, h => by
    rw [scanP_succ] at h ⊢
    split
    · assumption
    · rename_i hn
      rw [if_neg hn] at h
      exact scanP_fits ls key f (i + 1) h
theorem drawP_fits (ls : Ls) (key : Int) (n : Nat) : ∀ (ds : List Int) (i : Nat), drawP ls key n ds = some i → fitsP ls i key = true
  | [], i, h => by simp [drawP] at h
  | d :: ds, i, h => by
    rw [drawP_cons] at h
    split at h
    · injection h with h
      subst h
      assumption
    · exact drawP_fits ls key n ds i h
theorem leafP_fits (ls : Ls) (key : Int) (ds : List Int) (h : leafP ls key ds ≠ 0) : fitsP ls (leafP ls key ds) key = true := by
  unfold leafP at *
  cases hd : drawP ls key (ls.length / 2) (ds.take 4) with
  | some i => rw [Option.getD_some]; exact drawP_fits ls key _ _ i hd
  | none =>
    rw [hd, Option.getD_none] at h
    rw [Option.getD_none]
    exact scanP_fits ls key _ _ h
/-- an insert keeps the order -/
theorem Ordered.insert {ls : Ls} (h : Ordered ls) {x : It} {ds : List Int} {n : Nat} (hn : ls.length = 2 * n) (h1 : 1 ≤ n) (hz : leafP ls x.1 ds ≠ 0) :
    Ordered (ls.set (placeP ls x.1 (leafP ls x.1 ds)) (x :: ls.getD (placeP ls x.1 (leafP ls x.1 ds)) [])) := by
  have hb := leafP_bd ls x.1 ds hn h1
  have hp := placeP_bd ls x.1 (leaf := leafP ls x.1 ds) (by omega)
  obtain ⟨s1, s2⟩ := placeP_spec ls x.1 (leaf := leafP ls x.1 ds) (by omega) (leafP_fits ls x.1 ds hz)
  exact h.put (by omega) hp.1 s1 s2

/-! what sinks -/
structure Sinks (ls : Ls) (i : Nat) : Prop where
  sorted : ∀ j, SortedL (ls.getD j [])
  zero : ls.getD 0 [] = []
  heap : ∀ j, 2 ≤ j → j / 2 ≠ i → leL (ls.getD (j / 2) []) (ls.getD j [])
  over : 2 ≤ i → ∀ j, j / 2 = i → leL (ls.getD (i / 2) []) (ls.getD j [])
theorem getD_out {ls : Ls} {j : Nat} (h : ls.length ≤ j) : ls.getD j [] = [] := by
  rw [List.getD_eq_getElem?_getD, List.getElem?_eq_none h]
  rfl
theorem Sinks.done {ls : Ls} {i : Nat} (h : Sinks ls i) (hc : ∀ j, 2 ≤ j → j / 2 = i → leL (ls.getD i []) (ls.getD j [])) : Ordered ls :=
  ⟨h.sorted, h.zero, fun j hj => by
    by_cases hji : j / 2 = i
    · rw [hji]; exact hc j hj hji
    · exact h.heap j hj hji⟩
theorem Sinks.swap {ls : Ls} {i k o : Nat} (h : Sinks ls i) (hi : 1 ≤ i) (hk : k = 2 * i ∨ k = 2 * i + 1) (ho : o = 2 * i ∨ o = 2 * i + 1) (hko : k ≠ o) (hlt : k < ls.length) (hle : leL (ls.getD k []) (ls.getD o [])) (hl : lessP ls k i = true) :
    Sinks ((ls.set i (ls.getD k [])).set k (ls.getD i [])) k := by
  have hki : leL (ls.getD k []) (ls.getD i []) := by
    rcases leL.total (ls.getD k []) (ls.getD i []) with h | h
    · exact h
    · exact absurd h ((lessP_iff ls k i).1 hl)
  have hg : ∀ j, ((ls.set i (ls.getD k [])).set k (ls.getD i [])).getD j [] = if j = k then ls.getD i [] else if j = i then ls.getD k [] else ls.getD j [] := by
    intro j
    rw [getD_set _ (by rw [List.length_set]; exact hlt), getD_set _ (by omega)]
  refine ⟨fun j => ?_, ?_, fun j hj hjk => ?_, fun _ j hj => ?_⟩
  · rw [hg]
    split
    · exact h.sorted i
    · split
      · exact h.sorted k
      · exact h.sorted j
  · rw [hg, if_neg (by omega), if_neg (by omega)]
    exact h.zero
  · rw [hg, hg, if_neg hjk]
    by_cases h1 : j = k
    · subst h1
      rw [if_pos rfl, if_pos (by omega)]
      exact hki
    · rw [if_neg h1]
      by_cases h2 : j = i
      · subst h2
        rw [if_pos rfl, if_neg (by omega)]
        exact h.over hj k (by omega)
      · rw [if_neg h2]
        by_cases h3 : j / 2 = i
        · rw [if_pos h3]
          have : j = o := by omega
          subst this
          exact hle
        · rw [if_neg h3]
          exact h.heap j hj h3
  · rw [hg, hg, if_neg (by omega), if_pos (by omega), if_neg (by omega), if_neg (by omega)]
    have := h.heap j (by omega) (by omega)
    rw [hj] at this
    exact this
theorem sinkP_ordered : ∀ (f : Nat) (ls : Ls) (i n : Nat), ls.length = 2 * n → 1 ≤ i → n ≤ i + f → Sinks ls i → Ordered (sinkP f ls i)
  | 0, ls, i, n, hn, hi, hf, h => h.done fun j hj hji => by rw [getD_out (ls := ls) (j := j) (by omega)]; cases ls.getD i [] <;> simp [leL]
  | f + 1, ls, i, n, hn, hi, hf, h => by
    rw [sinkP]
    have h2 : ls.length / 2 = n := by omega
    rw [h2]
    by_cases hin : i < n
    · rw [if_pos hin]
      cases hl : lessP ls (2 * i + 1) (2 * i) with
      | true =>
        simp only [if_true]
        have hko : leL (ls.getD (2 * i + 1) []) (ls.getD (2 * i) []) := by
          rcases leL.total (ls.getD (2 * i + 1) []) (ls.getD (2 * i) []) with h | h
          · exact h
          · exact absurd h ((lessP_iff ls _ _).1 hl)
        cases hk : lessP ls (2 * i + 1) i with
        | true =>
          simp only [if_true]
          exact sinkP_ordered f _ (2 * i + 1) n (by simpa using hn) (by omega) (by omega) (h.swap (o := 2 * i) hi (.inr rfl) (.inl rfl) (by omega) (by omega) hko hk)
        | false =>
          simp only [Bool.false_eq_true, if_false]
          have hik := lessP_no hk
          refine h.done fun j hj hji => ?_
          have : j = 2 * i ∨ j = 2 * i + 1 := by omega
          rcases this with rfl | rfl
          · exact hik.tr hko
          · exact hik
      | false =>
        simp only [Bool.false_eq_true, if_false]
        have hko := lessP_no hl
        cases hk : lessP ls (2 * i) i with
        | true =>
          simp only [if_true]
          exact sinkP_ordered f _ (2 * i) n (by simpa using hn) (by omega) (by omega) (h.swap (o := 2 * i + 1) hi (.inl rfl) (.inr rfl) (by omega) (by omega) hko hk)
        | false =>
          simp only [Bool.false_eq_true, if_false]
          have hik := lessP_no hk
          refine h.done fun j hj hji => ?_
          have : j = 2 * i ∨ j = 2 * i + 1 := by omega
          rcases this with rfl | rfl
          · exact hik
          · exact hik.tr hko
    · rw [if_neg hin]
      exact h.done fun j hj hji => by rw [getD_out (ls := ls) (j := j) (by omega)]; cases ls.getD i [] <;> simp [leL]
/-- a pop keeps the order -/
theorem Ordered.pop {ls : Ls} (h : Ordered ls) {p : It} {l : List It} {n : Nat} (hn : ls.length = 2 * n) (h1 : 1 ≤ n) (hp : ls.getD 1 [] = p :: l) : Ordered (sinkP (2 * n) (ls.set 1 l) 1) := by
  refine sinkP_ordered (2 * n) _ 1 n (by simpa using hn) (Nat.le_refl _) (by omega) ⟨fun j => ?_, ?_, fun j hj hj1 => ?_, fun h => by omega⟩
  · rw [getD_set _ (by omega)]
    split
    · have := h.sorted 1
      rw [hp] at this
      exact (List.pairwise_cons.1 this).2
    · exact h.sorted j
  · rw [getD_set _ (by omega), if_neg (by omega)]
    exact h.zero
  · rw [getD_set _ (by omega), getD_set _ (by omega), if_neg hj1, if_neg (by omega)]
    exact h.heap j hj

/-! nothing is lost, nothing is made -/
def cnt (a : It) (ls : Ls) : Nat := (ls.map (List.count a)).sum
theorem cnt_set (a : It) : ∀ (ls : Ls) (i : Nat) (v : List It), i < ls.length → cnt a (ls.set i v) + (ls.getD i []).count a = cnt a ls + v.count a
  | [], _, _, h => by simp at h
  | l :: ls, 0, v, _ => by simp [cnt]; omega
  | l :: ls, i + 1, v, h => by
    have ih := cnt_set a ls i v (by simpa using h)
    simp only [cnt, List.set_cons_succ, List.map_cons, List.sum_cons, List.getD_cons_succ] at *
    omega
theorem cnt_sink (a : It) : ∀ (f : Nat) (ls : Ls) (i n : Nat), ls.length = 2 * n → 1 ≤ i → cnt a (sinkP f ls i) = cnt a ls
  | 0, _, _, _, _, _ => rfl
  | f + 1, ls, i, n, hn, hi => by
    rw [sinkP]
    have h2 : ls.length / 2 = n := by omega
    rw [h2]
    by_cases hin : i < n
    · rw [if_pos hin]
      have key : ∀ k, i < k → k < ls.length → cnt a ((ls.set i (ls.getD k [])).set k (ls.getD i [])) = cnt a ls := by
        intro k hik hk
        have e1 := cnt_set a ls i (ls.getD k []) (by omega)
        have e2 := cnt_set a (ls.set i (ls.getD k [])) k (ls.getD i []) (by rw [List.length_set]; exact hk)
        rw [getD_set _ (by omega), if_neg (by omega)] at e2
        omega
      cases lessP ls (2 * i + 1) (2 * i) with
      | true =>
        simp only [if_true]
        split
        · rw [cnt_sink a f _ _ n (by simpa using hn) (by omega), key _ (by omega) (by omega)]
        · rfl
      | false =>
        simp only [Bool.false_eq_true, if_false]
        split
        · rw [cnt_sink a f _ _ n (by simpa using hn) (by omega), key _ (by omega) (by omega)]
        · rfl
    · rw [if_neg hin]
theorem sinkP_length : ∀ (f : Nat) (ls : Ls) (i : Nat), (sinkP f ls i).length = ls.length
  | 0, _, _ => rfl
  | f + 1, ls, i => by
    rw [sinkP]
    split
    · cases lessP ls (2 * i + 1) (2 * i) with
      | true =>
        simp only [if_true]
        split
        · rw [sinkP_length f]; simp
        · rfl
      | false =>
        simp only [Bool.false_eq_true, if_false]
        split
        · rw [sinkP_length f]; simp
        · rfl
    · rfl
theorem cnt_flatten (a : It) (ls : Ls) : ls.flatten.count a = cnt a ls := by rw [cnt, List.count_flatten]
/-- all that a mound holds -/
abbrev allP (ls : Ls) : List It := ls.flatten
theorem all_insert {ls : Ls} {x : It} {i : Nat} (hi : i < ls.length) : (allP (ls.set i (x :: ls.getD i []))).Perm (x :: allP ls) := by
  rw [List.perm_iff_count]
  intro a
  rw [cnt_flatten, List.count_cons, cnt_flatten]
  have := cnt_set a ls i (x :: ls.getD i []) hi
  rw [List.count_cons] at this
  omega
theorem all_pop {ls : Ls} {p : It} {l : List It} {n : Nat} (hn : ls.length = 2 * n) (h1 : 1 ≤ n) (hp : ls.getD 1 [] = p :: l) : (allP ls).Perm (p :: allP (sinkP (2 * n) (ls.set 1 l) 1)) := by
  rw [List.perm_iff_count]
  intro a
  rw [cnt_flatten, List.count_cons, cnt_flatten, cnt_sink a _ _ 1 n (by simpa using hn) (Nat.le_refl _)]
  have := cnt_set a ls 1 l (by omega)
  rw [hp, List.count_cons] at this
  omega
theorem Ordered.root {ls : Ls} (h : Ordered ls) : ∀ i, 1 ≤ i → leL (ls.getD 1 []) (ls.getD i []) := by
  intro i
  induction i using Nat.strongRecOn with
  | _ i ih =>
    intro hi
    by_cases h1 : i = 1
    · subst h1; exact leL.rf _
    · exact (ih (i / 2) (by omega) (by omega)).tr (h.heap i (by omega))
/-- the first of all is the least -/
theorem Ordered.least {ls : Ls} (h : Ordered ls) {q : It} (hq : q ∈ allP ls) : ∃ p l, ls.getD 1 [] = p :: l ∧ p.1 ≤ q.1 := by
  obtain ⟨m, hm, hqm⟩ := List.mem_flatten.1 hq
  obtain ⟨i, hi, him⟩ := List.mem_iff_getElem.1 hm
  have hg : ls.getD i [] = m := by rw [List.getD_eq_getElem?_getD, List.getElem?_eq_getElem hi, him]; rfl
  have hi1 : 1 ≤ i := by
    rcases Nat.eq_zero_or_pos i with h0 | h0
    · subst h0
      rw [h.zero] at hg
      rw [← hg] at hqm
      cases hqm
    · exact h0
  have hr := h.root i hi1
  have hs := h.sorted i
  rw [hg] at hr hs
  cases m with
  | nil => cases hqm
  | cons c m =>
    cases h1 : ls.getD 1 [] with
    | nil => rw [h1] at hr; simp [leL] at hr
    | cons p l =>
      rw [h1] at hr
      have hr : p.1 ≤ c.1 := hr
      refine ⟨p, l, rfl, ?_⟩
      rcases List.mem_cons.1 hqm with rfl | hqm
      · exact hr
      · have := (List.pairwise_cons.1 hs).1 q hqm
        omega
theorem ordered_new (n : Nat) : Ordered (List.replicate n []) := by
  have hg : ∀ i, (List.replicate n ([] : List It)).getD i [] = [] := by
    intro i
    rw [List.getD_eq_getElem?_getD, List.getElem?_replicate]
    split <;> rfl
  refine ⟨fun i => ?_, hg 0, fun i _ => ?_⟩
  · rw [hg]; exact List.Pairwise.nil
  · rw [hg, hg]; simp [leL]
theorem all_new (n : Nat) : allP (List.replicate n []) = [] := by simp [allP]
theorem MoundRep.modT {w w' : World} {base base' g : Nat} {ts : List TypeId} {ls : Ls} {sz : Int} (H : MoundRep w base g ls sz) (k : ModT base' ts w w') (h1 : 61 ∉ ts) (h2 : 82 ∉ ts) (h3 : 101 ∉ ts) : MoundRep w' base g ls sz := by
  obtain ⟨h, hb, q1, q2, q3⟩ := H
  exact ⟨h, hb.modT k h3, q1, q2, q3.modT k h1 h2⟩
/-- an append to an own slice of ints turns blocks of ints alone -/
theorem OwI.grownT {w w' : World} {base : Nat} {A : Option Addr} {c : Nat} {xs : List Int} (h : OwI w base A c xs) (hg : w.grownBy w' (bl A)) : ModT base [3] w w' := by
  refine Mod.grown hg fun g hA => ?_
  rcases h.cases with ⟨rfl, _, _⟩ | ⟨g', cur, rfl, hb, hh, _⟩
  · simp [bl] at hA
  · simp [bl] at hA
    subst hA
    exact ⟨hb, cur, _, hh, by simp⟩
end Go.Proofs.Ythmjeajfchpdoaa
