/-
  Mounds, plain: lists of items at places, which place takes an item, what goes down; and what they are in memory.
-/
import Derived.Test.YthmjeajfchpdoaaGen
import Derived.Test.YthmjeajfchpdoaaTapePlain
namespace Go.Proofs.Ythmjeajfchpdoaa
open Go.RowKit Go.ChangeShapes Go.WideShapes Go.ChangeAt

/-- an item: key, whose -/
abbrev It := Int × Int
def flat (l : List It) : List Value := l.flatMap fun p => [.int .i64 p.1, .int .i64 p.2]
theorem flat_nil : flat [] = [] := rfl
theorem flat_cons (p : It) (l : List It) : flat (p :: l) = .int .i64 p.1 :: .int .i64 p.2 :: flat l := rfl
theorem flat_len (l : List It) : (flat l).length = l.length * 2 := by
  induction l with
  | nil => rfl
  | cons p l ih => rw [flat_cons, List.length_cons, List.length_cons, ih, List.length_cons]; omega
theorem flat_one (l : List It) : ∀ u ∈ flat l, u.oneCell' = true := by
  intro u hu
  obtain ⟨p, _, hp⟩ := List.mem_flatMap.1 hu
  simp at hp
  rcases hp with rfl | rfl <;> rfl
theorem flat_append (l m : List It) : flat (l ++ m) = flat l ++ flat m := by simp [flat]
theorem flat_get {l : List It} {k : Nat} {p : It} (h : l[k]? = some p) : (flat l)[k * 2]? = some (.int .i64 p.1) ∧ (flat l)[k * 2 + 1]? = some (.int .i64 p.2) := by
  induction l generalizing k with
  | nil => simp at h
  | cons q l ih =>
    cases k with
    | zero => simp at h; subst h; exact ⟨rfl, rfl⟩
    | succ k =>
      have := ih (k := k) (by simpa using h)
      rw [flat_cons, show (k + 1) * 2 = k * 2 + 1 + 1 by omega]
      exact ⟨by simpa using this.1, by simpa using this.2⟩
theorem flat_drop (l : List It) (k : Nat) : flat (l.drop k) = (flat l).drop (k * 2) := by
  induction l generalizing k with
  | nil => simp [flat]
  | cons q l ih =>
    cases k with
    | zero => simp
    | succ k => rw [List.drop_succ_cons, ih, flat_cons, show (k + 1) * 2 = k * 2 + 1 + 1 by omega]; rfl

/-- the lists at the places -/
abbrev Ls := List (List It)
def fitsP (ls : Ls) (i : Nat) (key : Int) : Bool := match ls.getD i [] with
  | [] => true
  | p :: _ => decide (key ≤ p.1)
def lessP (ls : Ls) (i k : Nat) : Bool := match ls.getD i [], ls.getD k [] with
  | [], _ => false
  | _ :: _, [] => true
  | p :: _, q :: _ => decide (p.1 < q.1)
/-- the first place from i on, of so many, that takes the key; 0: none does -/
def scanP (ls : Ls) (key : Int) : Nat → Nat → Nat
  | 0, _ => 0
  | f + 1, i => if fitsP ls i key then i else scanP ls key f (i + 1)
def drawP (ls : Ls) (key : Int) (n : Nat) : List Int → Option Nat
  | [] => none
  | d :: ds => if fitsP ls (n + (modu d n).toNat) key then some (n + (modu d n).toNat) else drawP ls key n ds
def leafP (ls : Ls) (key : Int) (draws : List Int) : Nat := (drawP ls key (ls.length / 2) (draws.take 4)).getD (scanP ls key (ls.length / 2) (ls.length / 2))
/-- from a leaf up -/
def upsP : Nat → Nat → List Nat
  | 0, _ => []
  | f + 1, i => if i = 0 then [] else i :: upsP f (i / 2)
def wayP (leaf : Nat) : List Nat := (upsP (leaf + 1) leaf).reverse
/-- the least place on the way that takes it, by halves -/
def halfP (ls : Ls) (key : Int) (path : List Nat) : Nat → Nat → Nat → Nat
  | 0, _, hi => hi
  | f + 1, lo, hi => if lo < hi then (if fitsP ls (path.getD ((lo + hi) / 2) 0) key then halfP ls key path f lo ((lo + hi) / 2) else halfP ls key path f ((lo + hi) / 2 + 1) hi) else hi
def placeP (ls : Ls) (key : Int) (leaf : Nat) : Nat := (wayP leaf).getD (halfP ls key (wayP leaf) (wayP leaf).length 0 ((wayP leaf).length - 1)) 0
def insertP (ls : Ls) (x : It) (draws : List Int) : Option Ls :=
  if leafP ls x.1 draws = 0 then none else some (ls.set (placeP ls x.1 (leafP ls x.1 draws)) (x :: ls.getD (placeP ls x.1 (leafP ls x.1 draws)) []))
def sinkP : Nat → Ls → Nat → Ls
  | 0, ls, _ => ls
  | f + 1, ls, i => if i < ls.length / 2 then
      (if lessP ls (if lessP ls (2 * i + 1) (2 * i) then 2 * i + 1 else 2 * i) i then
        sinkP f ((ls.set i (ls.getD (if lessP ls (2 * i + 1) (2 * i) then 2 * i + 1 else 2 * i) [])).set (if lessP ls (2 * i + 1) (2 * i) then 2 * i + 1 else 2 * i) (ls.getD i [])) (if lessP ls (2 * i + 1) (2 * i) then 2 * i + 1 else 2 * i)
      else ls)
    else ls

theorem getD_nil {ls : Ls} {i : Nat} {l : List It} (h : ls[i]? = some l) : ls.getD i [] = l := by simp [List.getD, h]

/-- block h holds, place by place, the heads of the lists ls (items of type E, slices of them of type SE) -/
def HeadsAt (w : World) (E SE : TypeId) (h : Nat) (ls : Ls) : Prop :=
  ∃ cs : Array Value, Blk w h SE cs ∧ cs.size = ls.length ∧ ∀ (i : Nat) (l : List It), ls[i]? = some l → ∃ (A : Option Addr) (c : Nat), cs[i]? = some (Value.slice A l.length c) ∧ RdV w E A (flat l) ∧ l.length ≤ c
section
variable {w w' : World} {E SE : TypeId} {h : Nat} {ls : Ls}
theorem HeadsAt.lt (H : HeadsAt w E SE h ls) : h < w.heap.size := by obtain ⟨cs, hb, _⟩ := H; exact hb.lt
theorem HeadsAt.at (H : HeadsAt w E SE h ls) {i : Nat} {l : List It} (hl : ls[i]? = some l) : ∃ (A : Option Addr) (c : Nat), w.cell? ⟨h, i, none⟩ = some (Value.slice A l.length c) ∧ w.frozen? ⟨h, i, none⟩ = false ∧ RdV w E A (flat l) ∧ l.length ≤ c := by
  obtain ⟨cs, hb, hs, hc⟩ := H
  obtain ⟨A, c, h1, h2, h3⟩ := hc i l hl
  exact ⟨A, c, by rw [hb.cell]; exact h1, hb.free i, h2, h3⟩
theorem HeadsAt.ext (H : HeadsAt w E SE h ls) (hx : Ext w w') : HeadsAt w' E SE h ls := by
  obtain ⟨cs, hb, hs, hc⟩ := H
  refine ⟨cs, hb.ext hx, hs, fun i l hl => ?_⟩
  obtain ⟨A, c, h1, h2, h3⟩ := hc i l hl
  exact ⟨A, c, h1, h2.ext hx, h3⟩
/-- the block of heads itself, and items' blocks, are as they were -/
theorem HeadsAt.mod {S : Nat → Prop} (H : HeadsAt w E SE h ls) (hm : Mod S w w') (hh : ¬ S h) (hE : ∀ k cur, w.heap[k]? = some (.cells cur E (0, 0)) → ¬ S k) : HeadsAt w' E SE h ls := by
  obtain ⟨cs, hb, hs, hc⟩ := H
  refine ⟨cs, hb.mod hm hh, hs, fun i l hl => ?_⟩
  obtain ⟨A, c, h1, h2, h3⟩ := hc i l hl
  exact ⟨A, c, h1, h2.mod hm hE, h3⟩
theorem HeadsAt.set (H : HeadsAt w E SE h ls) (hne : E ≠ SE) (i : Nat) {A : Option Addr} {c : Nat} {l : List It} (hr : RdV w E A (flat l)) (hl : l.length ≤ c) : HeadsAt (w.setCell ⟨h, i, none⟩ (.slice A l.length c)) E SE h (ls.set i l) := by
  obtain ⟨cs, hb, hs, hc⟩ := H
  have hm : Mod (fun k => k = h) w (w.setCell ⟨h, i, none⟩ (.slice A l.length c)) := Mod.set (S := fun k => k = h) (p := ⟨h, i, none⟩) (Mod.rf w) (.inl rfl) _
  have hE : ∀ k cur, w.heap[k]? = some (.cells cur E (0, 0)) → ¬ k = h := by
    rintro k cur hk rfl
    exact Blk.ne (show Blk w k E cur from hk) hb hne rfl
  refine ⟨_, hb.set i _, by simpa using hs, fun j m hj => ?_⟩
  rw [Array.getElem?_setIfInBounds]
  by_cases hij : i = j
  · subst hij
    have hlt : i < ls.length := by
      have := (List.getElem?_eq_some_iff.1 hj).1
      simpa using this
    rw [List.getElem?_set_self hlt] at hj
    injection hj with hj
    subst hj
    rw [if_pos rfl, if_pos (by omega)]
    exact ⟨A, c, rfl, hr.mod hm hE, hl⟩
  · rw [List.getElem?_set_ne hij] at hj
    rw [if_neg hij]
    obtain ⟨A', c', h1, h2, h3⟩ := hc j m hj
    exact ⟨A', c', h1, h2.mod hm hE, h3⟩
theorem HeadsAt.new {n : Nat} (hb : Blk w h SE (Array.replicate n (.slice none 0 0))) : HeadsAt w E SE h (List.replicate n []) := by
  refine ⟨_, hb, by simp, fun i l hl => ?_⟩
  obtain ⟨hlt, hl⟩ := List.getElem?_eq_some_iff.1 hl
  simp at hlt hl
  subst hl
  exact ⟨none, 0, by simp [hlt], .inl rfl, Nat.le_refl _⟩
end

/-- block g is a mound of the lists ls, which counts sz items -/
def MoundRep (w : World) (base g : Nat) (ls : Ls) (sz : Int) : Prop :=
  ∃ h, Blk w g 101 #[.slice (some ⟨h, 0, none⟩) ls.length ls.length, .int .i64 sz] ∧ base ≤ g ∧ base ≤ h ∧ HeadsAt w 61 82 h ls
theorem MoundRep.ext {w w' : World} {base g : Nat} {ls : Ls} {sz : Int} (H : MoundRep w base g ls sz) (hx : Ext w w') : MoundRep w' base g ls sz := by
  obtain ⟨h, h1, h2, h3, h4⟩ := H
  exact ⟨h, h1.ext hx, h2, h3, h4.ext hx⟩
end Go.Proofs.Ythmjeajfchpdoaa
