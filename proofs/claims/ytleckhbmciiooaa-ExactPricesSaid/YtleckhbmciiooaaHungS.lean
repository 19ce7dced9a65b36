/-
  An assignment by prices: a way grows.
-/
import Derived.Test.YtleckhbmciiooaaHungW
namespace Go.Proofs.Ytleckhbmciiooaa
open Go.RowKit Go.ChangeShapes Go.WideShapes Go.ChangeAt Go.Deep

def cstR (rows : List (List Int)) (i c : Nat) : Int := costAt rows (i - 1) (c - 1)
abbrev farV : Int := 1152921504606846976
/-- all rows of a growing way -/
structure GrowS (w wr : World) (gu gv gh gf gl gs N : Nat) (has : Nat → Nat) (u v least : Nat → Int) (frm : Nat → Nat) (S : Nat → Bool) : Prop where
  u : Arr wr gu N u
  v : Arr wr gv N v
  h : Arr wr gh N fun c => (has c : Int)
  f : Arr wr gf N fun c => (frm c : Int)
  l : Arr wr gl N least
  s : ArrB wr gs N S
  m : Mod (PS gu gv gh gf) w wr
def Apart (w : World) (gu gv gh gf gl gs : Nat) : Prop := [gu, gv, gh, gf, gl, gs].Nodup ∧ w.heap.size ≤ gl ∧ w.heap.size ≤ gs
section
variable {w wr w' : World} {gu gv gh gf gl gs N : Nat} {has : Nat → Nat} {u v least : Nat → Int} {frm : Nat → Nat} {S : Nat → Bool}
theorem GrowS.ext (h : GrowS w wr gu gv gh gf gl gs N has u v least frm S) (x : Ext wr w') : GrowS w w' gu gv gh gf gl gs N has u v least frm S :=
  ⟨h.u.ext x, h.v.ext x, h.h.ext x, h.f.ext x, h.l.ext x, h.s.ext x, h.m.ext x⟩
theorem Apart.ne (h : Apart w gu gv gh gf gl gs) : (gu ≠ gv ∧ gu ≠ gh ∧ gu ≠ gf ∧ gu ≠ gl ∧ gu ≠ gs) ∧ (gv ≠ gh ∧ gv ≠ gf ∧ gv ≠ gl ∧ gv ≠ gs) ∧ (gh ≠ gf ∧ gh ≠ gl ∧ gh ≠ gs) ∧ (gf ≠ gl ∧ gf ≠ gs) ∧ gl ≠ gs := by
  have := h.1
  simp only [List.nodup_cons, List.mem_cons, List.not_mem_nil, or_false, not_or] at this
  obtain ⟨⟨a1, a2, a3, a4, a5⟩, ⟨b1, b2, b3, b4⟩, ⟨c1, c2, c3⟩, ⟨d1, d2⟩, e1, -⟩ := this
  exact ⟨⟨a1, a2, a3, a4, a5⟩, ⟨b1, b2, b3, b4⟩, ⟨c1, c2, c3⟩, ⟨d1, d2⟩, e1⟩
theorem GrowS.setU (h : GrowS w wr gu gv gh gf gl gs N has u v least frm S) (d : Apart w gu gv gh gf gl gs) (k : Nat) (x : Int) : GrowS w (wr.setCell ⟨gu, k, none⟩ (.int .i64 x)) gu gv gh gf gl gs N has (fun i => if i = k then x else u i) v least frm S := by
  obtain ⟨⟨a1, a2, a3, a4, a5⟩, ⟨b1, b2, b3, b4⟩, ⟨c1, c2, c3⟩, ⟨d1, d2⟩, e1⟩ := d.ne
  exact ⟨h.u.set k x, h.v.far a1.symm _, h.h.far a2.symm _, h.f.far a3.symm _, h.l.far a4.symm _, h.s.far a5.symm _, h.m.set (p := ⟨gu, k, none⟩) (.inl (.inl rfl)) _⟩
theorem GrowS.setV (h : GrowS w wr gu gv gh gf gl gs N has u v least frm S) (d : Apart w gu gv gh gf gl gs) (k : Nat) (x : Int) : GrowS w (wr.setCell ⟨gv, k, none⟩ (.int .i64 x)) gu gv gh gf gl gs N has u (fun i => if i = k then x else v i) least frm S := by
  obtain ⟨⟨a1, a2, a3, a4, a5⟩, ⟨b1, b2, b3, b4⟩, ⟨c1, c2, c3⟩, ⟨d1, d2⟩, e1⟩ := d.ne
  exact ⟨h.u.far a1 _, h.v.set k x, h.h.far b1.symm _, h.f.far b2.symm _, h.l.far b3.symm _, h.s.far b4.symm _, h.m.set (p := ⟨gv, k, none⟩) (.inl (.inr (.inl rfl))) _⟩
theorem GrowS.setF (h : GrowS w wr gu gv gh gf gl gs N has u v least frm S) (d : Apart w gu gv gh gf gl gs) (k : Nat) (x : Nat) : GrowS w (wr.setCell ⟨gf, k, none⟩ (.int .i64 x)) gu gv gh gf gl gs N has u v least (fun i => if i = k then x else frm i) S := by
  obtain ⟨⟨a1, a2, a3, a4, a5⟩, ⟨b1, b2, b3, b4⟩, ⟨c1, c2, c3⟩, ⟨d1, d2⟩, e1⟩ := d.ne
  exact ⟨h.u.far a3 _, h.v.far b2 _, h.h.far c1 _, (h.f.set k x).congr fun i _ => by split <;> rfl, h.l.far d1.symm _, h.s.far d2.symm _, h.m.set (p := ⟨gf, k, none⟩) (.inl (.inr (.inr (.inr rfl)))) _⟩
theorem GrowS.setL (h : GrowS w wr gu gv gh gf gl gs N has u v least frm S) (d : Apart w gu gv gh gf gl gs) (k : Nat) (x : Int) : GrowS w (wr.setCell ⟨gl, k, none⟩ (.int .i64 x)) gu gv gh gf gl gs N has u v (fun i => if i = k then x else least i) frm S := by
  obtain ⟨⟨a1, a2, a3, a4, a5⟩, ⟨b1, b2, b3, b4⟩, ⟨c1, c2, c3⟩, ⟨d1, d2⟩, e1⟩ := d.ne
  exact ⟨h.u.far a4 _, h.v.far b3 _, h.h.far c2 _, h.f.far d1 _, h.l.set k x, h.s.far e1.symm _, h.m.set (p := ⟨gl, k, none⟩) (.inr d.2.1) _⟩
theorem GrowS.setS (h : GrowS w wr gu gv gh gf gl gs N has u v least frm S) (d : Apart w gu gv gh gf gl gs) (k : Nat) (x : Bool) : GrowS w (wr.setCell ⟨gs, k, none⟩ (.bool x)) gu gv gh gf gl gs N has u v least frm (fun i => if i = k then x else S i) := by
  obtain ⟨⟨a1, a2, a3, a4, a5⟩, ⟨b1, b2, b3, b4⟩, ⟨c1, c2, c3⟩, ⟨d1, d2⟩, e1⟩ := d.ne
  exact ⟨h.u.far a5 _, h.v.far b4 _, h.h.far c3 _, h.f.far d2 _, h.l.far e1 _, h.s.set k x, h.m.set (p := ⟨gs, k, none⟩) (.inr d.2.2) _⟩
theorem GrowS.congL {l2 : Nat → Int} (h : GrowS w wr gu gv gh gf gl gs N has u v least frm S) (e : ∀ i, i < N → least i = l2 i) : GrowS w wr gu gv gh gf gl gs N has u v l2 frm S :=
  ⟨h.u, h.v, h.h, h.f, h.l.congr e, h.s, h.m⟩
end
/-- what a way that has grown is -/
def GrowPost (n N R gu gv gh gf : Nat) (cst : Nat → Nat → Int) (w : World) (e : Ending) (w' : World) : Prop :=
  ∃ (a : Nat) (L : List Nat) (u v least : Nat → Int) (has frm : Nat → Nat), e = .returned (.int .i64 a) ∧ has a = 0 ∧ Arr w' gu N u ∧ Arr w' gv N v ∧ Arr w' gh N (fun c => (has c : Int)) ∧ Arr w' gf N (fun c => (frm c : Int)) ∧ GI n cst farV R has L a u v least frm ∧ HasOk n R has ∧ Mod (PS gu gv gh gf) w w'
theorem near_bd {n R : Nat} {cst : Nat → Nat → Int} {has frm frm' : Nat → Nat} {L : List Nat} {a : Nat} {u v least least' : Nat → Int} {c : Nat} (h : GI n cst farV R has L a u v least frm) (ho : HasOk n R has) (hRn : R ≤ n) (ha : has a ≠ 0)
    (num : ∀ i c, 1 ≤ i → i ≤ n → 1 ≤ c → c ≤ n → 0 ≤ cst i c ∧ cst i c ≤ 2147483647) (bu : ∀ i, 1 ≤ i → i ≤ n → 0 ≤ u i ∧ u i ≤ 2147483647) (bv : ∀ c, 1 ≤ c → c ≤ n → -2147483647 ≤ v c ∧ v c ≤ 0) (c1 : 1 ≤ c) (c2 : c ≤ n) (hc : c ∉ L ++ [a])
    (k1 : (cst (has a) c - u (has a) - v c < least c ∧ least' c = cst (has a) c - u (has a) - v c ∧ frm' c = a) ∨ (least c ≤ cst (has a) c - u (has a) - v c ∧ least' c = least c ∧ frm' c = frm c)) : 0 ≤ least' c ∧ least' c ≤ 4294967294 := by
  have la := h.le a (by simp)
  have h1 := ho.le a la
  have s1 := h.slack (has a) c (by omega) (by omega) c1 c2
  have b1 := num (has a) c (by omega) (by omega) c1 c2
  have b2 := bu (has a) (by omega) (by omega)
  have b3 := bv c c1 c2
  rcases k1 with ⟨_, e, _⟩ | ⟨k, e, _⟩
  · omega
  · by_cases hL : L = []
    · have := h.far0 hL c c1 c2
      have e2 : farV = 1152921504606846976 := rfl
      omega
    · have hcL : c ∉ L := fun hm => hc (List.mem_append_left _ hm)
      obtain ⟨m1, m2⟩ := h.least2 hL c c1 c2 hcL
      have l2 := h.le (frm c) (List.mem_append_left _ m1)
      have h2 := ho.le (frm c) l2
      have h3 := h.seen _ m1
      have s2 := h.slack (has (frm c)) c (by omega) (by omega) c1 c2
      omega
end Go.Proofs.Ytleckhbmciiooaa
