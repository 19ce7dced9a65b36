/-
  Lists that wait, in memory: how much there is to do still; the last one; all but the last one.
-/
import Derived.Test.YtpngflmngnjjoaaDoorCopy1
import Derived.Test.YtpngflmngnjjoaaDoorTreePlain
namespace Go.Proofs.YtpngflmngnjjoaaDoor
open Go.RowKit Go.ChangeShapes Go.WideShapes Go.ChangeAt Go.Deep

def stackM (N : Nat) (v : Value) (w : World) : Nat := match v with
  | .slice (some a) m _ => ((List.range m).map fun j => match w.cell? ⟨a.block, a.off + j, none⟩ with | some (.slice _ len _) => 9 ^ (N + 1 - len) | _ => 0).sum
  | _ => 0
section
variable {w w' : World} {B : Nat} {us : List Value} {W q : List (List Int)} {p : List Int} {A : Option Addr}
theorem RowsO.len (h : RowsO w B us W) : us.length = W.length := h.1
theorem stackM_eq {N c : Nat} (h : RdV w 22 A us) (r : RowsO w B us W) : stackM N (.slice A W.length c) w = workT N W := by
  by_cases h0 : W = []
  · subst h0
    cases A <;> simp [stackM, workT]
  · have hne : us ≠ [] := fun e => h0 (List.eq_nil_of_length_eq_zero (by rw [← r.1, e]; rfl))
    obtain ⟨b, off, rfl, _, hc⟩ := h.form hne
    unfold workT
    show (List.map _ (List.range W.length)).sum = _
    refine congrArg List.sum ?_
    apply List.ext_getElem
    · simp
    · intro k h1 h2
      have hk : k < W.length := by simpa using h1
      obtain ⟨A', c', h3, -⟩ := r.2 k _ (List.getElem?_eq_getElem hk)
      have h4 := hc k _ h3
      simp [h4]
theorem RowsO.last (h : RowsO w B us (q ++ [p])) : ∃ A c, us[q.length]? = some (.slice A p.length c) ∧ OwI w B A c p := h.2 q.length p (by simp)
theorem RowsO.init (h : RowsO w B us (q ++ [p])) : RowsO w B (us.take q.length) q := by
  refine ⟨by have := h.1; simp at this; simp; omega, fun i r hi => ?_⟩
  have hlt := (List.getElem?_eq_some_iff.1 hi).1
  obtain ⟨A', c', h1, h2⟩ := h.2 i r (by rw [List.getElem?_append_left hlt]; exact hi)
  exact ⟨A', c', by rw [List.getElem?_take, if_pos hlt]; exact h1, h2⟩
end
end Go.Proofs.YtpngflmngnjjoaaDoor
