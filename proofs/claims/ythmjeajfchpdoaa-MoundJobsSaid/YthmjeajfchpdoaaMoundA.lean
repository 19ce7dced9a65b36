/-
  mound: leaves, fits, less, leaf, way: what they answer.
-/
import Derived.Test.YthmjeajfchpdoaaMoundPlain
import Derived.Test.YthmjeajfchpdoaaTapeA
import Derived.Test.YthmjeajfchpdoaaRegion
import Derived.Deep.DeepCutAuto
namespace Go.Proofs.Ythmjeajfchpdoaa
open Go.RowKit Go.ChangeShapes Go.WideShapes Go.ChangeAt

/-- what is known of a place's list, for the walk -/
theorem HeadsAt.look {w : World} {E SE : TypeId} {h : Nat} {ls : Ls} (H : HeadsAt w E SE h ls) {i : Nat} (hi : i < ls.length) :
    (Hid (ls.getD i [] = []) ∧ ∃ (A : Option Addr) (c : Nat), w.cell? ⟨h, i, none⟩ = some (Value.slice A 0 c)) ∨
    (∃ p l b off c, Hid (ls.getD i [] = p :: l) ∧ w.cell? ⟨h, i, none⟩ = some (.slice (some ⟨b, off, none⟩) (l.length + 1) c) ∧ w.cell? ⟨b, off, none⟩ = some (.int .i64 p.1) ∧ w.cell? ⟨b, off + 1, none⟩ = some (.int .i64 p.2) ∧ l.length + 1 ≤ c) := by
  have hl : ls[i]? = some ls[i] := List.getElem?_eq_getElem hi
  obtain ⟨A, c, hc, _, hr, hle⟩ := H.at hl
  have hg := getD_nil hl
  generalize ls[i] = l at *
  cases l with
  | nil => exact .inl ⟨hg, A, c, hc⟩
  | cons p l =>
    rw [flat_cons] at hr
    obtain ⟨b, off, rfl, _, hcc⟩ := hr.form (by simp)
    exact .inr ⟨p, l, b, off, c, hg, hc, hcc 0 _ rfl, hcc 1 _ rfl, hle⟩

theorem leaves_any (g base : Nat) (ls : Ls) (sz : Int) (w : World) (H : MoundRep w base g ls sz) (hl : ls.length ≤ 64) :
    Calls Try.prog 75 #[.pointer (some ⟨g, 0, none⟩)] w fun e w' => e = .returned (.int .i64 ((ls.length / 2 : Nat) : Int)) ∧ w = w' := by
  obtain ⟨h, hb, _, _, _⟩ := H
  have c0 := hb.cell 0
  simp at c0
  clear hb
  go_enter Try.func75, Try.ntmps75
  go_wp2
  go_ret
  exact ⟨ret_i (by simp), rfl⟩

theorem fits_any (g base : Nat) (ls : Ls) (sz : Int) (i : Nat) (key : Int) (w : World) (H : MoundRep w base g ls sz) (hl : ls.length ≤ 64) (hi : i < ls.length) :
    Calls Try.prog 62 #[.pointer (some ⟨g, 0, none⟩), .int .i64 (i : Int), .int .i64 key] w fun e w' => e = .returned (.bool (fitsP ls i key)) ∧ w = w' := by
  obtain ⟨h, hb, _, _, hH⟩ := H
  have c0 := hb.cell 0
  simp at c0
  clear hb
  rcases hH.look hi with ⟨hn, A, c, hc⟩ | ⟨p, l, b, off, c, hn, hc, k0, k1, hlc⟩
  · go_enter Try.func62, Try.ntmps62
    go_wp2
    go_ret
    exact ⟨ret_b (by rw [fitsP, hn.out]), rfl⟩
  · have hne : (((l.length : Int) + 1) == 0) = false := by simp; omega
    go_enter Try.func62, Try.ntmps62
    go_wp2
    go_ret
    exact ⟨ret_b (by rw [fitsP, hn.out]), rfl⟩

theorem less_any (g base : Nat) (ls : Ls) (sz : Int) (i k : Nat) (w : World) (H : MoundRep w base g ls sz) (hl : ls.length ≤ 64) (hi : i < ls.length) (hk : k < ls.length) :
    Calls Try.prog 77 #[.pointer (some ⟨g, 0, none⟩), .int .i64 (i : Int), .int .i64 (k : Int)] w fun e w' => e = .returned (.bool (lessP ls i k)) ∧ Ext w w' := by
  obtain ⟨h, hb, _, _, hH⟩ := H
  have c0 := hb.cell 0
  simp at c0
  clear hb
  rcases hH.look hi with ⟨hn, A, c, hc⟩ | ⟨p, l, b, off, c, hn, hc, k0, k1, hlc⟩
  · go_enter Try.func77, Try.ntmps77
    go_wp2_with (go_quiet (fail))
    go_ret
    exact ⟨ret_b (by rw [lessP, hn.out]), by (repeat (first | assumption | exact Ext.rf _ | apply Ext.drew | apply Ext.drewN | apply Ext.alloc))⟩
  · have hne : (0 : Int) < (l.length : Int) + 1 := by omega
    rcases hH.look hk with ⟨hn', A', c', hc'⟩ | ⟨p', l', b', off', c', hn', hc', k0', k1', hlc'⟩
    · go_enter Try.func77, Try.ntmps77
      go_wp2_with (go_quiet (fail))
      go_ret
      exact ⟨ret_b (by rw [lessP, hn.out, hn'.out]), by (repeat (first | assumption | exact Ext.rf _ | apply Ext.drew | apply Ext.drewN | apply Ext.alloc))⟩
    · have hne' : (((l'.length : Int) + 1) == 0) = false := by simp; omega
      go_enter Try.func77, Try.ntmps77
      go_wp2_with (go_quiet (fail))
      go_ret
      exact ⟨ret_b (by rw [lessP, hn.out, hn'.out]), by (repeat (first | assumption | exact Ext.rf _ | apply Ext.drew | apply Ext.drewN | apply Ext.alloc))⟩
end Go.Proofs.Ythmjeajfchpdoaa
