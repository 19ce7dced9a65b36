/-
  mound: Lists: copies of all places' lists.
-/
import Derived.Test.YthmjeajfchpdoaaMoundH
import Derived.Test.YthmjeajfchpdoaaMoundLaw
namespace Go.Proofs.Ythmjeajfchpdoaa
open Go.RowKit Go.ChangeShapes Go.WideShapes Go.ChangeAt

/-- the values vs are the heads of the lists ls -/
def HeadsV (w : World) (E : TypeId) (vs : List Value) (ls : Ls) : Prop :=
  vs.length = ls.length ∧ ∀ (i : Nat) (l : List It), ls[i]? = some l → ∃ (A : Option Addr) (c : Nat), vs[i]? = some (Value.slice A l.length c) ∧ RdV w E A (flat l) ∧ l.length ≤ c
/-- the slice with head A reads as these lists -/
def RdLs (w : World) (E SE : TypeId) (A : Option Addr) (ls : Ls) : Prop := ∃ vs, RdV w SE A vs ∧ HeadsV w E vs ls
section
variable {w w' : World} {E SE : TypeId} {vs : List Value} {ls : Ls}
theorem HeadsV.nil (w : World) (E : TypeId) : HeadsV w E [] [] := ⟨rfl, fun i l h => by simp at h⟩
theorem HeadsV.snoc (h : HeadsV w E vs ls) {l : List It} {A : Option Addr} {c : Nat} (hr : RdV w E A (flat l)) (hl : l.length ≤ c) : HeadsV w E (vs ++ [.slice A l.length c]) (ls ++ [l]) := by
  obtain ⟨h1, h2⟩ := h
  refine ⟨by simp [h1], fun i m hm => ?_⟩
  by_cases hi : i < ls.length
  · rw [List.getElem?_append_left hi] at hm
    obtain ⟨A', c', q1, q2, q3⟩ := h2 i m hm
    exact ⟨A', c', by rw [List.getElem?_append_left (by omega)]; exact q1, q2, q3⟩
  · rw [List.getElem?_append_right (by omega)] at hm
    obtain ⟨h0, hm⟩ := List.getElem?_eq_some_iff.1 hm
    have : i = ls.length := by simp at h0; omega
    subst this
    simp at hm
    subst hm
    exact ⟨A, c, by rw [List.getElem?_append_right (by omega), h1]; simp, hr, hl⟩
theorem HeadsV.ext (h : HeadsV w E vs ls) (hx : Ext w w') : HeadsV w' E vs ls :=
  ⟨h.1, fun i l hl => by obtain ⟨A, c, q1, q2, q3⟩ := h.2 i l hl; exact ⟨A, c, q1, q2.ext hx, q3⟩⟩
theorem HeadsV.modT {base : Nat} {ts : List TypeId} (h : HeadsV w E vs ls) (k : ModT base ts w w') (hE : E ∉ ts) : HeadsV w' E vs ls :=
  ⟨h.1, fun i l hl => by obtain ⟨A, c, q1, q2, q3⟩ := h.2 i l hl; exact ⟨A, c, q1, q2.modT k hE, q3⟩⟩
theorem RdLs.ext {A : Option Addr} (h : RdLs w E SE A ls) (hx : Ext w w') : RdLs w' E SE A ls := by
  obtain ⟨vs, h1, h2⟩ := h
  exact ⟨vs, h1.ext hx, h2.ext hx⟩
/-- the list at a place, its head and its items -/
theorem RdLs.at {A : Option Addr} (h : RdLs w E SE A ls) {i : Nat} (hi : i < ls.length) : ∃ b off A' c' l, A = some ⟨b, off, none⟩ ∧ b < w.heap.size ∧ w.cell? ⟨b, off + i, none⟩ = some (.slice A' l.length c') ∧ RdV w E A' (flat l) ∧ l.length ≤ c' ∧ Hid (ls[i]? = some l) := by
  obtain ⟨vs, h1, h2, h3⟩ := h
  obtain ⟨A', c', q1, q2, q3⟩ := h3 i ls[i] (List.getElem?_eq_getElem hi)
  obtain ⟨b, off, v, rfl, hb, hc, hv⟩ := h1.at (j := i) (by omega)
  have hv := hv.out
  rw [q1] at hv
  injection hv with hv
  subst hv
  exact ⟨b, off, A', c', ls[i], rfl, hb, hc, q2, q3, List.getElem?_eq_getElem hi⟩
theorem OwV.grownT {base size n c : Nat} {A : Option Addr} {xs : List Value} (h : OwV w base E size A n c xs) (hg : w.grownBy w' (bl A)) : ModT base [E] w w' := by
  refine Mod.grown hg fun g hA => ?_
  rcases h.cases with ⟨rfl, _⟩ | ⟨g', cur, rfl, hb, hh, _⟩
  · simp [bl] at hA
  · simp [bl] at hA
    subst hA
    exact ⟨hb, cur, _, hh, by simp⟩
end

theorem lists_none (w : World) : Calls Try.prog 44 #[.pointer none] w fun e w' => e = .returned (.slice none 0 0) ∧ w = w' := by
  go_enter Try.func44, Try.ntmps44
  go_wp2
  go_ret
  exact ⟨rfl, rfl⟩
/-- what Lists answers -/
def ListsPost (ls : Ls) (w : World) (e : Ending) (w' : World) : Prop := ∃ A c, e = .returned (.slice A (ls.length - 1) c) ∧ RdLs w' 61 82 A (ls.drop 1) ∧ Ext w w'
set_option maxRecDepth 100000 in
set_option maxHeartbeats 1000000 in
theorem lists_any (g base : Nat) (ls : Ls) (sz : Int) (w : World) (H : MoundRep w base g ls sz) (h2 : 2 ≤ ls.length) (hl64 : ls.length ≤ 64) (hll : ∀ l ∈ ls, l.length ≤ 2 ^ 40) :
    Calls Try.prog 44 #[.pointer (some ⟨g, 0, none⟩)] w (ListsPost ls w) := by
  obtain ⟨h, hb, _, _, hH⟩ := H
  have c0 := hb.cell 0
  simp at c0
  clear hb
  obtain ⟨i0, hi, hz0, hz1, hz2⟩ := info_parts heads_info
  have hc1 : ¬ ls.length = 1 := by omega
  replace hi := Lib.hid hi
  replace hz0 := Lib.hid hz0
  replace hz1 := Lib.hid hz1
  replace hz2 := Lib.hid hz2
  go_enter Try.func44, Try.ntmps44
  go_wp2_with (fail)
  go_loopw [3, 14] (fun v i wr => ∃ (k : Nat) (A' : Option Addr) (c' : Nat) (vs : List Value), i = .int .i64 k ∧ v = .slice A' k c' ∧ k ≤ ls.length - 1 ∧ Hid (OwV wr w.heap.size 82 1 A' k c' vs) ∧ Hid (HeadsV wr 61 vs ((ls.drop 1).take k)) ∧ Ext w wr) (fun _ i _ => ls.length - 1 - (intOf i).toNat)
  case atStart => exact ⟨0, none, 0, [], rfl, rfl, by omega, OwV.nil _ _ _ _, Lib.hid (by simpa using HeadsV.nil w 61), Ext.rf _⟩
  case round =>
    obtain ⟨k, A', c', vs, rfl, rfl, hk, ho, hV, X⟩ := hrel
    by_cases hlt : k < ls.length - 1
    · have hk1 : 1 + k < ls.length := by omega
      have hl : ls[1 + k]? = some ls[1 + k] := List.getElem?_eq_getElem hk1
      obtain ⟨A2, c2, hc2, _, hr2, hl2⟩ := hH.at hl
      have hlm := hll _ (List.getElem_mem hk1)
      have hsn : (ls.drop 1).take (k + 1) = (ls.drop 1).take k ++ [ls[1 + k]] := by
        rw [List.take_succ_eq_append_getElem (by simp; omega)]
        simp [Nat.add_comm]
      have hc2' := (X.cells.1 _ (1 + k) hH.lt).trans hc2
      generalize ls[1 + k] = l at *
      replace hsn := Lib.hid hsn
      have hr2' := Lib.hid (hr2.ext X)
      clear hl hc2 hr2
      have hlt' : (k : Int) < (ls.length : Int) - 1 := by omega
      go_wp2_with (fail)
      refine (cloneItems_any A2 c2 l _ hr2'.out hlm).mono ?_
      rintro e w2 ⟨A3, c3, rfl, hr3, hl3, x3⟩
      have o2 := ho.out.ext x3
      have V2 := hV.out.ext x3
      have X2 := X.tr x3
      have hzw := X2.size
      replace hr3 := Lib.hid hr3
      replace V2 := Lib.hid V2
      clear ho hV hr2' hc2' X
      go_wp2_with (at_builtin; refine wpl_app_v _ (e := 82) Try.underlying69 hi.out hz0.out hz1.out hz2.out (by simp [Value.cells]) (by omega) rfl _ _ rfl w.heap.size A' k c' vs (some ⟨w2.heap.size, 0, none⟩) 1 1 [.slice A3 l.length c3] rfl rfl ?_ ?_ ?_ ?_ ?_ ?_ ?_ ?_; (exact o2.ext ((Ext.rf _).alloc _)); (exact (RdV.blk (.new (by simp))).rdC); (simp); (simp [Value.oneCell']); (simp only [maxLen]; omega); omega; (first | exact Nat.le_refl _ | omega | (focus (simp; try omega))); rintro A4 c4 w4 o4 g4 _)
      have M4 : ModT w.heap.size [82] w2 w4 := (ModT.of_ext ((Ext.rf _).alloc _)).tr ((o2.ext ((Ext.rf _).alloc _)).grownT g4)
      go_roundw
      case rel => exact ⟨k + 1, A4, c4, _, by go_num, rfl, by omega, o4, (by rw [hsn.out]; exact (V2.out.modT M4 (by decide)).snoc (hr3.out.modT M4 (by decide)) hl3), X2.modT M4 (Nat.le_refl _)⟩
      case measure => simp [intOf]; omega
    · obtain rfl : k = ls.length - 1 := by omega
      have hlt' : ¬ ((ls.length - 1 : Nat) : Int) < (ls.length : Int) - 1 := by omega
      go_wp2_with (fail)
      go_ret
      exact ⟨A', c', rfl, ⟨vs, ho.out.read, by have := hV.out; rwa [List.take_of_length_le (by simp)] at this⟩, X⟩
end Go.Proofs.Ythmjeajfchpdoaa
