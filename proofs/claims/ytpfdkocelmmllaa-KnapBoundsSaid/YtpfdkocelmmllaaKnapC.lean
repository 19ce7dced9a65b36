/-
  A knapsack's kernel as New makes it: what an append and a store do to it.
-/
import Derived.Test.YtpfdkocelmmllaaKnapB
namespace Go.Proofs.Ytpfdkocelmmllaa
open Go.RowKit Go.ChangeShapes Go.WideShapes Go.ChangeAt Go.Deep

section
variable {w w2 : World} {base g pn pc wc vc hc c' : Nat} {cap x : Int} {PA WA VA HA A' : Option Addr} {ws vs bs : List Int}
theorem fill_w (hB : Blk w g 91 #[.int .i64 cap, .slice PA pn pc, .slice WA ws.length wc, .slice VA vs.length vc, .slice HA bs.length hc]) (hg : base ≤ g)
    (hW : OwI w base WA wc ws) (hV : OwI w base VA vc vs) (hH : OwI w base HA hc bs) (d1 : Dis WA VA) (d2 : Dis WA HA) (d3 : Dis VA HA)
    (hgr : w.grownBy w2 (bl WA)) (o2 : OwI w2 base A' c' (ws ++ [x])) (alt : bl A' = bl WA ∨ ∃ g, bl A' = some g ∧ w.heap.size ≤ g) :
    Blk w2 g 91 #[.int .i64 cap, .slice PA pn pc, .slice WA ws.length wc, .slice VA vs.length vc, .slice HA bs.length hc] ∧
    Fill (w2.setCell ⟨g, 2, none⟩ (.slice A' (ws.length + 1) c')) base g cap PA pn pc (ws ++ [x]) vs bs := by
  have M : Mod (fun k => bl WA = some k) w w2 := append_mod hW hgr
  have hB2 := hB.mod M fun h => hW.ne hB (by decide) g h rfl
  have hV2 := hV.mod M fun k hk h => d1 k h hk
  have hH2 := hH.mod M fun k hk h => d2 k h hk
  refine ⟨hB2, A', c', VA, vc, HA, hc, ?_, hg, o2.far hB2 (by decide) 2 _, hV2.far hB2 (by decide) 2 _, hH2.far hB2 (by decide) 2 _, d1.after hV alt, d2.after hH alt, d3⟩
  rw [List.length_append]
  exact hB2.set 2 _
theorem fill_v (hB : Blk w g 91 #[.int .i64 cap, .slice PA pn pc, .slice WA ws.length wc, .slice VA vs.length vc, .slice HA bs.length hc]) (hg : base ≤ g)
    (hW : OwI w base WA wc ws) (hV : OwI w base VA vc vs) (hH : OwI w base HA hc bs) (d1 : Dis WA VA) (d2 : Dis WA HA) (d3 : Dis VA HA)
    (hgr : w.grownBy w2 (bl VA)) (o2 : OwI w2 base A' c' (vs ++ [x])) (alt : bl A' = bl VA ∨ ∃ g, bl A' = some g ∧ w.heap.size ≤ g) :
    Blk w2 g 91 #[.int .i64 cap, .slice PA pn pc, .slice WA ws.length wc, .slice VA vs.length vc, .slice HA bs.length hc] ∧
    Fill (w2.setCell ⟨g, 3, none⟩ (.slice A' (vs.length + 1) c')) base g cap PA pn pc ws (vs ++ [x]) bs := by
  have M : Mod (fun k => bl VA = some k) w w2 := append_mod hV hgr
  have hB2 := hB.mod M fun h => hV.ne hB (by decide) g h rfl
  have hW2 := hW.mod M fun k hk h => d1.symm k h hk
  have hH2 := hH.mod M fun k hk h => d3 k h hk
  refine ⟨hB2, WA, wc, A', c', HA, hc, ?_, hg, hW2.far hB2 (by decide) 3 _, o2.far hB2 (by decide) 3 _, hH2.far hB2 (by decide) 3 _, (d1.symm.after hW alt).symm, d2, d3.after hH alt⟩
  rw [List.length_append]
  exact hB2.set 3 _
end
/-- one of the sums from behind -/
theorem fill_b {w : World} {base g pn pc wc vc hc hb k : Nat} {cap y : Int} {PA WA VA : Option Addr} {ws vs bs : List Int} (hB : Blk w g 91 #[.int .i64 cap, .slice PA pn pc, .slice WA ws.length wc, .slice VA vs.length vc, .slice (some ⟨hb, 0, none⟩) bs.length hc]) (hg : base ≤ g)
    (hW : OwI w base WA wc ws) (hV : OwI w base VA vc vs) (hH : OwI w base (some ⟨hb, 0, none⟩) hc bs) (d1 : Dis WA VA) (d2 : Dis WA (some ⟨hb, 0, none⟩)) (d3 : Dis VA (some ⟨hb, 0, none⟩))
    (hs : OwI (w.setCell ⟨hb, k, none⟩ (.int .i64 y)) base (some ⟨hb, 0, none⟩) hc (bs.set k y)) :
    Fill (w.setCell ⟨hb, k, none⟩ (.int .i64 y)) base g cap PA pn pc ws vs (bs.set k y) := by
  have M : Mod (fun q => q = hb) w (w.setCell ⟨hb, k, none⟩ (.int .i64 y)) := Mod.set (S := fun q => q = hb) (p := ⟨hb, k, none⟩) (Mod.rf w) (.inl rfl) _
  have hne : ¬ g = hb := fun h => hH.ne hB (by decide) hb rfl h.symm
  refine ⟨WA, wc, VA, vc, _, hc, ?_, hg, hW.mod M fun q hq h => d2 q hq (by subst h; rfl), hV.mod M fun q hq h => d3 q hq (by subst h; rfl), hs, d1, d2, d3⟩
  rw [List.length_set]
  exact hB.mod M hne
/-- the sums from behind: nought before place k, and from there on -/
def sumsL (vs : List Int) (k : Nat) : List Int := (List.range (vs.length + 1)).map fun i => if i < k then 0 else sumL (vs.drop i)
theorem sumsL_len (vs : List Int) (k : Nat) : (sumsL vs k).length = vs.length + 1 := by simp [sumsL]
theorem sumsL_full (vs : List Int) : sumsL vs vs.length = List.replicate (vs.length + 1) 0 := by
  refine List.ext_getElem (by simp [sumsL]) fun i h1 h2 => ?_
  simp only [sumsL, List.getElem_map, List.getElem_range, List.getElem_replicate]
  split
  · rfl
  · rw [List.drop_of_length_le (by omega)]; rfl
theorem sumsL_get {vs : List Int} {k i : Nat} (hi : i ≤ vs.length) (hk : k ≤ i) : (sumsL vs k)[i]? = some (sumL (vs.drop i)) := by
  unfold sumsL
  rw [List.getElem?_map, List.getElem?_range (by omega)]
  simp [show ¬ i < k by omega]
theorem sumsL_set {vs : List Int} {k : Nat} {v : Int} (hv : vs[k]? = some v) : (sumsL vs (k + 1)).set k (sumL (vs.drop (k + 1)) + v) = sumsL vs k := by
  obtain ⟨hk, hv⟩ := List.getElem?_eq_some_iff.1 hv
  refine List.ext_getElem (by simp [sumsL]) fun i h1 h2 => ?_
  rw [List.getElem_set]
  simp only [sumsL, List.getElem_map, List.getElem_range]
  by_cases h : k = i
  · subst h
    rw [if_pos rfl, if_neg (by omega), List.drop_eq_getElem_cons hk, hv]
    simp only [sumL]
    omega
  · rw [if_neg h]
    by_cases h3 : i < k
    · rw [if_pos (by omega), if_pos h3]
    · rw [if_neg (by omega), if_neg h3]
theorem sumL_bd {vs : List Int} (h : Small31 vs) (k : Nat) : 0 ≤ sumL (vs.drop k) ∧ sumL (vs.drop k) ≤ 2147483647 * vs.length := by
  have key : ∀ l : List Int, (∀ x ∈ l, 0 ≤ x ∧ x ≤ 2147483647) → 0 ≤ sumL l ∧ sumL l ≤ 2147483647 * l.length := by
    intro l
    induction l with
    | nil => intro _; simp [sumL]
    | cons x l ih =>
      intro hl
      have h1 := hl x (by simp)
      have h2 := ih fun y hy => hl y (by simp [hy])
      simp only [sumL, List.length_cons, Int.natCast_add, Int.natCast_one]
      omega
  have h1 := key (vs.drop k) fun x hx => h x (List.mem_of_mem_drop hx)
  have h2 : (vs.drop k).length ≤ vs.length := by simp
  omega
theorem inOrder_len (l : List Nat) (v : List Int) : (inOrder l v).length = l.length := by simp [inOrder]
theorem inOrder_succ {l : List Nat} {k n : Nat} {v : List Int} {x : Int} (h : l[k]? = some n) (hx : v[n]? = some x) : inOrder (l.take (k + 1)) v = inOrder (l.take k) v ++ [x] := by
  obtain ⟨hk, h⟩ := List.getElem?_eq_some_iff.1 h
  unfold inOrder
  rw [List.take_succ_eq_append_getElem hk, List.map_append, h]
  simp [List.getD, hx]
theorem inOrder_get {l : List Nat} {k n : Nat} {v : List Int} {x : Int} (h : l[k]? = some n) (hx : v[n]? = some x) : (inOrder l v)[k]? = some x := by
  unfold inOrder
  rw [List.getElem?_map, h]
  simp [List.getD, hx]
end Go.Proofs.Ytpfdkocelmmllaa
