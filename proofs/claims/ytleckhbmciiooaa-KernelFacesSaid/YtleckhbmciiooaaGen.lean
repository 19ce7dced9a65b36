/-
  Slices of whatever element type, cell by cell: what they read as, what a call owns, how append and make turn them.
-/
import Derived.Test.YtleckhbmciiooaaOwn
namespace Go.Proofs.Ytleckhbmciiooaa
open Go.RowKit Go.ChangeShapes Go.WideShapes Go.ChangeAt

/-- the slice with head A (of elements of type e) reads as these cells -/
def RdV (w : World) (e : TypeId) (A : Option Addr) (vs : List Value) : Prop :=
  vs = [] ∨ ∃ b off cur, A = some ⟨b, off, none⟩ ∧ w.heap[b]? = some (.cells cur e (0, 0)) ∧ ∀ j v, vs[j]? = some v → cur[off + j]? = some v
/-- the same, of a block of whatever make -/
def RdC (w : World) (A : Option Addr) (vs : List Value) : Prop :=
  vs = [] ∨ ∃ b off, A = some ⟨b, off, none⟩ ∧ b < w.heap.size ∧ ∀ j v, vs[j]? = some v → w.cell? ⟨b, off + j, none⟩ = some v
section
variable {w w' : World} {e : TypeId} {A : Option Addr} {vs : List Value}
theorem RdV.nil (w : World) (e : TypeId) (A : Option Addr) : RdV w e A [] := .inl rfl
theorem RdV.rdC (h : RdV w e A vs) : RdC w A vs := by
  rcases h with rfl | ⟨b, off, cur, rfl, hb, hc⟩
  · exact .inl rfl
  · exact .inr ⟨b, off, rfl, (Array.getElem?_eq_some_iff.1 hb).1, fun j v hj => by rw [cell_of_row w b _ cur e (0, 0) hb]; exact hc j v hj⟩
theorem RdC.ext (h : RdC w A vs) (hb : Ext w w') : RdC w' A vs := by
  rcases h with rfl | ⟨b, off, rfl, hlt, hc⟩
  · exact .inl rfl
  · exact .inr ⟨b, off, rfl, Nat.lt_of_lt_of_le hlt hb.size, fun j v hj => by rw [hb.cell hlt]; exact hc j v hj⟩
theorem RdV.keep (h : RdV w e A vs) (hb : ∀ b, bl A = some b → w'.heap[b]? = w.heap[b]?) : RdV w' e A vs := by
  rcases h with rfl | ⟨b, off, cur, rfl, hh, hc⟩
  · exact .inl rfl
  · exact .inr ⟨b, off, cur, rfl, (hb b rfl).trans hh, hc⟩
theorem RdV.lt (h : RdV w e A vs) (hne : vs ≠ []) : ∀ b, bl A = some b → b < w.heap.size := by
  intro b hb
  rcases h with rfl | ⟨b', off, cur, rfl, hh, hc⟩
  · exact absurd rfl hne
  · simp [bl] at hb
    subst hb
    exact (Array.getElem?_eq_some_iff.1 hh).1
theorem RdV.ext (h : RdV w e A vs) (hx : Ext w w') : RdV w' e A vs := by
  rcases h with rfl | ⟨b, off, cur, rfl, hh, hc⟩
  · exact .inl rfl
  · exact .inr ⟨b, off, cur, rfl, (hx.block b (Array.getElem?_eq_some_iff.1 hh).1).trans hh, hc⟩
/-- blocks of other element types may turn -/
theorem RdV.mod {S : Nat → Prop} (h : RdV w e A vs) (hm : Mod S w w') (hS : ∀ k cur, w.heap[k]? = some (.cells cur e (0, 0)) → ¬ S k) : RdV w' e A vs := by
  rcases h with rfl | ⟨b, off, cur, rfl, hh, hc⟩
  · exact .inl rfl
  · exact .inr ⟨b, off, cur, rfl, (hm.block b (Array.getElem?_eq_some_iff.1 hh).1 (hS b cur hh)).trans hh, hc⟩
theorem RdV.blk {b : Nat} {cs : Array Value} (h : Blk w b e cs) : RdV w e (some ⟨b, 0, none⟩) cs.toList :=
  .inr ⟨b, 0, cs, rfl, h, fun j v hj => by simpa using hj⟩
theorem RdV.at (h : RdV w e A vs) {j : Nat} (hj : j < vs.length) : ∃ b off v, A = some ⟨b, off, none⟩ ∧ b < w.heap.size ∧ w.cell? ⟨b, off + j, none⟩ = some v ∧ Hid (vs[j]? = some v) := by
  rcases h.rdC with rfl | ⟨b, off, rfl, hlt, hc⟩
  · simp at hj
  · exact ⟨b, off, vs[j], rfl, hlt, hc j _ (List.getElem?_eq_getElem hj), List.getElem?_eq_getElem hj⟩
theorem RdV.form (h : RdV w e A vs) (hne : vs ≠ []) : ∃ b off, A = some ⟨b, off, none⟩ ∧ b < w.heap.size ∧ ∀ j v, vs[j]? = some v → w.cell? ⟨b, off + j, none⟩ = some v := by
  rcases h.rdC with rfl | ⟨b, off, rfl, hlt, hc⟩
  · exact absurd rfl hne
  · exact ⟨b, off, rfl, hlt, hc⟩
/-- x[k:] -/
theorem RdV.drop (h : RdV w e A vs) (k : Nat) : RdV w e (A.map (·.add k)) (vs.drop k) := by
  rcases h with rfl | ⟨b, off, cur, rfl, hh, hc⟩
  · exact .inl (by simp)
  · refine .inr ⟨b, off + k, cur, by simp [add_plain], hh, fun j v hj => ?_⟩
    rw [List.getElem?_drop] at hj
    rw [Nat.add_assoc]
    exact hc _ v hj
theorem RdV.take (h : RdV w e A vs) (k : Nat) : RdV w e A (vs.take k) := by
  rcases h with rfl | ⟨b, off, cur, rfl, hh, hc⟩
  · exact .inl (by simp)
  · refine .inr ⟨b, off, cur, rfl, hh, fun j v hj => ?_⟩
    rw [List.getElem?_take] at hj
    split at hj
    · exact hc j v hj
    · cases hj
end

/-- a slice of the call's own (blocks from base on): n elements of size cells each -/
def OwV (w : World) (base : Nat) (e : TypeId) (size : Nat) (A : Option Addr) (n c : Nat) (vs : List Value) : Prop := w.ownsRow base e size (.slice A n c) n vs
section
variable {w w' : World} {base : Nat} {e : TypeId} {size : Nat} {A : Option Addr} {n c : Nat} {vs : List Value}
theorem OwV.nil (w : World) (base : Nat) (e : TypeId) (size : Nat) : OwV w base e size none 0 0 [] := World.ownsRow_nil _ _ _ _
theorem OwV.cases (h : OwV w base e size A n c vs) : (A = none ∧ c = 0 ∧ n = 0 ∧ vs = []) ∨ ∃ g cur, A = some ⟨g, 0, none⟩ ∧ base ≤ g ∧ w.heap[g]? = some (.cells cur e (0, 0)) ∧ n ≤ c ∧ c ≤ maxLen ∧ cur.size = c * size ∧ cur.toList.take (n * size) = vs := by
  rcases h.2 with ⟨hv, h0⟩ | ⟨g, cap, cur, hv, hb, hg, hn, hm, hs, ht⟩
  · injection hv with h1 _ h3
    have := h.1
    rw [h0, Nat.zero_mul] at this
    exact .inl ⟨h1, h3, h0, List.eq_nil_of_length_eq_zero this⟩
  · injection hv with h1 _ h3
    subst h1 h3
    exact .inr ⟨g, cur, rfl, hb, hg, hn, hm, hs, ht⟩
theorem OwV.mk {g : Nat} {cur : Array Value} (hb : base ≤ g) (hg : w.heap[g]? = some (.cells cur e (0, 0))) (hn : n ≤ c) (hm : c ≤ maxLen) (hs : cur.size = c * size) (ht : cur.toList.take (n * size) = vs) : OwV w base e size (some ⟨g, 0, none⟩) n c vs :=
  ⟨by rw [← ht, List.length_take, Array.length_toList, hs]; exact Nat.min_eq_left (Nat.mul_le_mul_right _ hn), .inr ⟨g, c, cur, rfl, hb, hg, hn, hm, hs, ht⟩⟩
theorem OwV.le (h : OwV w base e size A n c vs) : n ≤ c ∧ c ≤ maxLen := by
  rcases h.cases with ⟨rfl, rfl, rfl, rfl⟩ | ⟨g, cur, rfl, hb, hg, hn, hm, _⟩
  · exact ⟨Nat.le_refl _, zero_le_maxLen⟩
  · exact ⟨hn, hm⟩
theorem OwV.len (h : OwV w base e size A n c vs) : vs.length = n * size := h.1
theorem OwV.read (h : OwV w base e size A n c vs) : RdV w e A vs := by
  rcases h.cases with ⟨rfl, rfl, rfl, rfl⟩ | ⟨g, cur, rfl, hb, hg, hn, hm, hs, ht⟩
  · exact .inl rfl
  · refine .inr ⟨g, 0, cur, rfl, hg, fun j v hj => ?_⟩
    rw [← ht, List.getElem?_take] at hj
    split at hj
    · simpa using hj
    · cases hj
theorem OwV.keep (h : OwV w base e size A n c vs) (hb : ∀ g, bl A = some g → w'.heap[g]? = w.heap[g]?) : OwV w' base e size A n c vs := by
  rcases h.cases with ⟨rfl, rfl, rfl, rfl⟩ | ⟨g, cur, rfl, hb', hg, hn, hm, hs, ht⟩
  · exact OwV.nil _ _ _ _
  · exact .mk hb' ((hb g rfl).trans hg) hn hm hs ht
theorem OwV.lt (h : OwV w base e size A n c vs) : ∀ k, bl A = some k → base ≤ k ∧ k < w.heap.size := by
  intro k hk
  rcases h.cases with ⟨rfl, rfl, rfl, rfl⟩ | ⟨g, cur, rfl, hb', hg, _⟩
  · simp [bl] at hk
  · simp [bl] at hk
    subst hk
    exact ⟨hb', (Array.getElem?_eq_some_iff.1 hg).1⟩
theorem OwV.ext (h : OwV w base e size A n c vs) (hb : Ext w w') : OwV w' base e size A n c vs := h.keep fun g hg => hb.block g (h.lt g hg).2
theorem OwV.more {base' : Nat} (h : OwV w base e size A n c vs) (hb : base' ≤ base) : OwV w base' e size A n c vs := by
  rcases h.cases with ⟨rfl, rfl, rfl, rfl⟩ | ⟨g, cur, rfl, hb', hg, hn, hm, hs, ht⟩
  · exact OwV.nil _ _ _ _
  · exact .mk (Nat.le_trans hb hb') hg hn hm hs ht
theorem OwV.mod {S : Nat → Prop} (h : OwV w base e size A n c vs) (hm : Mod S w w') (hg : ∀ g, bl A = some g → ¬ S g) : OwV w' base e size A n c vs :=
  h.keep fun g hA => hm.block g (h.lt g hA).2 (hg g hA)
theorem OwV.ne {g : Nat} {t : TypeId} {cs : Array Value} (h : OwV w base e size A n c vs) (hg : Blk w g t cs) (ht : t ≠ e) : ∀ k, bl A = some k → ¬ k = g := by
  rintro k hk rfl
  rcases h.cases with ⟨rfl, rfl, rfl, rfl⟩ | ⟨g', cur, rfl, hb', hh, _⟩
  · simp [bl] at hk
  · simp [bl] at hk
    subst hk
    exact Blk.ne (show Blk w g' _ _ from hh) hg (Ne.symm ht) rfl
theorem OwV.set {g : Nat} (h : OwV w base e size (some ⟨g, 0, none⟩) n c vs) {j : Nat} (hj : j < vs.length) (u : Value) :
    w.cell? ⟨g, j, none⟩ = vs[j]? ∧ w.frozen? ⟨g, j, none⟩ = false ∧ base ≤ g ∧ OwV (w.setCell ⟨g, j, none⟩ u) base e size (some ⟨g, 0, none⟩) n c (vs.set j u) := by
  rcases h.cases with ⟨h0, _⟩ | ⟨g', cur, hA, hb, hg, hn, hm, hs, ht⟩
  · cases h0
  · injection hA with hA
    injection hA with hA
    subst hA
    refine ⟨?_, by simp [World.frozen?, hg], hb, .mk (cur := cur.setIfInBounds j u) hb ?_ hn hm (by simpa using hs) ?_⟩
    · rw [cell_of_row w g _ cur _ (0, 0) hg, ← ht, List.getElem?_take, if_pos]
      · simp
      · rw [← ht, List.length_take] at hj
        omega
    · simp [World.setCell, Array.getElem?_modify, hg]
    · simp only [Array.toList_setIfInBounds, ← ht]
      rw [List.take_set]
/-- a block just made, full -/
theorem OwV.full {g : Nat} {cs : Array Value} (h : Blk w g e cs) (hb : base ≤ g) (hs : cs.size = n * size) (hm : n ≤ maxLen) : OwV w base e size (some ⟨g, 0, none⟩) n n cs.toList :=
  .mk hb h (Nat.le_refl _) hm hs (List.take_of_length_le (by rw [Array.length_toList, hs]; exact Nat.le_refl _))
end

section
variable (w : World) {t e : TypeId} {i : TypeInfo} {z : Value} {size bytes : Nat} (ht : Try.prog.underlying t = some (.slice e)) (hi : Try.prog.info? e = some i) (hz : i.zero = some z) (hsize : i.size = size) (hby : i.bytes = bytes) (hzs : z.cells.size = size) (hsz : 0 < size)
include ht hi hz hsize hby hzs hsz

set_option maxRecDepth 100000 in
theorem run_app_v (base : Nat) (ty : TypeId) (A : Option Addr) (n cA : Nat) (xs : List Value) (B : Option Addr) (m c : Nat) (ys : List Value) (hown : OwV w base e size A n cA xs) (hr : RdC w B ys) (hm : ys.length = m * size) (h1 : ∀ u ∈ ys, u.oneCell' = true)
    (h63 : n + m ≤ maxLen) (hbytes : (n + m) * bytes ≤ 140737488355328) (hbase : base ≤ w.heap.size) :
    ∃ A' c' w', (Builtin.append_ #[t, t] ty #[.slice A n cA, .slice B m c]).run Try.prog w = .ok (.slice A' (n + m) c') w' ∧ OwV w' base e size A' (n + m) c' (xs ++ ys) ∧ w.grownBy w' (bl A) ∧ (bl A' = bl A ∨ bl A' = some w.heap.size) := by
  rcases B with _ | ad
  · have hy : ys = [] := by
      rcases hr with h | ⟨b, off, h, _⟩
      · exact h
      · cases h
    subst hy
    have hm0 : m = 0 := by
      simp only [List.length_nil] at hm
      rcases Nat.eq_zero_or_pos m with h | h
      · exact h
      · have := Nat.mul_pos h hsz; omega
    subst hm0
    refine ⟨A, cA, w, ?_, by simpa using hown, ⟨rfl, rfl, rfl, Nat.le_refl _, fun _ _ _ => rfl⟩, .inl rfl⟩
    have hle := hown.le.1
    simp [Builtin.append_, run_underlying ht, sizeOf, typeInfo, hi, Builtin.lenOf, Builtin.firstCells, hle]
    cases A <;> simp [storeCells]
  · have hnews : ∀ j u, ys[j]? = some u → w.cell? (ad.add j) = some u := by
      intro j u hu
      rcases hr with rfl | ⟨b, off, h, _, hc⟩
      · simp at hu
      · injection h with h
        subst h
        rw [add_plain]
        exact hc j u hu
    obtain ⟨v', w', hrun, h2, h3, _, h5⟩ := run_append_own_at (P := Try.prog) w base t ty e i z size bytes ht hi hz hsize hby hzs hsz _ n _ hown ad m c ys hm hnews h1 h63 hbytes hbase
    rw [ownBlock_bl] at h3 h5
    have hv : ∃ A' c', v' = .slice A' (n + m) c' := by
      rcases h2.2 with ⟨rfl, h0⟩ | ⟨g, cap, cur, rfl, _⟩
      · exact ⟨none, 0, by rw [h0]⟩
      · exact ⟨some ⟨g, 0, none⟩, cap, rfl⟩
    obtain ⟨A', c', rfl⟩ := hv
    rw [ownBlock_bl] at h5
    exact ⟨A', c', w', hrun, h2, h3, h5⟩

set_option maxRecDepth 100000 in
/-- append to a slice literal that has just been made: what was there is as it was -/
theorem run_fresh_v (base : Nat) (ty : TypeId) (g n : Nat) (cs : Array Value) (B : Option Addr) (m c : Nat) (ys : List Value) (hg : Blk w g e cs) (hb : base ≤ g) (hn : cs.size = n * size) (hr : RdC w B ys) (hm : ys.length = m * size) (h1 : ∀ u ∈ ys, u.oneCell' = true)
    (h63 : n + m ≤ maxLen) (hbytes : (n + m) * bytes ≤ 140737488355328) :
    ∃ A' c' w', (Builtin.append_ #[t, t] ty #[.slice (some ⟨g, 0, none⟩) n n, .slice B m c]).run Try.prog w = .ok (.slice A' (n + m) c') w' ∧ OwV w' base e size A' (n + m) c' (cs.toList ++ ys) ∧ Ext w w' := by
  by_cases hy : ys = []
  · subst hy
    have hm0 : m = 0 := by
      simp only [List.length_nil] at hm
      rcases Nat.eq_zero_or_pos m with h | h
      · exact h
      · have := Nat.mul_pos h hsz; omega
    subst hm0
    refine ⟨some ⟨g, 0, none⟩, n, w, ?_, by simpa using OwV.full hg hb hn (by simpa using h63), Ext.rf _⟩
    rcases B with _ | ad
    · simp [Builtin.append_, run_underlying ht, sizeOf, typeInfo, hi, Builtin.lenOf, Builtin.firstCells, storeCells]
    · simp [Builtin.append_, run_underlying ht, sizeOf, typeInfo, hi, Builtin.lenOf, Builtin.firstCells, storeCells, loadCells, loadCellsFrom]
  · have hm0 : 0 < m := by
      rcases Nat.eq_zero_or_pos m with h | h
      · rw [h, Nat.zero_mul] at hm
        exact absurd (List.eq_nil_of_length_eq_zero hm) hy
      · exact h
    obtain ⟨b, off, rfl, hc⟩ : ∃ b off, B = some ⟨b, off, none⟩ ∧ ∀ j x, ys[j]? = some x → w.cell? ⟨b, off + j, none⟩ = some x := by
      rcases hr with h | ⟨b, off, h, _, hc⟩
      · exact absurd h hy
      · exact ⟨b, off, h, hc⟩
    have hnews : ∀ j u, ys[j]? = some u → w.cell? ((⟨b, off, none⟩ : Addr).add j) = some u := by
      intro j u hu
      rw [add_plain]
      exact hc j u hu
    have holds : ∀ j u, cs.toList[j]? = some u → w.cell? ((⟨g, 0, none⟩ : Addr).add j) = some u := by
      intro j u hu
      rw [add_plain, hg.cell]
      simpa using hu
    subst hsize hby
    have hrun := run_append_grow (P := Try.prog) w t ty e i z ht hi hz ⟨g, 0, none⟩ n n cs.toList (by rw [Array.length_toList]; exact hn) holds ⟨b, off, none⟩ m c ys hm hnews (by omega) (by have h := h63; simp only [maxLen] at h; omega) (growslice_fits (by omega) hbytes)
    have hge := grownCap_ge w (n + m) n e
    have hle := grownCap_le_maxLen w (n + m) n e h63
    have hlen : (cs.toList ++ ys).length = (n + m) * i.size := by rw [List.length_append, Array.length_toList, hn, hm, Nat.add_mul]
    refine ⟨_, _, _, hrun, .mk (cur := _) (Nat.le_trans hb (Nat.le_of_lt hg.lt)) (heap_alloc_new w.drew _) hge hle ?_ ?_, ((Ext.rf w).drew).alloc _⟩
    · simp only [Array.size_append, List.size_toArray, size_zeroCells, hzs, Array.length_toList, hn, hm, ← Nat.add_mul]
      congr 1
      omega
    · simp only [Array.toList_append, List.append_assoc]
      rw [← List.append_assoc, ← hlen]
      exact List.take_left

theorem wpl_app_v {ops : Array Oper} {rest : List Oper} {o : Oper} {a : Act} {Q : Exit → Act → World → Prop} (hgd : o.guard = none) (s x : Operand)
    (ho : o.op = .call { callee := .builtin .append, args := #[s, x], argTypes := #[t, t] })
    (base : Nat) (A : Option Addr) (n cA : Nat) (xs : List Value) (B : Option Addr) (m c : Nat) (ys : List Value) (hs : a.eval s = .slice A n cA) (hx : a.eval x = .slice B m c) (hown : OwV w base e size A n cA xs) (hr : RdC w B ys) (hm : ys.length = m * size) (h1 : ∀ u ∈ ys, u.oneCell' = true)
    (h63 : n + m ≤ maxLen) (hbytes : (n + m) * bytes ≤ 140737488355328) (hbase : base ≤ w.heap.size)
    (h : ∀ A' c' w', OwV w' base e size A' (n + m) c' (xs ++ ys) → w.grownBy w' (bl A) → (bl A' = bl A ∨ bl A' = some w.heap.size) → wpList Try.prog ops Q rest (a.put o.dst (.slice A' (n + m) c')) w') : wpList Try.prog ops Q (o :: rest) a w :=
  wpList_plain hgd fun _ hK => by
    obtain ⟨A', c', w', hrun, h2, h3, h4⟩ := run_app_v w ht hi hz hsize hby hzs hsz base o.type A n cA xs B m c ys hown hr hm h1 h63 hbytes hbase
    unfold Oper.wp execOp
    simp only [ho, resolve, invoke, builtin, Sem.run_bind, Sem.run_pure, Result.andThen_ok, List.map_toArray, List.map_cons, List.map_nil, hs, hx, hrun]
    exact hK _ _ (h A' c' w' h2 h3 h4)
theorem step_app_v {ops : Array Oper} {o : Oper} {a : Act} {K : Act → World → Prop} {Q : Exit → Act → World → Prop} {E : Prop} (hgd : o.guard = none) (s x : Operand)
    (ho : o.op = .call { callee := .builtin .append, args := #[s, x], argTypes := #[t, t] })
    (base : Nat) (A : Option Addr) (n cA : Nat) (xs : List Value) (B : Option Addr) (m c : Nat) (ys : List Value) (hs : a.eval s = .slice A n cA) (hx : a.eval x = .slice B m c) (hown : OwV w base e size A n cA xs) (hr : RdC w B ys) (hm : ys.length = m * size) (h1 : ∀ u ∈ ys, u.oneCell' = true)
    (h63 : n + m ≤ maxLen) (hbytes : (n + m) * bytes ≤ 140737488355328) (hbase : base ≤ w.heap.size)
    (h : ∀ A' c' w', OwV w' base e size A' (n + m) c' (xs ++ ys) → w.grownBy w' (bl A) → (bl A' = bl A ∨ bl A' = some w.heap.size) → K (a.put o.dst (.slice A' (n + m) c')) w') : if Region.wanted o (yielded ops a.tmps) = true then Oper.wp Try.prog o a w K Q else E := by
  have hw : Region.wanted o (yielded ops a.tmps) = true := by simp [Region.wanted, hgd]
  rw [if_pos hw]
  obtain ⟨A', c', w', hrun, h2, h3, h4⟩ := run_app_v w ht hi hz hsize hby hzs hsz base o.type A n cA xs B m c ys hown hr hm h1 h63 hbytes hbase
  unfold Oper.wp execOp
  simp only [ho, resolve, invoke, builtin, Sem.run_bind, Sem.run_pure, Result.andThen_ok, List.map_toArray, List.map_cons, List.map_nil, hs, hx, hrun]
  exact h A' c' w' h2 h3 h4
theorem wpl_fresh_v {ops : Array Oper} {rest : List Oper} {o : Oper} {a : Act} {Q : Exit → Act → World → Prop} (hgd : o.guard = none) (s x : Operand)
    (ho : o.op = .call { callee := .builtin .append, args := #[s, x], argTypes := #[t, t] })
    (base g n : Nat) (cs : Array Value) (B : Option Addr) (m c : Nat) (ys : List Value) (hs : a.eval s = .slice (some ⟨g, 0, none⟩) n n) (hx : a.eval x = .slice B m c) (hg : Blk w g e cs) (hb : base ≤ g) (hn : cs.size = n * size) (hr : RdC w B ys) (hm : ys.length = m * size) (h1 : ∀ u ∈ ys, u.oneCell' = true)
    (h63 : n + m ≤ maxLen) (hbytes : (n + m) * bytes ≤ 140737488355328)
    (h : ∀ A' c' w', OwV w' base e size A' (n + m) c' (cs.toList ++ ys) → Ext w w' → wpList Try.prog ops Q rest (a.put o.dst (.slice A' (n + m) c')) w') : wpList Try.prog ops Q (o :: rest) a w :=
  wpList_plain hgd fun _ hK => by
    obtain ⟨A', c', w', hrun, h2, h3⟩ := run_fresh_v w ht hi hz hsize hby hzs hsz base o.type g n cs B m c ys hg hb hn hr hm h1 h63 hbytes
    unfold Oper.wp execOp
    simp only [ho, resolve, invoke, builtin, Sem.run_bind, Sem.run_pure, Result.andThen_ok, List.map_toArray, List.map_cons, List.map_nil, hs, hx, hrun]
    exact hK _ _ (h A' c' w' h2 h3)
theorem step_fresh_v {ops : Array Oper} {o : Oper} {a : Act} {K : Act → World → Prop} {Q : Exit → Act → World → Prop} {E : Prop} (hgd : o.guard = none) (s x : Operand)
    (ho : o.op = .call { callee := .builtin .append, args := #[s, x], argTypes := #[t, t] })
    (base g n : Nat) (cs : Array Value) (B : Option Addr) (m c : Nat) (ys : List Value) (hs : a.eval s = .slice (some ⟨g, 0, none⟩) n n) (hx : a.eval x = .slice B m c) (hg : Blk w g e cs) (hb : base ≤ g) (hn : cs.size = n * size) (hr : RdC w B ys) (hm : ys.length = m * size) (h1 : ∀ u ∈ ys, u.oneCell' = true)
    (h63 : n + m ≤ maxLen) (hbytes : (n + m) * bytes ≤ 140737488355328)
    (h : ∀ A' c' w', OwV w' base e size A' (n + m) c' (cs.toList ++ ys) → Ext w w' → K (a.put o.dst (.slice A' (n + m) c')) w') : if Region.wanted o (yielded ops a.tmps) = true then Oper.wp Try.prog o a w K Q else E := by
  have hw : Region.wanted o (yielded ops a.tmps) = true := by simp [Region.wanted, hgd]
  rw [if_pos hw]
  obtain ⟨A', c', w', hrun, h2, h3⟩ := run_fresh_v w ht hi hz hsize hby hzs hsz base o.type g n cs B m c ys hg hb hn hr hm h1 h63 hbytes
  unfold Oper.wp execOp
  simp only [ho, resolve, invoke, builtin, Sem.run_bind, Sem.run_pure, Result.andThen_ok, List.map_toArray, List.map_cons, List.map_nil, hs, hx, hrun]
  exact h A' c' w' h2 h3
end
end Go.Proofs.Ytleckhbmciiooaa
