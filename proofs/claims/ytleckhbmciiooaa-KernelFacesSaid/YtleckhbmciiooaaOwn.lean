/-
  Slices of ints that a call itself makes: what they own, how append and make turn them.
-/
import Derived.Test.YtleckhbmciiooaaK
import Derived.Maps.AppendAt
namespace Go.Proofs.Ytleckhbmciiooaa
open Go.RowKit Go.ChangeShapes Go.WideShapes Go.ChangeAt

theorem int_info : (Try.prog.info? 3).map (fun i => (i.zero, i.size, i.bytes)) = some (some (.int .i64 0), 1, 8) := by kernel_rfl

/-- the slice with head A and capacity c is one of the call's own (blocks from base on) that holds the ints xs -/
def OwI (w : World) (base : Nat) (A : Option Addr) (c : Nat) (xs : List Int) : Prop := w.ownsRow base 3 1 (.slice A xs.length c) xs.length (xs.map (Value.int .i64))
/-- the block that a slice lies in -/
def bl (A : Option Addr) : Option Nat := A.map (·.block)
theorem ownBlock_bl (A : Option Addr) (n c : Nat) : (Value.slice A n c).ownBlock = bl A := by cases A <;> rfl

section
variable {w w' : World} {base : Nat} {A : Option Addr} {c : Nat} {xs : List Int}
theorem OwI.nil (w : World) (base : Nat) : OwI w base none 0 [] := World.ownsRow_nil _ _ _ _
theorem OwI.cases (h : OwI w base A c xs) : (A = none ∧ c = 0 ∧ xs = []) ∨ ∃ g cur, A = some ⟨g, 0, none⟩ ∧ base ≤ g ∧ w.heap[g]? = some (.cells cur 3 (0, 0)) ∧ xs.length ≤ c ∧ c ≤ maxLen ∧ cur.size = c * 1 ∧ cur.toList.take (xs.length * 1) = xs.map (Value.int .i64) := by
  rcases h.2 with ⟨hv, h0⟩ | ⟨g, cap, cur, hv, hb, hg, hn, hm, hs, ht⟩
  · have : xs = [] := List.eq_nil_of_length_eq_zero h0
    subst this
    injection hv with h1 _ h3
    exact .inl ⟨h1, h3, rfl⟩
  · injection hv with h1 _ h3
    subst h1 h3
    exact .inr ⟨g, cur, rfl, hb, hg, hn, hm, hs, ht⟩
theorem OwI.mk {g : Nat} {cur : Array Value} (hb : base ≤ g) (hg : w.heap[g]? = some (.cells cur 3 (0, 0))) (hn : xs.length ≤ c) (hm : c ≤ maxLen) (hs : cur.size = c * 1) (ht : cur.toList.take (xs.length * 1) = xs.map (Value.int .i64)) : OwI w base (some ⟨g, 0, none⟩) c xs :=
  ⟨by simp, .inr ⟨g, c, cur, rfl, hb, hg, hn, hm, hs, ht⟩⟩
theorem OwI.le (h : OwI w base A c xs) : xs.length ≤ c ∧ c ≤ maxLen := by
  rcases h.cases with ⟨rfl, rfl, rfl⟩ | ⟨g, cur, rfl, hb, hg, hn, hm, _⟩
  · exact ⟨Nat.le_refl _, zero_le_maxLen⟩
  · exact ⟨hn, hm⟩
theorem OwI.read (h : OwI w base A c xs) : RdI w A xs := by
  rcases h.cases with ⟨rfl, rfl, rfl⟩ | ⟨g, cur, rfl, hb, hg, hn, hm, hs, ht⟩
  · exact .inl rfl
  · have hlt := (Array.getElem?_eq_some_iff.1 hg).1
    refine .inr ⟨g, 0, rfl, hlt, fun j x hj => ?_⟩
    rw [cell_of_row w g _ cur _ (0, 0) hg]
    have hj' : (xs.map (Value.int .i64))[j]? = some (.int .i64 x) := by simp [hj]
    rw [← ht, List.getElem?_take] at hj'
    split at hj'
    · simpa using hj'
    · cases hj'
theorem OwI.keep (h : OwI w base A c xs) (hb : ∀ g, bl A = some g → w'.heap[g]? = w.heap[g]?) : OwI w' base A c xs := by
  rcases h.cases with ⟨rfl, rfl, rfl⟩ | ⟨g, cur, rfl, hb', hg, hn, hm, hs, ht⟩
  · exact OwI.nil _ _
  · exact .mk hb' ((hb g rfl).trans hg) hn hm hs ht
theorem OwI.lt (h : OwI w base A c xs) : ∀ k, bl A = some k → base ≤ k ∧ k < w.heap.size := by
  intro k hk
  rcases h.cases with ⟨rfl, rfl, rfl⟩ | ⟨g, cur, rfl, hb', hg, _⟩
  · simp [bl] at hk
  · simp [bl] at hk
    subst hk
    exact ⟨hb', (Array.getElem?_eq_some_iff.1 hg).1⟩
theorem OwI.ext (h : OwI w base A c xs) (hb : Ext w w') : OwI w' base A c xs := h.keep fun g hg => hb.block g (h.lt g hg).2
theorem OwI.more {base' : Nat} (h : OwI w base A c xs) (hb : base' ≤ base) : OwI w base' A c xs := by
  rcases h.cases with ⟨rfl, rfl, rfl⟩ | ⟨g, cur, rfl, hb', hg, hn, hm, hs, ht⟩
  · exact OwI.nil _ _
  · exact .mk (Nat.le_trans hb hb') hg hn hm hs ht
theorem OwI.at (h : OwI w base A c xs) {k : Nat} (hk : k < xs.length) :
    ∃ g x, A = some ⟨g, 0, none⟩ ∧ base ≤ g ∧ g < w.heap.size ∧ w.cell? ⟨g, k, none⟩ = some (.int .i64 x) ∧ w.frozen? ⟨g, k, none⟩ = false ∧ Hid (xs[k]? = some x) ∧
      Hid (∀ y, OwI (w.setCell ⟨g, k, none⟩ (.int .i64 y)) base A c (xs.set k y)) := by
  rcases h.cases with ⟨rfl, rfl, rfl⟩ | ⟨g, cur, rfl, hb, hg, hn, hm, hs, ht⟩
  · simp at hk
  · have hlt := (Array.getElem?_eq_some_iff.1 hg).1
    have hxk : xs[k]? = some xs[k] := List.getElem?_eq_getElem hk
    have hc : w.cell? ⟨g, k, none⟩ = some (.int .i64 xs[k]) := by
      rw [cell_of_row w g _ cur _ (0, 0) hg]
      have hj' : (xs.map (Value.int .i64))[k]? = some (.int .i64 xs[k]) := by simp [hxk]
      rw [← ht, List.getElem?_take] at hj'
      split at hj'
      · simpa using hj'
      · cases hj'
    refine ⟨g, xs[k], rfl, hb, hlt, hc, by simp [World.frozen?, hg], hxk, fun y => .mk (cur := cur.setIfInBounds k (.int .i64 y)) hb ?_ (by simpa using hn) hm (by simpa using hs) ?_⟩
    · simp [World.setCell, Array.getElem?_modify, hg]
    · simp only [List.length_set, Array.toList_setIfInBounds, List.map_set, ← ht]
      rw [List.take_set]
theorem OwI.cell {g : Nat} (h : OwI w base (some ⟨g, 0, none⟩) c xs) {k : Nat} (hk : k < xs.length) :
    ∃ x, w.cell? ⟨g, k, none⟩ = some (.int .i64 x) ∧ w.frozen? ⟨g, k, none⟩ = false ∧ base ≤ g ∧ Hid (xs[k]? = some x) ∧ Hid (∀ y, OwI (w.setCell ⟨g, k, none⟩ (.int .i64 y)) base (some ⟨g, 0, none⟩) c (xs.set k y)) := by
  obtain ⟨g', x, hv, hb, hlt, hc, hf, hx, hs⟩ := h.at hk
  injection hv with h1
  injection h1 with h1
  subst h1
  exact ⟨x, hc, hf, hb, hx, hs⟩
theorem OwI.new {cs : Array Value} (hx : cs.toList = xs.map (Value.int .i64)) (hb : base ≤ w.heap.size) (hm : xs.length ≤ maxLen) : OwI (w.alloc (.cells cs 3)) base (some ⟨w.heap.size, 0, none⟩) xs.length xs := by
  refine .mk (cur := cs) hb (heap_alloc_new w _) (Nat.le_refl _) hm ?_ ?_
  · rw [← Array.length_toList, hx]; simp
  · rw [hx, List.take_of_length_le (by simp)]
end
theorem Ext.grow {a w w' : World} {row : Option Nat} (h : Ext a w) (hg : w.grownBy w' row) (hr : ∀ k, row = some k → a.heap.size ≤ k) : Ext a w' := Below.grown h hg h.size hr
theorem Ext.grownNone {a w w' : World} (h : Ext a w) (hg : w.grownBy w' none) : Ext a w' := h.grow hg (fun k hk => by cases hk)

/-- what was there is as it was, but for the blocks of S -/
structure Mod (S : Nat → Prop) (w w' : World) : Prop where
  os : w'.os = w.os
  tape : w'.tape = w.tape
  output : w'.output = w.output
  size : w.heap.size ≤ w'.heap.size
  block : ∀ k, k < w.heap.size → ¬ S k → w'.heap[k]? = w.heap[k]?
theorem Mod.of_ext {S : Nat → Prop} {w w' : World} (h : Ext w w') : Mod S w w' := ⟨h.os, h.tape, h.output, h.size, fun k hk _ => h.block k hk⟩
theorem Mod.rf {S : Nat → Prop} (w : World) : Mod S w w := ⟨rfl, rfl, rfl, Nat.le_refl _, fun _ _ _ => rfl⟩
theorem Mod.tr {S : Nat → Prop} {a b c : World} (h : Mod S a b) (k : Mod S b c) : Mod S a c :=
  ⟨k.os.trans h.os, k.tape.trans h.tape, k.output.trans h.output, Nat.le_trans h.size k.size, fun i hi hs => (k.block i (Nat.lt_of_lt_of_le hi h.size) hs).trans (h.block i hi hs)⟩
/-- blocks that are newer count for nothing -/
theorem Mod.tr' {S S' : Nat → Prop} {a b c : World} (h : Mod S a b) (k : Mod S' b c) (hS : ∀ i, i < a.heap.size → S' i → S i) : Mod S a c :=
  ⟨k.os.trans h.os, k.tape.trans h.tape, k.output.trans h.output, Nat.le_trans h.size k.size, fun i hi hs => (k.block i (Nat.lt_of_lt_of_le hi h.size) (fun h' => hs (hS i hi h'))).trans (h.block i hi hs)⟩
theorem Mod.mono {S S' : Nat → Prop} {a b : World} (h : Mod S a b) (hS : ∀ i, i < a.heap.size → S i → S' i) : Mod S' a b :=
  ⟨h.os, h.tape, h.output, h.size, fun i hi hs => h.block i hi (fun h' => hs (hS i hi h'))⟩
theorem Mod.drewN {S : Nat → Prop} {a b : World} (h : Mod S a b) (n : Nat) : Mod S a (b.drewN n) := ⟨h.os, h.tape, h.output, h.size, h.block⟩
theorem Mod.drew {S : Nat → Prop} {a b : World} (h : Mod S a b) : Mod S a b.drew := ⟨h.os, h.tape, h.output, h.size, h.block⟩
theorem Mod.alloc {S : Nat → Prop} {a b : World} (h : Mod S a b) (o : Obj) : Mod S a (b.alloc o) := h.tr (Mod.of_ext ((Ext.rf b).alloc o))
theorem Mod.set {S : Nat → Prop} {a b : World} (h : Mod S a b) {p : Addr} (hp : S p.block ∨ a.heap.size ≤ p.block) (u : Value) : Mod S a (b.setCell p u) :=
  ⟨h.os, h.tape, h.output, by simpa [World.setCell] using h.size, fun i hi hs => (Below.heap_setCell b p u i (by
    rintro rfl
    rcases hp with hp | hp
    · exact hs hp
    · omega)).trans (h.block i hi hs)⟩
theorem Mod.below {S : Nat → Prop} {w w' : World} (h : Mod S w w') {B : Nat} (hB : B ≤ w.heap.size) (hS : ∀ k, k < B → ¬ S k) : Below B w w' := ⟨h.os, h.tape, h.output, h.size, fun k hk => h.block k (by omega) (hS k hk)⟩
theorem Ext.mod {S : Nat → Prop} {a w w' : World} (h : Ext a w) (hm : Mod S w w') (hS : ∀ k, k < a.heap.size → ¬ S k) : Ext a w' := Below.trans h (hm.below h.size hS)
theorem Mod.ext {S : Nat → Prop} {a w w' : World} (h : Mod S a w) (hm : Ext w w') : Mod S a w' := h.tr (Mod.of_ext hm)
theorem Mod.grown {w w' : World} {row : Option Nat} {S : Nat → Prop} (h : w.grownBy w' row) (hS : ∀ g, row = some g → S g) : Mod S w w' :=
  ⟨h.os, h.tape, h.output, h.size, fun k hk hs => h.block k hk (fun e => hs (hS k e.symm))⟩
theorem Blk.mod {S : Nat → Prop} {w w' : World} {g : Nat} {t : TypeId} {cs : Array Value} (h : Blk w g t cs) (hm : Mod S w w') (hg : ¬ S g) : Blk w' g t cs := (hm.block g h.lt hg).trans h
theorem OwI.mod {S : Nat → Prop} {w w' : World} {base : Nat} {A : Option Addr} {c : Nat} {xs : List Int} (h : OwI w base A c xs) (hm : Mod S w w') (hg : ∀ g, bl A = some g → ¬ S g) : OwI w' base A c xs :=
  h.keep fun g hA => hm.block g (h.lt g hA).2 (hg g hA)
/-- an own row of ints lies in no block of another element type -/
theorem OwI.ne {w : World} {base : Nat} {A : Option Addr} {c : Nat} {xs : List Int} {g : Nat} {t : TypeId} {cs : Array Value} (h : OwI w base A c xs) (hg : Blk w g t cs) (ht : t ≠ 3) : ∀ k, bl A = some k → ¬ k = g := by
  rintro k hk rfl
  rcases h.cases with ⟨rfl, rfl, rfl⟩ | ⟨g', cur, rfl, hb', hh, _⟩
  · simp [bl] at hk
  · simp [bl] at hk
    subst hk
    exact Blk.ne (show Blk w g' _ _ from hh) hg (Ne.symm ht) rfl
theorem OwI.far {w : World} {base : Nat} {A : Option Addr} {c : Nat} {xs : List Int} {g : Nat} {t : TypeId} {cs : Array Value} (h : OwI w base A c xs) (hg : Blk w g t cs) (ht : t ≠ 3) (i : Nat) (u : Value) : OwI (w.setCell ⟨g, i, none⟩ u) base A c xs :=
  h.mod (S := fun x => x = g) (Mod.set (S := fun x => x = g) (p := ⟨g, i, none⟩) (Mod.rf w) (.inl rfl) u) (h.ne hg ht)

section
variable (w : World)
set_option maxRecDepth 100000 in
theorem run_app_i (base : Nat) (ty : TypeId) (A : Option Addr) (n cA : Nat) (xs ys : List Int) (B : Option Addr) (c : Nat) (hn : n = xs.length) (hown : OwI w base A cA xs) (hr : RdI w B ys) (hlen : xs.length + ys.length ≤ 2 ^ 44) (hbase : base ≤ w.heap.size) :
    ∃ A' c' w', (Builtin.append_ #[22, 22] ty #[.slice A n cA, .slice B ys.length c]).run Try.prog w = .ok (.slice A' (xs ++ ys).length c') w' ∧ OwI w' base A' c' (xs ++ ys) ∧ w.grownBy w' (bl A) ∧ (bl A' = bl A ∨ ∃ g, bl A' = some g ∧ w.heap.size ≤ g) := by
  subst hn
  obtain ⟨i0, hi, hz0, hz1, hz2⟩ := info_parts int_info
  have hmax : xs.length + ys.length ≤ maxLen := by simp only [maxLen]; omega
  rcases B with _ | ad
  · have hy : ys = [] := by
      rcases hr with h | ⟨b, off, h, _⟩
      · exact h
      · cases h
    subst hy
    refine ⟨A, cA, w, ?_, by simpa using hown, ⟨rfl, rfl, rfl, Nat.le_refl _, fun _ _ _ => rfl⟩, .inl rfl⟩
    have hle := hown.le.1
    simp [Builtin.append_, run_underlying Try.underlying22, sizeOf, typeInfo, hi, Builtin.lenOf, Builtin.firstCells, hle]
    cases A <;> simp [storeCells]
  · have hnews : ∀ j u, (ys.map (Value.int .i64))[j]? = some u → w.cell? (ad.add j) = some u := by
      intro j u hu
      rw [List.getElem?_map] at hu
      obtain ⟨x, hx, rfl⟩ := Option.map_eq_some_iff.1 hu
      rcases hr with rfl | ⟨b, off, h, _, hc⟩
      · simp at hx
      · injection h with h
        subst h
        rw [add_plain]
        exact hc j x hx
    obtain ⟨v', w', hrun, h2, h3, _, h5⟩ := run_append_own_at (P := Try.prog) w base 22 ty 3 i0 _ 1 8 Try.underlying22 hi hz0 hz1 hz2 rfl (by decide) _ xs.length _ hown ad ys.length c (ys.map (Value.int .i64)) (by simp) hnews (by simp [Value.oneCell']) hmax (by omega) hbase
    rw [ownBlock_bl] at h3 h5
    have hv : ∃ A' c', v' = .slice A' (xs ++ ys).length c' := by
      rcases h2.2 with ⟨rfl, h0⟩ | ⟨g, cap, cur, rfl, _⟩
      · exact ⟨none, 0, by rw [List.length_append, h0]⟩
      · exact ⟨some ⟨g, 0, none⟩, cap, by simp⟩
    obtain ⟨A', c', rfl⟩ := hv
    rw [ownBlock_bl] at h5
    refine ⟨A', c', w', hrun, by simpa [OwI] using h2, h3, ?_⟩
    rcases h5 with h5 | h5
    · exact .inl h5
    · exact .inr ⟨_, h5, Nat.le_refl _⟩

/-- append(v, x...) of ints -/
theorem wpl_app_i {ops : Array Oper} {rest : List Oper} {o : Oper} {a : Act} {Q : Exit → Act → World → Prop} (hgd : o.guard = none) (s x : Operand)
    (ho : o.op = .call { callee := .builtin .append, args := #[s, x], argTypes := #[22, 22] })
    (base : Nat) (A : Option Addr) (n cA : Nat) (xs ys : List Int) (B : Option Addr) (c : Nat) (hs : a.eval s = .slice A n cA) (hx : a.eval x = .slice B ys.length c) (hn : n = xs.length) (hown : OwI w base A cA xs) (hr : RdI w B ys) (hlen : xs.length + ys.length ≤ 2 ^ 44) (hbase : base ≤ w.heap.size)
    (h : ∀ A' c' w', OwI w' base A' c' (xs ++ ys) → w.grownBy w' (bl A) → (bl A' = bl A ∨ ∃ g, bl A' = some g ∧ w.heap.size ≤ g) → wpList Try.prog ops Q rest (a.put o.dst (.slice A' (xs ++ ys).length c')) w') : wpList Try.prog ops Q (o :: rest) a w :=
  wpList_plain hgd fun _ hK => by
    obtain ⟨A', c', w', hrun, h2, h3, h4⟩ := run_app_i w base o.type A n cA xs ys B c hn hown hr hlen hbase
    unfold Oper.wp execOp
    simp only [ho, resolve, invoke, builtin, Sem.run_bind, Sem.run_pure, Result.andThen_ok, List.map_toArray, List.map_cons, List.map_nil, hs, hx, hrun]
    exact hK _ _ (h A' c' w' h2 h3 h4)

/-- the same as one step of a region that draws its order -/
theorem step_app_i {ops : Array Oper} {o : Oper} {a : Act} {K : Act → World → Prop} {Q : Exit → Act → World → Prop} {E : Prop} (hgd : o.guard = none) (s x : Operand)
    (ho : o.op = .call { callee := .builtin .append, args := #[s, x], argTypes := #[22, 22] })
    (base : Nat) (A : Option Addr) (n cA : Nat) (xs ys : List Int) (B : Option Addr) (c : Nat) (hs : a.eval s = .slice A n cA) (hx : a.eval x = .slice B ys.length c) (hn : n = xs.length) (hown : OwI w base A cA xs) (hr : RdI w B ys) (hlen : xs.length + ys.length ≤ 2 ^ 44) (hbase : base ≤ w.heap.size)
    (h : ∀ A' c' w', OwI w' base A' c' (xs ++ ys) → w.grownBy w' (bl A) → (bl A' = bl A ∨ ∃ g, bl A' = some g ∧ w.heap.size ≤ g) → K (a.put o.dst (.slice A' (xs ++ ys).length c')) w') :
    if Region.wanted o (yielded ops a.tmps) = true then Oper.wp Try.prog o a w K Q else E := by
  have hw : Region.wanted o (yielded ops a.tmps) = true := by simp [Region.wanted, hgd]
  rw [if_pos hw]
  obtain ⟨A', c', w', hrun, h2, h3, h4⟩ := run_app_i w base o.type A n cA xs ys B c hn hown hr hlen hbase
  unfold Oper.wp execOp
  simp only [ho, resolve, invoke, builtin, Sem.run_bind, Sem.run_pure, Result.andThen_ok, List.map_toArray, List.map_cons, List.map_nil, hs, hx, hrun]
  exact h A' c' w' h2 h3 h4

/-- make([]int, n) -/
theorem wpl_make_i {ops : Array Oper} {rest : List Oper} {o : Oper} {a : Act} {Q : Exit → Act → World → Prop} (hgd : o.guard = none) (l c : Operand) (hop : o.op = Op.makeSlice 22 l c)
    (base : Nat) (L C : Int) (n : Nat) (hl : a.eval l = .int .i64 L) (hc : a.eval c = .int .i64 C) (hL : L = (n : Int)) (hC : C = (n : Int)) (hn : n ≤ 2 ^ 44) (hbase : base ≤ w.heap.size)
    (hK : ∀ w', OwI w' base (some ⟨w.heap.size, 0, none⟩) n (List.replicate n 0) → w.grownBy w' none → wpList Try.prog ops Q rest (a.put o.dst (.slice (some ⟨w.heap.size, 0, none⟩) n n)) w') :
    wpList Try.prog ops Q (o :: rest) a w := by
  obtain ⟨i0, hi, hz0, hz1, hz2⟩ := info_parts int_info
  refine wpList_make_full w hgd l c _ hop base 3 i0 _ 1 Try.underlying22 hi hz0 hz1 .i64 .i64 L C n hl hc hL hC (by rw [hz2]; omega) (by simp only [maxLen]; omega) hbase (fun w' h2 h3 => hK w' ?_ h3)
  have e : (madeCells (Value.int .i64 0).cells (n * 1)).toList = (List.replicate n (0 : Int)).map (Value.int .i64) := by
    simp [madeCells, Value.cells, List.map_const', Nat.mod_one]
  rw [e] at h2
  simpa [OwI] using h2
end
theorem eqlNilI (u : World) (A : Option Addr) (n c : Nat) : (binOp .eql 22 (.slice A n c) (.slice none 0 0)).run Try.prog u = .ok (.bool A.isNone) u := Lib.run_eql_slice_nil u _ 3 _ _ _ _ _ Try.underlying22
theorem OwI.empty {w : World} {base g : Nat} (h : Blk w g 3 #[]) (hb : base ≤ g) : OwI w base (some ⟨g, 0, none⟩) 0 [] := .mk hb h (Nat.le_refl _) zero_le_maxLen rfl rfl
theorem Blk.grown {w w' : World} {g : Nat} {t : TypeId} {cs : Array Value} {row : Option Nat} (h : Blk w g t cs) (hb : w.grownBy w' row) (hg : row ≠ some g) : Blk w' g t cs := (hb.block g h.lt (fun e => hg e.symm)).trans h
section
variable (w : World)
set_option maxRecDepth 100000 in
/-- append([]int{}, x...): a copy -/
theorem run_copy_i (base : Nat) (ty : TypeId) (g : Nat) (ys : List Int) (B : Option Addr) (c : Nat) (hg : Blk w g 3 #[]) (hb : base ≤ g) (hr : RdI w B ys) (hlen : ys.length ≤ 2 ^ 44) :
    ∃ A' c' w', (Builtin.append_ #[22, 22] ty #[.slice (some ⟨g, 0, none⟩) 0 0, .slice B ys.length c]).run Try.prog w = .ok (.slice A' ys.length c') w' ∧ OwI w' base A' c' ys ∧ Ext w w' := by
  obtain ⟨i0, hi, hz0, hz1, hz2⟩ := info_parts int_info
  by_cases hy : ys = []
  · subst hy
    refine ⟨some ⟨g, 0, none⟩, 0, w, ?_, .empty hg hb, Ext.rf _⟩
    rcases B with _ | ad
    · simp [Builtin.append_, run_underlying Try.underlying22, sizeOf, typeInfo, hi, Builtin.lenOf, Builtin.firstCells, storeCells]
    · simp [Builtin.append_, run_underlying Try.underlying22, sizeOf, typeInfo, hi, Builtin.lenOf, Builtin.firstCells, storeCells, loadCells, loadCellsFrom]
  · have h0 : 0 < ys.length := List.length_pos_iff.2 hy
    obtain ⟨b, off, rfl, hc⟩ : ∃ b off, B = some ⟨b, off, none⟩ ∧ ∀ j x, ys[j]? = some x → w.cell? ⟨b, off + j, none⟩ = some (.int .i64 x) := by
      rcases hr with h | ⟨b, off, h, _, hc⟩
      · exact absurd h hy
      · exact ⟨b, off, h, hc⟩
    have hnews : ∀ j u, (ys.map (Value.int .i64))[j]? = some u → w.cell? ((⟨b, off, none⟩ : Addr).add j) = some u := by
      intro j u hu
      rw [List.getElem?_map] at hu
      obtain ⟨x, hx, rfl⟩ := Option.map_eq_some_iff.1 hu
      rw [add_plain]
      exact hc j x hx
    have hrun := run_append_grow (P := Try.prog) w 22 ty 3 i0 _ Try.underlying22 hi hz0 ⟨g, 0, none⟩ 0 0 [] (by simp) (fun j u h => by simp at h) ⟨b, off, none⟩ ys.length c (ys.map (Value.int .i64)) (by simp [hz1]) hnews (by omega) (by omega) (growslice_fits (by omega) (by rw [hz2]; omega))
    have hge := grownCap_ge w (0 + ys.length) 0 3
    have hle := grownCap_le_maxLen w (0 + ys.length) 0 3 (by simp only [maxLen]; omega)
    simp only [Nat.zero_add, List.nil_append] at hrun hge hle
    refine ⟨_, _, _, hrun, .mk (cur := _) (Nat.le_trans hb (Nat.le_of_lt hg.lt)) (heap_alloc_new w.drew _) hge hle ?_ ?_, ((Ext.rf w).drew).alloc _⟩
    · simp [Builtin.zeroCells, Value.cells]; omega
    · simp [Builtin.zeroCells, Value.cells]
theorem wpl_copy_i {ops : Array Oper} {rest : List Oper} {o : Oper} {a : Act} {Q : Exit → Act → World → Prop} (hgd : o.guard = none) (s x : Operand)
    (ho : o.op = .call { callee := .builtin .append, args := #[s, x], argTypes := #[22, 22] })
    (base g : Nat) (ys : List Int) (B : Option Addr) (c : Nat) (hs : a.eval s = .slice (some ⟨g, 0, none⟩) 0 0) (hx : a.eval x = .slice B ys.length c) (hg : Blk w g 3 #[]) (hb : base ≤ g) (hr : RdI w B ys) (hlen : ys.length ≤ 2 ^ 44)
    (h : ∀ A' c' w', OwI w' base A' c' ys → Ext w w' → wpList Try.prog ops Q rest (a.put o.dst (.slice A' ys.length c')) w') : wpList Try.prog ops Q (o :: rest) a w :=
  wpList_plain hgd fun _ hK => by
    obtain ⟨A', c', w', hrun, h2, h3⟩ := run_copy_i w base o.type g ys B c hg hb hr hlen
    unfold Oper.wp execOp
    simp only [ho, resolve, invoke, builtin, Sem.run_bind, Sem.run_pure, Result.andThen_ok, List.map_toArray, List.map_cons, List.map_nil, hs, hx, hrun]
    exact hK _ _ (h A' c' w' h2 h3)
theorem step_copy_i {ops : Array Oper} {o : Oper} {a : Act} {K : Act → World → Prop} {Q : Exit → Act → World → Prop} {E : Prop} (hgd : o.guard = none) (s x : Operand)
    (ho : o.op = .call { callee := .builtin .append, args := #[s, x], argTypes := #[22, 22] })
    (base g : Nat) (ys : List Int) (B : Option Addr) (c : Nat) (hs : a.eval s = .slice (some ⟨g, 0, none⟩) 0 0) (hx : a.eval x = .slice B ys.length c) (hg : Blk w g 3 #[]) (hb : base ≤ g) (hr : RdI w B ys) (hlen : ys.length ≤ 2 ^ 44)
    (h : ∀ A' c' w', OwI w' base A' c' ys → Ext w w' → K (a.put o.dst (.slice A' ys.length c')) w') : if Region.wanted o (yielded ops a.tmps) = true then Oper.wp Try.prog o a w K Q else E := by
  have hw : Region.wanted o (yielded ops a.tmps) = true := by simp [Region.wanted, hgd]
  rw [if_pos hw]
  obtain ⟨A', c', w', hrun, h2, h3⟩ := run_copy_i w base o.type g ys B c hg hb hr hlen
  unfold Oper.wp execOp
  simp only [ho, resolve, invoke, builtin, Sem.run_bind, Sem.run_pure, Result.andThen_ok, List.map_toArray, List.map_cons, List.map_nil, hs, hx, hrun]
  exact h A' c' w' h2 h3
end
/-- slices.Clone of ints -/
theorem clone_any (A : Option Addr) (c : Nat) (xs : List Int) (w : World) (hx : RdI w A xs) (hl : xs.length ≤ 2 ^ 44) :
    Calls Try.prog 83 #[.slice A xs.length c] w fun e w' => ∃ A' c', e = .returned (.slice A' xs.length c') ∧ OwI w' w.heap.size A' c' xs ∧ Ext w w' := by
  rcases A with _ | ⟨b, off, sp⟩
  · have h0 : xs = [] := by
      rcases hx with h | ⟨_, _, h, _⟩
      · exact h
      · cases h
    subst h0
    clear hl hx
    have hnil := fun u : World => eqlNilI u none 0 c
    simp only [List.length_nil]
    go_enter Try.func83, Try.ntmps83
    go_wp2
    go_ret
    exact ⟨_, _, rfl, OwI.nil _ _, Ext.rf _⟩
  · have hnil := fun u : World => eqlNilI u (some ⟨b, off, sp⟩) xs.length c
    go_enter Try.func83, Try.ntmps83
    go_wp2_with (at_builtin; refine wpl_app_i _ rfl _ _ rfl w.heap.size (some ⟨w.heap.size, 0, none⟩) 0 0 [] xs (some ⟨b, off, sp⟩) c rfl rfl rfl (by exact OwI.new (xs := []) rfl (Nat.le_refl _) zero_le_maxLen) (by exact hx.ext ((Ext.rf _).alloc _)) (by simpa using hl) (by simp) ?_; rintro A1 c1 w1 hown hg _)
    go_ret
    exact ⟨_, _, rfl, hown, ((Ext.rf w).alloc _).grow hg (by intro k hk; simp [bl] at hk; omega)⟩
end Go.Proofs.Ytleckhbmciiooaa
