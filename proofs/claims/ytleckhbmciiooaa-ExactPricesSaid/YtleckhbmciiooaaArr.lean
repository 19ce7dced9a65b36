/-
  Rows of numbers and of truth values in memory, read as functions of the place: a block that just one writer turns.
-/
import Derived.Test.YtleckhbmciiooaaOpen
import Derived.Test.YtleckhbmciiooaaModT
import Derived.Test.YtleckhbmciiooaaStep
namespace Go.Proofs.Ytleckhbmciiooaa
open Go.RowKit Go.ChangeShapes Go.WideShapes Go.ChangeAt Go.Deep

/-- block g holds so many numbers -/
def Arr (w : World) (g n : Nat) (u : Nat → Int) : Prop := Blk w g 3 (List.toArray ((List.range n).map fun i => Value.int .i64 (u i)))
/-- block g holds so many truth values -/
def ArrB (w : World) (g n : Nat) (u : Nat → Bool) : Prop := Blk w g 4 (List.toArray ((List.range n).map fun i => Value.bool (u i)))
section
variable {w w' : World} {g n : Nat} {u v : Nat → Int} {p q : Nat → Bool}
theorem Arr.cell (h : Arr w g n u) {k : Nat} (hk : k < n) : w.cell? ⟨g, k, none⟩ = some (.int .i64 (u k)) := by
  rw [Blk.cell h]
  simp [hk]
theorem Arr.free (h : Arr w g n u) (k : Nat) : w.frozen? ⟨g, k, none⟩ = false := Blk.free h k
theorem Arr.lt (h : Arr w g n u) : g < w.heap.size := Blk.lt h
theorem Arr.ext (h : Arr w g n u) (x : Ext w w') : Arr w' g n u := Blk.ext h x
theorem Arr.mod {S : Nat → Prop} (h : Arr w g n u) (hm : Mod S w w') (hg : ¬ S g) : Arr w' g n u := Blk.mod h hm hg
theorem Arr.far (h : Arr w g n u) {a : Addr} (hp : g ≠ a.block) (x : Value) : Arr (w.setCell a x) g n u := Blk.far h hp x
theorem range_set {α : Type} (f : Nat → α) (n k : Nat) (x : α) : ((List.range n).map f).set k x = (List.range n).map fun i => if i = k then x else f i := by
  refine List.ext_getElem? fun i => ?_
  rw [List.getElem?_set]
  by_cases hi : i < n
  · by_cases e : k = i
    · subst e; simp [hi]
    · have e' : ¬ i = k := fun h => e h.symm
      simp [e, e', hi]
  · by_cases e : k = i
    · subst e; simp [hi]
    · simp [e, hi]
theorem Arr.set (h : Arr w g n u) (k : Nat) (x : Int) : Arr (w.setCell ⟨g, k, none⟩ (.int .i64 x)) g n (fun i => if i = k then x else u i) := by
  have h1 := Blk.set h k (.int .i64 x)
  have e : (List.toArray ((List.range n).map fun i => Value.int .i64 (u i))).setIfInBounds k (.int .i64 x) = List.toArray ((List.range n).map fun i => Value.int .i64 (if i = k then x else u i)) := by
    rw [List.setIfInBounds_toArray, range_set]
    congr 1
    refine List.map_congr_left fun i _ => ?_
    split <;> rfl
  rw [e] at h1
  exact h1
theorem Arr.congr (h : Arr w g n u) (e : ∀ i, i < n → u i = v i) : Arr w g n v := by
  unfold Arr at h ⊢
  have : ((List.range n).map fun i => Value.int .i64 (u i)) = (List.range n).map fun i => Value.int .i64 (v i) := List.map_congr_left fun i hi => by rw [e i (List.mem_range.1 hi)]
  rwa [this] at h
theorem Arr.rdI (h : Arr w g n u) : RdI w (some ⟨g, 0, none⟩) ((List.range n).map u) := RdI.blk h (by simp [Function.comp_def])
theorem Arr.ne {g' : Nat} {t' : TypeId} {cs' : Array Value} (h : Arr w g n u) (h' : Blk w g' t' cs') (hne : 3 ≠ t') : g ≠ g' := Blk.ne h h' hne
theorem Arr.of_own {base : Nat} {x : Int} (h : OwI w base (some ⟨g, 0, none⟩) n (List.replicate n x)) : Arr w g n (fun _ => x) := by
  rcases h.cases with ⟨e, _⟩ | ⟨g', cur, e, _, hg, _, _, hs, ht⟩
  · cases e
  · obtain rfl : g = g' := by simpa using e
    have hl : cur.toList.length = n := by simpa using hs
    have h2 : cur.toList = (List.replicate n x).map (Value.int .i64) := by
      rw [← ht, List.length_replicate, Nat.mul_one, List.take_of_length_le (by omega)]
    have h3 : cur = List.toArray ((List.range n).map fun _ => Value.int .i64 x) := Array.ext' (by rw [h2]; simp [List.map_const'])
    unfold Arr Blk
    rw [hg, h3]
theorem ArrB.cell (h : ArrB w g n p) {k : Nat} (hk : k < n) : w.cell? ⟨g, k, none⟩ = some (.bool (p k)) := by
  rw [Blk.cell h]
  simp [hk]
theorem ArrB.free (h : ArrB w g n p) (k : Nat) : w.frozen? ⟨g, k, none⟩ = false := Blk.free h k
theorem ArrB.lt (h : ArrB w g n p) : g < w.heap.size := Blk.lt h
theorem ArrB.ext (h : ArrB w g n p) (x : Ext w w') : ArrB w' g n p := Blk.ext h x
theorem ArrB.mod {S : Nat → Prop} (h : ArrB w g n p) (hm : Mod S w w') (hg : ¬ S g) : ArrB w' g n p := Blk.mod h hm hg
theorem ArrB.far (h : ArrB w g n p) {a : Addr} (hp : g ≠ a.block) (x : Value) : ArrB (w.setCell a x) g n p := Blk.far h hp x
theorem ArrB.set (h : ArrB w g n p) (k : Nat) (x : Bool) : ArrB (w.setCell ⟨g, k, none⟩ (.bool x)) g n (fun i => if i = k then x else p i) := by
  have h1 := Blk.set h k (.bool x)
  have e : (List.toArray ((List.range n).map fun i => Value.bool (p i))).setIfInBounds k (.bool x) = List.toArray ((List.range n).map fun i => Value.bool (if i = k then x else p i)) := by
    rw [List.setIfInBounds_toArray, range_set]
    congr 1
    refine List.map_congr_left fun i _ => ?_
    split <;> rfl
  rw [e] at h1
  exact h1
theorem ArrB.congr (h : ArrB w g n p) (e : ∀ i, i < n → p i = q i) : ArrB w g n q := by
  unfold ArrB at h ⊢
  have : ((List.range n).map fun i => Value.bool (p i)) = (List.range n).map fun i => Value.bool (q i) := List.map_congr_left fun i hi => by rw [e i (List.mem_range.1 hi)]
  rwa [this] at h
end
theorem bool_info : (Try.prog.info? 4).map (fun i => (i.zero, i.size, i.bytes)) = some (some (.bool false), 1, 1) := by kernel_rfl
/-- make([]bool, n) -/
theorem wpl_make_b (w : World) {ops : Array Oper} {rest : List Oper} {o : Oper} {a : Act} {Q : Exit → Act → World → Prop} (hgd : o.guard = none) (l c : Operand) (hop : o.op = Op.makeSlice 148 l c)
    (L C : Int) (n : Nat) (hl : a.eval l = .int .i64 L) (hc : a.eval c = .int .i64 C) (hL : L = (n : Int)) (hC : C = (n : Int)) (hn : n ≤ 2 ^ 44)
    (hK : ∀ w', ArrB w' w.heap.size n (fun _ => false) → w.grownBy w' none → wpList Try.prog ops Q rest (a.put o.dst (.slice (some ⟨w.heap.size, 0, none⟩) n n)) w') :
    wpList Try.prog ops Q (o :: rest) a w := by
  obtain ⟨i0, hi, hz0, hz1, hz2⟩ := info_parts bool_info
  refine wpList_make_full w hgd l c _ hop w.heap.size 4 i0 _ 1 Try.underlying148 hi hz0 hz1 .i64 .i64 L C n hl hc hL hC (by rw [hz2]; omega) (by simp only [maxLen]; omega) (Nat.le_refl _) (fun w' h2 h3 => hK w' ?_ h3)
  have e : (madeCells (Value.bool false).cells (n * 1)).toList = (List.range n).map fun _ => Value.bool false := by
    simp [madeCells, Value.cells, List.map_const', Nat.mod_one]
  rw [e] at h2
  rcases (OwV.cases (e := 4) (size := 1) h2) with ⟨e1, _⟩ | ⟨g', cur, e1, _, hg, _, _, hs, ht⟩
  · cases e1
  · obtain rfl : w.heap.size = g' := by simpa using e1
    have hl : cur.toList.length = n := by simpa using hs
    have h3 : cur = List.toArray ((List.range n).map fun _ => Value.bool false) := Array.ext' (by rw [← ht, Nat.mul_one, List.take_of_length_le (by omega)])
    unfold ArrB Blk
    rw [hg, h3]
/-- one of several rows that are made, in whatever order -/
theorem op_make_a {ops : Array Oper} {i : Nat} {t : TypeId} {d : Option Tmp} {a : Act} {w : World} {K : Act → World → Prop} {Q : Exit → Act → World → Prop} {x y : Operand} (hi : opAt ops i = some (none, .makeSlice 22 x y, t, d)) (n : Nat) (L : Int) (hx : a.eval x = .int .i64 L) (hy : a.eval y = .int .i64 L) (hL : L = (n : Int)) (hn : n ≤ 2 ^ 44)
    (hK : ∀ w', Arr w' w.heap.size n (fun _ => 0) → Ext w w' → K (a.put d (.slice (some ⟨w.heap.size, 0, none⟩) n n)) w') : wpOp Try.prog ops Q i K a w := by
  obtain ⟨i0, hi0, hz0, hz1, hz2⟩ := info_parts int_info
  subst hL
  obtain ⟨w', hrun, h2, h3⟩ := run_make_full (P := Try.prog) w w.heap.size 22 3 i0 _ 1 Try.underlying22 hi0 hz0 hz1 .i64 .i64 n (by rw [hz2]; omega) (by simp only [maxLen]; omega) (Nat.le_refl _)
  have e : (madeCells (Value.int .i64 0).cells (n * 1)).toList = (List.replicate n (0 : Int)).map (Value.int .i64) := by
    simp [madeCells, Value.cells, List.map_const', Nat.mod_one]
  rw [e] at h2
  refine op_run hi _ (by simp [exec2, execOp, hx, hy, hrun]) (hK w' (Arr.of_own (base := w.heap.size) (by simpa [OwI] using h2)) ((Ext.rf _).grownNone h3))
end Go.Proofs.Ytleckhbmciiooaa
