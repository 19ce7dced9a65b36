/-
  Items in order, plainly: which of two stands ahead, and the order by merging; of two orders of the same numbers, each sorted by a strict order, both are one.
    Items in order by counting, plainly: each stands at the place that tells how many are ahead of it; that is the order by merging.
    A knapsack's kernel, plainly: the room that a beginning leaves, what may follow, what no answer is below; the bound does not sink from a beginning to what follows.
    A knapsack's kernel, plainly: the items in order fall; the best of all answers that begin so is not below the bound; what the answer of a whole beginning costs.
    A knapsack's answers, plainly: what the answer of a whole beginning weighs and costs; the least cost behind a beginning, one step on; no bound is above it.
  Costs of orders, plainly: what an assignment costs; no order costs less than offsets tell.
  What the rest of a tour costs.
  Common ground of this seat's proofs: extensions of a world, what a slice reads as, plain list lemmas, the frame of a law's proof. No function of the program is named here.
  Slices of ints that a call itself makes: what they own, how append and make turn them.
  Slices of whatever element type, cell by cell: what they read as, what a call owns, how append and make turn them.
  A statement whose order Go leaves open, by an invariant: what each operation yields, whenever it comes; nothing that another one makes is undone.
  Steps of a region that draws its order, each operation by itself: loads, indexes, literals; values known ahead, and values told by a word.
  A region of which some operations are walked in whatever order, all that is left waiting for them, through whatever chain.
  Sets of numbers below 64 as numbers, plainly: which are in; the least; the next; without one.
    The program's sets of numbers below 64: what each call answers.
    The program's sets of numbers below 64: Next; All, one by one.
    The program's sets of numbers below 64: List.
  Tours by sets of cities, plainly: what it costs at least to have gone to some cities and to stand at one of them; city j + 1 is bit j.
  Arguments opened: slices of whatever elements, each of so many cells, that read as a word says.
  What a call turns, told by the element types of the blocks that it may write.
  Rows of numbers and of truth values in memory, read as functions of the place: a block that just one writer turns.
  Tours by sets of cities: the tables in memory.
  Tours by sets of cities: one more set.
  Bits of ints that are no great numbers.
  Problems (api.Instance): as an argument, what they read as; the document's cut and Copy.
  The document's cut: a list of its own, no longer than some.
    The document's Copy of a problem: lists of its own, no longer than some.
-/
import Derived.Lib.Hide
import Derived.Test.YtleckhbmciiooaaDoorRows
import Derived.WalkKit
import Derived.ProofKit
import Derived.OpenShut
import Derived.BigQuiet
import Derived.Deep.QuietTactic
import Derived.Deep.Slices
import Derived.Lib.SmallJoins
import Derived.Deep.RegionHeld3
import Derived.StillTailTactics
import Derived.Deep.RegionLaw
import Derived.WalkSpells
import Derived.Deep.DeepFit
import Derived.JoinedCond
import Derived.Maps.AppendAt
import Derived.RegionTactic
import Derived.Laws.Bits64b
import Derived.Lib.TrailingZeros
import Derived.Deep.DeepCutAuto
import Derived.Shelf.Spec.TrailingZeros
import Derived.RangeFuncNested
import Derived.RangeFuncBound
import Derived.RangeFuncCalls
import Derived.RangeFuncLeaves
import Derived.RangeFuncBox
import Derived.Shelf.Abstract
import Derived.Shelf.RegionOpen
import Derived.OwnWalkIn
import Derived.TacticsInMore
import Derived.LoopNIn
import Derived.LoopIn
namespace Go.Proofs.YtleckhbmciiooaaDoor

end Go.Proofs.YtleckhbmciiooaaDoor
namespace Go.Proofs.YtleckhbmciiooaaDoor

end Go.Proofs.YtleckhbmciiooaaDoor
namespace Go.Proofs.YtleckhbmciiooaaDoor

def sumL : List Int → Int
  | [] => 0
  | x :: l => x + sumL l
end Go.Proofs.YtleckhbmciiooaaDoor
namespace Go.Proofs.YtleckhbmciiooaaDoor

theorem sumL_perm {a b : List Int} (h : a.Perm b) : sumL a = sumL b := by
  induction h with
  | nil => rfl
  | cons x _ ih => simp [sumL, ih]
  | swap x y l => simp [sumL]; omega
  | trans _ _ h1 h2 => rw [h1, h2]
end Go.Proofs.YtleckhbmciiooaaDoor
namespace Go.Proofs.YtleckhbmciiooaaDoor

section
variable {cap : Int} {ws vs p ws' vs' : List Int} {r o w v : Int}
end
end Go.Proofs.YtleckhbmciiooaaDoor
namespace Go.Proofs.YtleckhbmciiooaaDoor

def intsN (l : List Nat) : List Int := l.map fun n : Nat => (n : Int)
theorem intsN_len (l : List Nat) : (intsN l).length = l.length := by simp [intsN]
/-- what a beginning costs -/
def costF : List (List Int) → List Int → Int
  | row :: rows, c :: p => row.getD c.toNat 0 + costF rows p
  | _, _ => 0
/-- each row at its column costs no less than its least one and the column's -/
theorem costF_ge {F : Nat → Int} : ∀ {rows : List (List Int)} {off : List Int} {q : List Nat}, rows.length = q.length → off.length = q.length → (∀ (k c : Nat) (x : List Int) (o : Int), rows[k]? = some x → off[k]? = some o → q[k]? = some c → o + F c ≤ x.getD c 0) → sumL off + sumL (q.map F) ≤ costF rows (intsN q)
  | [], off, q, h1, h2, _ => by
    have : q = [] := List.eq_nil_of_length_eq_zero (by simpa using h1.symm)
    subst this
    have : off = [] := List.eq_nil_of_length_eq_zero (by simpa using h2)
    subst this
    simp [sumL, costF, intsN]
  | r :: rows, [], q, h1, h2, _ => by
    exfalso
    simp at h1 h2
    omega
  | r :: rows, o :: off, [], h1, _, _ => by simp at h1
  | r :: rows, o :: off, c :: q, h1, h2, h => by
    have h3 := h 0 c r o rfl rfl rfl
    have ih := costF_ge (F := F) (rows := rows) (off := off) (q := q) (by simpa using h1) (by simpa using h2) fun k c x o a b d => h (k + 1) c x o a b d
    simp only [intsN, List.map_cons, sumL, costF] at ih ⊢
    rw [Int.toNat_natCast]
    omega
def costAt (rows : List (List Int)) (a b : Nat) : Int := (rows.getD a []).getD b 0
/-- the kernel's rows, in form -/
structure RowsOk (rows : List (List Int)) : Prop where
  n1 : 1 ≤ rows.length
  n2 : rows.length ≤ 24
  row : ∀ row ∈ rows, row.length = rows.length
  num : ∀ row ∈ rows, ∀ x ∈ row, 0 ≤ x ∧ x ≤ 2147483647
theorem RowsOk.get {rows : List (List Int)} (h : RowsOk rows) {row : List Int} (hr : row ∈ rows) {c : Nat} (hc : c < rows.length) : 0 ≤ row.getD c 0 ∧ row.getD c 0 ≤ 2147483647 := by
  have h1 : c < row.length := by rw [h.row row hr]; exact hc
  have h2 : row.getD c 0 = row[c] := by simp [List.getD, List.getElem?_eq_getElem h1]
  rw [h2]
  exact h.num row hr _ (List.getElem_mem _)
theorem costF_range : ∀ {rows : List (List Int)} {q : List Nat}, rows.length = q.length → costF rows (intsN q) = sumL ((List.range q.length).map fun k => costAt rows k (q.getD k 0))
  | [], [], _ => rfl
  | [], _ :: _, h => by simp at h
  | _ :: _, [], h => by simp at h
  | r :: rows, c :: q, h => by
    have ih := costF_range (rows := rows) (q := q) (by simpa using h)
    have e : (List.range (c :: q).length).map (fun k => costAt (r :: rows) k ((c :: q).getD k 0)) = costAt (r :: rows) 0 c :: (List.range q.length).map fun k => costAt rows k (q.getD k 0) := by
      rw [List.length_cons, List.range_succ_eq_map, List.map_cons, List.map_map]
      rfl
    rw [e]
    simp only [intsN, List.map_cons, sumL, costF] at ih ⊢
    rw [Int.toNat_natCast, ih]
    rfl
theorem sumL_append (a b : List Int) : sumL (a ++ b) = sumL a + sumL b := by
  induction a with
  | nil => simp [sumL]
  | cons x a ih => simp only [List.cons_append, sumL, ih]; omega
end Go.Proofs.YtleckhbmciiooaaDoor
namespace Go.Proofs.YtleckhbmciiooaaDoor

/-- what the rest of a tour costs -/
def pathT (rows : List (List Int)) : Nat → List Nat → Int
  | last, [] => costAt rows last 0
  | last, u :: q => costAt rows last u + pathT rows u q
end Go.Proofs.YtleckhbmciiooaaDoor
namespace Go.Proofs.YtleckhbmciiooaaDoor
open Go.RowKit Go.ChangeShapes Go.WideShapes Go.ChangeAt

/-- nothing that was there has turned -/
abbrev Ext (w w' : World) : Prop := Below w.heap.size w w'
theorem Ext.rf (w : World) : Ext w w := Below.refl _ _
theorem Ext.tr {a b c : World} (h : Ext a b) (k : Ext b c) : Ext a c := Below.trans h (Below.mono k h.size)
theorem Ext.drewN {a b : World} (h : Ext a b) (n : Nat) : Ext a (b.drewN n) := ⟨h.os, h.tape, h.output, h.size, h.block⟩
theorem Ext.drew {a b : World} (h : Ext a b) : Ext a b.drew := Below.drew h
theorem Ext.alloc {a b : World} (h : Ext a b) (o : Obj) : Ext a (b.alloc o) := Below.alloc h h.size o
theorem Ext.setNew {a b : World} (h : Ext a b) {p : Addr} (hp : a.heap.size ≤ p.block) (u : Value) : Ext a (b.setCell p u) := Below.setCell h hp u
theorem Ext.cells {W w1 : World} (hb : Ext W w1) : (∀ b o, b < W.heap.size → w1.cell? ⟨b, o, none⟩ = W.cell? ⟨b, o, none⟩) ∧ (∀ b o, b < W.heap.size → w1.frozen? ⟨b, o, none⟩ = W.frozen? ⟨b, o, none⟩) :=
  ⟨fun b o h => hb.cell (p := ⟨b, o, none⟩) h, fun b o h => hb.frozen (p := ⟨b, o, none⟩) h⟩
/-- the slice with head A reads as the ints xs -/
def RdI (w : World) (A : Option Addr) (xs : List Int) : Prop :=
  xs = [] ∨ ∃ b off, A = some ⟨b, off, none⟩ ∧ b < w.heap.size ∧ ∀ j x, xs[j]? = some x → w.cell? ⟨b, off + j, none⟩ = some (.int .i64 x)
theorem RdI.at {w : World} {A : Option Addr} {xs : List Int} (h : RdI w A xs) {k : Nat} (hk : k < xs.length) :
    ∃ b off x, A = some ⟨b, off, none⟩ ∧ b < w.heap.size ∧ w.cell? ⟨b, off + k, none⟩ = some (.int .i64 x) ∧ Hid (xs[k]? = some x) ∧ Hid (xs.drop k = x :: xs.drop (k + 1)) := by
  rcases h with rfl | ⟨b, off, rfl, hb, hc⟩
  · simp at hk
  · have e : xs[k]? = some xs[k] := List.getElem?_eq_getElem hk
    exact ⟨b, off, xs[k], rfl, hb, hc k _ e, e, List.drop_eq_getElem_cons hk⟩
theorem RdI.ext {w w' : World} {A : Option Addr} {xs : List Int} (h : RdI w A xs) (hb : Ext w w') : RdI w' A xs := by
  rcases h with rfl | ⟨b, off, rfl, hb', hc⟩
  · exact .inl rfl
  · exact .inr ⟨b, off, rfl, by have := hb.size; omega, fun j x hj => by rw [hb.cell hb']; exact hc j x hj⟩
theorem RdI.take {w : World} {A : Option Addr} {xs : List Int} (h : RdI w A xs) (n : Nat) : RdI w A (xs.take n) := by
  rcases h with rfl | ⟨b, off, rfl, hb', hc⟩
  · exact .inl (by simp)
  · exact .inr ⟨b, off, rfl, hb', fun j x hj => hc j x (by rw [List.getElem?_take] at hj; split at hj <;> simp_all)⟩
/-- block g is just these cells -/
def Blk (w : World) (g : Nat) (t : TypeId) (cs : Array Value) : Prop := w.heap[g]? = some (.cells cs t (0, 0))
section
variable {w w' : World} {g : Nat} {t : TypeId} {cs : Array Value}
theorem Blk.lt (h : Blk w g t cs) : g < w.heap.size := (Array.getElem?_eq_some_iff.1 h).1
theorem Blk.cell (h : Blk w g t cs) (i : Nat) : w.cell? ⟨g, i, none⟩ = cs[i]? := cell_of_row w g i cs t (0, 0) h
theorem Blk.free (h : Blk w g t cs) (i : Nat) : w.frozen? ⟨g, i, none⟩ = false := by
  unfold Blk at h
  simp [World.frozen?, h]
theorem Blk.new (h : g = w.heap.size) : Blk (w.alloc (.cells cs t)) g t cs := by subst h; exact heap_alloc_new w _
theorem Blk.drew (h : Blk w g t cs) : Blk w.drew g t cs := h
theorem Blk.drewN (h : Blk w g t cs) (n : Nat) : Blk (w.drewN n) g t cs := h
theorem Blk.alloc (h : Blk w g t cs) (o : Obj) : Blk (w.alloc o) g t cs := (Below.heap_alloc w o g h.lt).trans h
theorem Blk.set (h : Blk w g t cs) (i : Nat) (u : Value) : Blk (w.setCell ⟨g, i, none⟩ u) g t (cs.setIfInBounds i u) := by
  unfold Blk at h ⊢
  simp [World.setCell, Array.getElem?_modify, h]
theorem Blk.far (h : Blk w g t cs) {p : Addr} (hp : g ≠ p.block) (u : Value) : Blk (w.setCell p u) g t cs := (Below.heap_setCell w p u g hp).trans h
theorem Blk.ext (h : Blk w g t cs) (hb : Ext w w') : Blk w' g t cs := (hb.block g h.lt).trans h
theorem Blk.below {B : Nat} (h : Blk w g t cs) (hb : Below B w w') (hg : g < B) : Blk w' g t cs := (hb.block g hg).trans h
theorem Blk.ne {g' : Nat} {t' : TypeId} {cs' : Array Value} (h : Blk w g t cs) (h' : Blk w g' t' cs') (hne : t ≠ t') : g ≠ g' := by
  rintro rfl
  unfold Blk at h h'
  rw [h] at h'
  injection h' with h'
  injection h' with _ ht
  exact hne ht
theorem Blk.same {cs' : Array Value} {t' : TypeId} (h : Blk w g t cs) (h' : Blk w g t' cs') : cs = cs' := by
  unfold Blk at h h'
  rw [h] at h'
  injection h' with h'
  injection h' with hc
end
theorem RdI.blk {w : World} {b : Nat} {cs : Array Value} {t : TypeId} {xs : List Int} (h : Blk w b t cs) (hx : cs.toList = xs.map (Value.int .i64)) : RdI w (some ⟨b, 0, none⟩) xs := by
  refine .inr ⟨_, _, rfl, h.lt, fun j x hj => ?_⟩
  rw [h.cell]
  have : cs.toList[0 + j]? = some (.int .i64 x) := by rw [hx]; simp [hj]
  simpa using this
/-- each is an int -/
def Ints (xs : List Int) : Prop := ∀ x ∈ xs, -9223372036854775808 ≤ x ∧ x ≤ 9223372036854775807
theorem zero_le_maxLen : 0 ≤ maxLen := by simp only [maxLen]; omega
theorem Ints.nil : Ints [] := fun x hx => absurd hx List.not_mem_nil
theorem Ints.take {xs : List Int} (h : Ints xs) (n : Nat) : Ints (xs.take n) := fun x hx => h x (List.mem_of_mem_take hx)
theorem Ints.get {xs : List Int} (h : Ints xs) {k : Nat} {x : Int} (hk : xs[k]? = some x) : -9223372036854775808 ≤ x ∧ x ≤ 9223372036854775807 := h x (List.mem_of_getElem? hk)
theorem drop_nil {α : Type} {xs : List α} {k : Nat} (h : xs.length ≤ k) : Hid (xs.drop k = []) := List.drop_of_length_le h
theorem getD_some {α : Type} {xs : List α} {k : Nat} {x d : α} (h : xs[k]? = some x) : xs.getD k d = x := by simp [List.getD, h]
theorem ret_i {k : IntKind} {a b : Int} (h : a = b) : Ending.returned (.int k a) = .returned (.int k b) := by rw [h]
theorem ret_b {a b : Bool} (h : a = b) : Ending.returned (.bool a) = .returned (.bool b) := by rw [h]

/-! the frame of a law's proof -/
theorem own : ownKnob Tryd.prog.godebug = none := by kernel_rfl
theorem laidOut : laidOutB Tryd.prog = true := by kernel_rfl
theorem u_bool : Tryd.prog.underlying 4 = some .bool := Tryd.underlying4
theorem cells_int : Tryd.prog.cellsOf 3 = 1 := by kernel_rfl
theorem readable_of {ts : List TypeId} (h : ts.all (fun t => Tryd.prog.readableRec t && decide (t < Tryd.prog.types.size)) = true) : ∀ t ∈ ts, Tryd.prog.readableRec t = true ∧ t < Tryd.prog.types.size := fun t ht => by
  have := List.all_eq_true.1 h t ht
  simpa using this
theorem int_bd {x : Int} (h : (Lit.int .i64 x).wf = true) : -9223372036854775808 ≤ x ∧ x ≤ 9223372036854775807 := by
  simpa [Lit.wf, IntKind.min, IntKind.max, IntKind.signed, IntKind.bits] using h
section
variable {H : Type} {enc : TypeId × Value → H}
theorem trodAll_ext {W W' : World} (hb : Ext W W') : ∀ {ts : List TypeId} {vs : List Value} {ds : List (DataW H)} {p : List MemPlace}, (∀ t ∈ ts, Tryd.prog.readableRec t = true ∧ t < Tryd.prog.types.size) →
    DataW.TrodAll enc Tryd.prog W 0 (fun _ => true) true ts vs ds p → (∀ x ∈ p, x.block < W.heap.size) → DataW.TrodAll enc Tryd.prog W' 0 (fun b => decide (b < W.heap.size)) true ts vs ds p
  | [], [], [], _, _, h, _ => by simpa [DataW.TrodAll] using h
  | t :: ts, v :: vs, d :: ds, _, hr, h, hlt => by
    obtain ⟨p, q, h0, h1, rfl⟩ := h
    exact ⟨p, q, Below.trod laidOut (hr t (by simp)).1 (hr t (by simp)).2 h0 hb (fun x hx => hlt x (by simp [hx])), trodAll_ext hb (fun t ht => hr t (by simp [ht])) h1 (fun x hx => hlt x (by simp [hx])), rfl⟩
  | [], _ :: _, _, _, _, h, _ => by simp [DataW.TrodAll] at h
  | [], [], _ :: _, _, _, h, _ => by simp [DataW.TrodAll] at h
  | _ :: _, [], _, _, _, h, _ => by simp [DataW.TrodAll] at h
  | _ :: _, _ :: _, [], _, _, h, _ => by simp [DataW.TrodAll] at h
theorem post_law {f : Func} {s : ChangeSpec} {W W' : World} {args : Array Value} {ds gs : List (DataW H)} {before : List MemPlace}
    (hW : DataW.Whole enc Tryd.prog f.params.toList s.vars false W args.toList ds gs before) (hvars : s.vars = []) (hr : f.resultTypes = #[4])
    (hs : (s.fn H (ds ++ gs)).results = [.lit (.bool true)]) (ha : (s.fn H (ds ++ gs)).args = ds) (hv : (s.fn H (ds ++ gs)).vars = [])
    (hp : ∀ t ∈ f.params.toList, Tryd.prog.readableRec t = true ∧ t < Tryd.prog.types.size) (hb : Ext W W') :
    s.post enc Tryd.prog f false true false false W args (.bool true) W' := by
  have hW' := hW
  obtain ⟨p, q, hA, hV, rfl, hz, hn⟩ := hW
  rw [hvars] at hV
  obtain ⟨rfl, rfl⟩ := trodVars_none hV
  have hlt : ∀ x ∈ p, x.block < W.heap.size := fun x hx => by simpa using hW'.lt x (by simp [hx])
  refine ⟨ds, [], p ++ [], [], p, [], hW', ?_, ?_, ?_, hb.frame _, fun h => by cases h⟩
  · rw [hs, hr]
    exact trodAll_cons_mk (shut_bool u_bool _) trodAll_mk0
  · rw [ha]
    exact trodAll_ext hb hp hA hlt
  · rw [hv, hvars]
    simp [DataW.TrodVars]
end
end Go.Proofs.YtleckhbmciiooaaDoor
namespace Go.Proofs.YtleckhbmciiooaaDoor
open Go.RowKit Go.ChangeShapes Go.WideShapes Go.ChangeAt

theorem int_info : (Tryd.prog.info? 3).map (fun i => (i.zero, i.size, i.bytes)) = some (some (.int .i64 0), 1, 8) := by kernel_rfl
/-- the slice with head A and capacity c is one of the call's own (blocks from base on) that holds the ints xs -/
def OwI (w : World) (base : Nat) (A : Option Addr) (c : Nat) (xs : List Int) : Prop := w.ownsRow base 3 1 (.slice A xs.length c) xs.length (xs.map (Value.int .i64))
/-- the block that a slice lies in -/
def bl (A : Option Addr) : Option Nat := A.map (·.block)
theorem ownBlock_bl (A : Option Addr) (n c : Nat) : (Value.slice A n c).ownBlock = bl A := by cases A <;> rfl
section
variable {w w' : World} {base : Nat} {A : Option Addr} {c : Nat} {xs : List Int}
theorem OwI.nil (w : World) (base : Nat) : OwI w base none 0 [] := World.ownsRow_nil _ _ _ _
theorem OwI.cases (h : OwI w base A c xs) : (A = none ∧ c = 0 ∧ xs = []) ∨ ∃ g cur, A = some ⟨g, 0, none⟩ ∧ base ≤ g ∧ w.heap[g]? = some (.cells cur 3 (0, 0)) ∧ xs.length ≤ c ∧ c ≤ maxLen ∧ cur.size = c * 1 ∧ cur.toList.take (xs.length * 1) = xs.map (Value.int .i64) := by
  rcases h.2 with ⟨hv, h0⟩ | ⟨g, cap, cur, hv, hb, hg, hn, hm, hs, ht⟩
  · have : xs = [] := List.eq_nil_of_length_eq_zero h0
    subst this
    injection hv with h1 _ h3
    exact .inl ⟨h1, h3, rfl⟩
  · injection hv with h1 _ h3
    subst h1 h3
    exact .inr ⟨g, cur, rfl, hb, hg, hn, hm, hs, ht⟩
theorem OwI.mk {g : Nat} {cur : Array Value} (hb : base ≤ g) (hg : w.heap[g]? = some (.cells cur 3 (0, 0))) (hn : xs.length ≤ c) (hm : c ≤ maxLen) (hs : cur.size = c * 1) (ht : cur.toList.take (xs.length * 1) = xs.map (Value.int .i64)) : OwI w base (some ⟨g, 0, none⟩) c xs :=
  ⟨by simp, .inr ⟨g, c, cur, rfl, hb, hg, hn, hm, hs, ht⟩⟩
theorem OwI.le (h : OwI w base A c xs) : xs.length ≤ c ∧ c ≤ maxLen := by
  rcases h.cases with ⟨rfl, rfl, rfl⟩ | ⟨g, cur, rfl, hb, hg, hn, hm, _⟩
  · exact ⟨Nat.le_refl _, zero_le_maxLen⟩
  · exact ⟨hn, hm⟩
theorem OwI.read (h : OwI w base A c xs) : RdI w A xs := by
  rcases h.cases with ⟨rfl, rfl, rfl⟩ | ⟨g, cur, rfl, hb, hg, hn, hm, hs, ht⟩
  · exact .inl rfl
  · have hlt := (Array.getElem?_eq_some_iff.1 hg).1
    refine .inr ⟨g, 0, rfl, hlt, fun j x hj => ?_⟩
    rw [cell_of_row w g _ cur _ (0, 0) hg]
    have hj' : (xs.map (Value.int .i64))[j]? = some (.int .i64 x) := by simp [hj]
    rw [← ht, List.getElem?_take] at hj'
    split at hj'
    · simpa using hj'
    · cases hj'
theorem OwI.keep (h : OwI w base A c xs) (hb : ∀ g, bl A = some g → w'.heap[g]? = w.heap[g]?) : OwI w' base A c xs := by
  rcases h.cases with ⟨rfl, rfl, rfl⟩ | ⟨g, cur, rfl, hb', hg, hn, hm, hs, ht⟩
  · exact OwI.nil _ _
  · exact .mk hb' ((hb g rfl).trans hg) hn hm hs ht
theorem OwI.lt (h : OwI w base A c xs) : ∀ k, bl A = some k → base ≤ k ∧ k < w.heap.size := by
  intro k hk
  rcases h.cases with ⟨rfl, rfl, rfl⟩ | ⟨g, cur, rfl, hb', hg, _⟩
  · simp [bl] at hk
  · simp [bl] at hk
    subst hk
    exact ⟨hb', (Array.getElem?_eq_some_iff.1 hg).1⟩
theorem OwI.ext (h : OwI w base A c xs) (hb : Ext w w') : OwI w' base A c xs := h.keep fun g hg => hb.block g (h.lt g hg).2
theorem OwI.more {base' : Nat} (h : OwI w base A c xs) (hb : base' ≤ base) : OwI w base' A c xs := by
  rcases h.cases with ⟨rfl, rfl, rfl⟩ | ⟨g, cur, rfl, hb', hg, hn, hm, hs, ht⟩
  · exact OwI.nil _ _
  · exact .mk (Nat.le_trans hb hb') hg hn hm hs ht
theorem OwI.at (h : OwI w base A c xs) {k : Nat} (hk : k < xs.length) :
    ∃ g x, A = some ⟨g, 0, none⟩ ∧ base ≤ g ∧ g < w.heap.size ∧ w.cell? ⟨g, k, none⟩ = some (.int .i64 x) ∧ w.frozen? ⟨g, k, none⟩ = false ∧ Hid (xs[k]? = some x) ∧
      Hid (∀ y, OwI (w.setCell ⟨g, k, none⟩ (.int .i64 y)) base A c (xs.set k y)) := by
  rcases h.cases with ⟨rfl, rfl, rfl⟩ | ⟨g, cur, rfl, hb, hg, hn, hm, hs, ht⟩
  · simp at hk
  · have hlt := (Array.getElem?_eq_some_iff.1 hg).1
    have hxk : xs[k]? = some xs[k] := List.getElem?_eq_getElem hk
    have hc : w.cell? ⟨g, k, none⟩ = some (.int .i64 xs[k]) := by
      rw [cell_of_row w g _ cur _ (0, 0) hg]
      have hj' : (xs.map (Value.int .i64))[k]? = some (.int .i64 xs[k]) := by simp [hxk]
      rw [← ht, List.getElem?_take] at hj'
      split at hj'
      · simpa using hj'
      · cases hj'
    refine ⟨g, xs[k], rfl, hb, hlt, hc, by simp [World.frozen?, hg], hxk, fun y => .mk (cur := cur.setIfInBounds k (.int .i64 y)) hb ?_ (by simpa using hn) hm (by simpa using hs) ?_⟩
    · simp [World.setCell, Array.getElem?_modify, hg]
    · simp only [List.length_set, Array.toList_setIfInBounds, List.map_set, ← ht]
      rw [List.take_set]
theorem OwI.cell {g : Nat} (h : OwI w base (some ⟨g, 0, none⟩) c xs) {k : Nat} (hk : k < xs.length) :
    ∃ x, w.cell? ⟨g, k, none⟩ = some (.int .i64 x) ∧ w.frozen? ⟨g, k, none⟩ = false ∧ base ≤ g ∧ Hid (xs[k]? = some x) ∧ Hid (∀ y, OwI (w.setCell ⟨g, k, none⟩ (.int .i64 y)) base (some ⟨g, 0, none⟩) c (xs.set k y)) := by
  obtain ⟨g', x, hv, hb, hlt, hc, hf, hx, hs⟩ := h.at hk
  injection hv with h1
  injection h1 with h1
  subst h1
  exact ⟨x, hc, hf, hb, hx, hs⟩
theorem OwI.new {cs : Array Value} (hx : cs.toList = xs.map (Value.int .i64)) (hb : base ≤ w.heap.size) (hm : xs.length ≤ maxLen) : OwI (w.alloc (.cells cs 3)) base (some ⟨w.heap.size, 0, none⟩) xs.length xs := by
  refine .mk (cur := cs) hb (heap_alloc_new w _) (Nat.le_refl _) hm ?_ ?_
  · rw [← Array.length_toList, hx]; simp
  · rw [hx, List.take_of_length_le (by simp)]
end
theorem Ext.grow {a w w' : World} {row : Option Nat} (h : Ext a w) (hg : w.grownBy w' row) (hr : ∀ k, row = some k → a.heap.size ≤ k) : Ext a w' := Below.grown h hg h.size hr
theorem Ext.grownNone {a w w' : World} (h : Ext a w) (hg : w.grownBy w' none) : Ext a w' := h.grow hg (fun k hk => by cases hk)
/-- what was there is as it was, but for the blocks of S -/
structure Mod (S : Nat → Prop) (w w' : World) : Prop where
  os : w'.os = w.os
  tape : w'.tape = w.tape
  output : w'.output = w.output
  size : w.heap.size ≤ w'.heap.size
  block : ∀ k, k < w.heap.size → ¬ S k → w'.heap[k]? = w.heap[k]?
theorem Mod.of_ext {S : Nat → Prop} {w w' : World} (h : Ext w w') : Mod S w w' := ⟨h.os, h.tape, h.output, h.size, fun k hk _ => h.block k hk⟩
theorem Mod.rf {S : Nat → Prop} (w : World) : Mod S w w := ⟨rfl, rfl, rfl, Nat.le_refl _, fun _ _ _ => rfl⟩
theorem Mod.tr {S : Nat → Prop} {a b c : World} (h : Mod S a b) (k : Mod S b c) : Mod S a c :=
  ⟨k.os.trans h.os, k.tape.trans h.tape, k.output.trans h.output, Nat.le_trans h.size k.size, fun i hi hs => (k.block i (Nat.lt_of_lt_of_le hi h.size) hs).trans (h.block i hi hs)⟩
/-- blocks that are newer count for nothing -/
theorem Mod.tr' {S S' : Nat → Prop} {a b c : World} (h : Mod S a b) (k : Mod S' b c) (hS : ∀ i, i < a.heap.size → S' i → S i) : Mod S a c :=
  ⟨k.os.trans h.os, k.tape.trans h.tape, k.output.trans h.output, Nat.le_trans h.size k.size, fun i hi hs => (k.block i (Nat.lt_of_lt_of_le hi h.size) (fun h' => hs (hS i hi h'))).trans (h.block i hi hs)⟩
theorem Mod.mono {S S' : Nat → Prop} {a b : World} (h : Mod S a b) (hS : ∀ i, i < a.heap.size → S i → S' i) : Mod S' a b :=
  ⟨h.os, h.tape, h.output, h.size, fun i hi hs => h.block i hi (fun h' => hs (hS i hi h'))⟩
theorem Mod.drewN {S : Nat → Prop} {a b : World} (h : Mod S a b) (n : Nat) : Mod S a (b.drewN n) := ⟨h.os, h.tape, h.output, h.size, h.block⟩
theorem Mod.drew {S : Nat → Prop} {a b : World} (h : Mod S a b) : Mod S a b.drew := ⟨h.os, h.tape, h.output, h.size, h.block⟩
theorem Mod.alloc {S : Nat → Prop} {a b : World} (h : Mod S a b) (o : Obj) : Mod S a (b.alloc o) := h.tr (Mod.of_ext ((Ext.rf b).alloc o))
theorem Mod.set {S : Nat → Prop} {a b : World} (h : Mod S a b) {p : Addr} (hp : S p.block ∨ a.heap.size ≤ p.block) (u : Value) : Mod S a (b.setCell p u) :=
  ⟨h.os, h.tape, h.output, by simpa [World.setCell] using h.size, fun i hi hs => (Below.heap_setCell b p u i (by
    rintro rfl
    rcases hp with hp | hp
    · exact hs hp
    · omega)).trans (h.block i hi hs)⟩
theorem Mod.below {S : Nat → Prop} {w w' : World} (h : Mod S w w') {B : Nat} (hB : B ≤ w.heap.size) (hS : ∀ k, k < B → ¬ S k) : Below B w w' := ⟨h.os, h.tape, h.output, h.size, fun k hk => h.block k (by omega) (hS k hk)⟩
theorem Ext.mod {S : Nat → Prop} {a w w' : World} (h : Ext a w) (hm : Mod S w w') (hS : ∀ k, k < a.heap.size → ¬ S k) : Ext a w' := Below.trans h (hm.below h.size hS)
theorem Mod.ext {S : Nat → Prop} {a w w' : World} (h : Mod S a w) (hm : Ext w w') : Mod S a w' := h.tr (Mod.of_ext hm)
theorem Mod.grown {w w' : World} {row : Option Nat} {S : Nat → Prop} (h : w.grownBy w' row) (hS : ∀ g, row = some g → S g) : Mod S w w' :=
  ⟨h.os, h.tape, h.output, h.size, fun k hk hs => h.block k hk (fun e => hs (hS k e.symm))⟩
theorem Blk.mod {S : Nat → Prop} {w w' : World} {g : Nat} {t : TypeId} {cs : Array Value} (h : Blk w g t cs) (hm : Mod S w w') (hg : ¬ S g) : Blk w' g t cs := (hm.block g h.lt hg).trans h
theorem OwI.mod {S : Nat → Prop} {w w' : World} {base : Nat} {A : Option Addr} {c : Nat} {xs : List Int} (h : OwI w base A c xs) (hm : Mod S w w') (hg : ∀ g, bl A = some g → ¬ S g) : OwI w' base A c xs :=
  h.keep fun g hA => hm.block g (h.lt g hA).2 (hg g hA)
/-- an own row of ints lies in no block of another element type -/
theorem OwI.ne {w : World} {base : Nat} {A : Option Addr} {c : Nat} {xs : List Int} {g : Nat} {t : TypeId} {cs : Array Value} (h : OwI w base A c xs) (hg : Blk w g t cs) (ht : t ≠ 3) : ∀ k, bl A = some k → ¬ k = g := by
  rintro k hk rfl
  rcases h.cases with ⟨rfl, rfl, rfl⟩ | ⟨g', cur, rfl, hb', hh, _⟩
  · simp [bl] at hk
  · simp [bl] at hk
    subst hk
    exact Blk.ne (show Blk w g' _ _ from hh) hg (Ne.symm ht) rfl
theorem OwI.far {w : World} {base : Nat} {A : Option Addr} {c : Nat} {xs : List Int} {g : Nat} {t : TypeId} {cs : Array Value} (h : OwI w base A c xs) (hg : Blk w g t cs) (ht : t ≠ 3) (i : Nat) (u : Value) : OwI (w.setCell ⟨g, i, none⟩ u) base A c xs :=
  h.mod (S := fun x => x = g) (Mod.set (S := fun x => x = g) (p := ⟨g, i, none⟩) (Mod.rf w) (.inl rfl) u) (h.ne hg ht)
section
variable (w : World)
set_option maxRecDepth 100000 in
theorem run_app_i (base : Nat) (ty : TypeId) (A : Option Addr) (n cA : Nat) (xs ys : List Int) (B : Option Addr) (c : Nat) (hn : n = xs.length) (hown : OwI w base A cA xs) (hr : RdI w B ys) (hlen : xs.length + ys.length ≤ 2 ^ 44) (hbase : base ≤ w.heap.size) :
    ∃ A' c' w', (Builtin.append_ #[22, 22] ty #[.slice A n cA, .slice B ys.length c]).run Tryd.prog w = .ok (.slice A' (xs ++ ys).length c') w' ∧ OwI w' base A' c' (xs ++ ys) ∧ w.grownBy w' (bl A) ∧ (bl A' = bl A ∨ ∃ g, bl A' = some g ∧ w.heap.size ≤ g) := by
  subst hn
  obtain ⟨i0, hi, hz0, hz1, hz2⟩ := info_parts int_info
  have hmax : xs.length + ys.length ≤ maxLen := by simp only [maxLen]; omega
  rcases B with _ | ad
  · have hy : ys = [] := by
      rcases hr with h | ⟨b, off, h, _⟩
      · exact h
      · cases h
    subst hy
    refine ⟨A, cA, w, ?_, by simpa using hown, ⟨rfl, rfl, rfl, Nat.le_refl _, fun _ _ _ => rfl⟩, .inl rfl⟩
    have hle := hown.le.1
    simp [Builtin.append_, run_underlying Tryd.underlying22, sizeOf, typeInfo, hi, Builtin.lenOf, Builtin.firstCells, hle]
    cases A <;> simp [storeCells]
  · have hnews : ∀ j u, (ys.map (Value.int .i64))[j]? = some u → w.cell? (ad.add j) = some u := by
      intro j u hu
      rw [List.getElem?_map] at hu
      obtain ⟨x, hx, rfl⟩ := Option.map_eq_some_iff.1 hu
      rcases hr with rfl | ⟨b, off, h, _, hc⟩
      · simp at hx
      · injection h with h
        subst h
        rw [add_plain]
        exact hc j x hx
    obtain ⟨v', w', hrun, h2, h3, _, h5⟩ := run_append_own_at (P := Tryd.prog) w base 22 ty 3 i0 _ 1 8 Tryd.underlying22 hi hz0 hz1 hz2 rfl (by decide) _ xs.length _ hown ad ys.length c (ys.map (Value.int .i64)) (by simp) hnews (by simp [Value.oneCell']) hmax (by omega) hbase
    rw [ownBlock_bl] at h3 h5
    have hv : ∃ A' c', v' = .slice A' (xs ++ ys).length c' := by
      rcases h2.2 with ⟨rfl, h0⟩ | ⟨g, cap, cur, rfl, _⟩
      · exact ⟨none, 0, by rw [List.length_append, h0]⟩
      · exact ⟨some ⟨g, 0, none⟩, cap, by simp⟩
    obtain ⟨A', c', rfl⟩ := hv
    rw [ownBlock_bl] at h5
    refine ⟨A', c', w', hrun, by simpa [OwI] using h2, h3, ?_⟩
    rcases h5 with h5 | h5
    · exact .inl h5
    · exact .inr ⟨_, h5, Nat.le_refl _⟩
/-- append(v, x...) of ints -/
theorem wpl_app_i {ops : Array Oper} {rest : List Oper} {o : Oper} {a : Act} {Q : Exit → Act → World → Prop} (hgd : o.guard = none) (s x : Operand)
    (ho : o.op = .call { callee := .builtin .append, args := #[s, x], argTypes := #[22, 22] })
    (base : Nat) (A : Option Addr) (n cA : Nat) (xs ys : List Int) (B : Option Addr) (c : Nat) (hs : a.eval s = .slice A n cA) (hx : a.eval x = .slice B ys.length c) (hn : n = xs.length) (hown : OwI w base A cA xs) (hr : RdI w B ys) (hlen : xs.length + ys.length ≤ 2 ^ 44) (hbase : base ≤ w.heap.size)
    (h : ∀ A' c' w', OwI w' base A' c' (xs ++ ys) → w.grownBy w' (bl A) → (bl A' = bl A ∨ ∃ g, bl A' = some g ∧ w.heap.size ≤ g) → wpList Tryd.prog ops Q rest (a.put o.dst (.slice A' (xs ++ ys).length c')) w') : wpList Tryd.prog ops Q (o :: rest) a w :=
  wpList_plain hgd fun _ hK => by
    obtain ⟨A', c', w', hrun, h2, h3, h4⟩ := run_app_i w base o.type A n cA xs ys B c hn hown hr hlen hbase
    unfold Oper.wp execOp
    simp only [ho, resolve, invoke, builtin, Sem.run_bind, Sem.run_pure, Result.andThen_ok, List.map_toArray, List.map_cons, List.map_nil, hs, hx, hrun]
    exact hK _ _ (h A' c' w' h2 h3 h4)
/-- make([]int, n) -/
theorem wpl_make_i {ops : Array Oper} {rest : List Oper} {o : Oper} {a : Act} {Q : Exit → Act → World → Prop} (hgd : o.guard = none) (l c : Operand) (hop : o.op = Op.makeSlice 22 l c)
    (base : Nat) (L C : Int) (n : Nat) (hl : a.eval l = .int .i64 L) (hc : a.eval c = .int .i64 C) (hL : L = (n : Int)) (hC : C = (n : Int)) (hn : n ≤ 2 ^ 44) (hbase : base ≤ w.heap.size)
    (hK : ∀ w', OwI w' base (some ⟨w.heap.size, 0, none⟩) n (List.replicate n 0) → w.grownBy w' none → wpList Tryd.prog ops Q rest (a.put o.dst (.slice (some ⟨w.heap.size, 0, none⟩) n n)) w') :
    wpList Tryd.prog ops Q (o :: rest) a w := by
  obtain ⟨i0, hi, hz0, hz1, hz2⟩ := info_parts int_info
  refine wpList_make_full w hgd l c _ hop base 3 i0 _ 1 Tryd.underlying22 hi hz0 hz1 .i64 .i64 L C n hl hc hL hC (by rw [hz2]; omega) (by simp only [maxLen]; omega) hbase (fun w' h2 h3 => hK w' ?_ h3)
  have e : (madeCells (Value.int .i64 0).cells (n * 1)).toList = (List.replicate n (0 : Int)).map (Value.int .i64) := by
    simp [madeCells, Value.cells, List.map_const', Nat.mod_one]
  rw [e] at h2
  simpa [OwI] using h2
end
theorem eqlNilI (u : World) (A : Option Addr) (n c : Nat) : (binOp .eql 22 (.slice A n c) (.slice none 0 0)).run Tryd.prog u = .ok (.bool A.isNone) u := Lib.run_eql_slice_nil u _ 3 _ _ _ _ _ Tryd.underlying22
theorem Blk.grown {w w' : World} {g : Nat} {t : TypeId} {cs : Array Value} {row : Option Nat} (h : Blk w g t cs) (hb : w.grownBy w' row) (hg : row ≠ some g) : Blk w' g t cs := (hb.block g h.lt (fun e => hg e.symm)).trans h
section
variable (w : World)
end
/-- slices.Clone of ints -/
theorem clone_any (A : Option Addr) (c : Nat) (xs : List Int) (w : World) (hx : RdI w A xs) (hl : xs.length ≤ 2 ^ 44) :
    Calls Tryd.prog 38 #[.slice A xs.length c] w fun e w' => ∃ A' c', e = .returned (.slice A' xs.length c') ∧ OwI w' w.heap.size A' c' xs ∧ Ext w w' := by
  rcases A with _ | ⟨b, off, sp⟩
  · have h0 : xs = [] := by
      rcases hx with h | ⟨_, _, h, _⟩
      · exact h
      · cases h
    subst h0
    clear hl hx
    have hnil := fun u : World => eqlNilI u none 0 c
    simp only [List.length_nil]
    go_enter Tryd.func38, Tryd.ntmps38
    go_wp2
    go_ret
    exact ⟨_, _, rfl, OwI.nil _ _, Ext.rf _⟩
  · have hnil := fun u : World => eqlNilI u (some ⟨b, off, sp⟩) xs.length c
    go_enter Tryd.func38, Tryd.ntmps38
    go_wp2_with (at_builtin; refine wpl_app_i _ rfl _ _ rfl w.heap.size (some ⟨w.heap.size, 0, none⟩) 0 0 [] xs (some ⟨b, off, sp⟩) c rfl rfl rfl (by exact OwI.new (xs := []) rfl (Nat.le_refl _) zero_le_maxLen) (by exact hx.ext ((Ext.rf _).alloc _)) (by simpa using hl) (by simp) ?_; rintro A1 c1 w1 hown hg _)
    go_ret
    exact ⟨_, _, rfl, hown, ((Ext.rf w).alloc _).grow hg (by intro k hk; simp [bl] at hk; omega)⟩
end Go.Proofs.YtleckhbmciiooaaDoor
namespace Go.Proofs.YtleckhbmciiooaaDoor
open Go.RowKit Go.ChangeShapes Go.WideShapes Go.ChangeAt

/-- the slice with head A (of elements of type e) reads as these cells -/
def RdV (w : World) (e : TypeId) (A : Option Addr) (vs : List Value) : Prop :=
  vs = [] ∨ ∃ b off cur, A = some ⟨b, off, none⟩ ∧ w.heap[b]? = some (.cells cur e (0, 0)) ∧ ∀ j v, vs[j]? = some v → cur[off + j]? = some v
/-- the same, of a block of whatever make -/
def RdC (w : World) (A : Option Addr) (vs : List Value) : Prop :=
  vs = [] ∨ ∃ b off, A = some ⟨b, off, none⟩ ∧ b < w.heap.size ∧ ∀ j v, vs[j]? = some v → w.cell? ⟨b, off + j, none⟩ = some v
section
variable {w w' : World} {e : TypeId} {A : Option Addr} {vs : List Value}
theorem RdV.nil (w : World) (e : TypeId) (A : Option Addr) : RdV w e A [] := .inl rfl
theorem RdV.rdC (h : RdV w e A vs) : RdC w A vs := by
  rcases h with rfl | ⟨b, off, cur, rfl, hb, hc⟩
  · exact .inl rfl
  · exact .inr ⟨b, off, rfl, (Array.getElem?_eq_some_iff.1 hb).1, fun j v hj => by rw [cell_of_row w b _ cur e (0, 0) hb]; exact hc j v hj⟩
theorem RdC.ext (h : RdC w A vs) (hb : Ext w w') : RdC w' A vs := by
  rcases h with rfl | ⟨b, off, rfl, hlt, hc⟩
  · exact .inl rfl
  · exact .inr ⟨b, off, rfl, Nat.lt_of_lt_of_le hlt hb.size, fun j v hj => by rw [hb.cell hlt]; exact hc j v hj⟩
theorem RdV.keep (h : RdV w e A vs) (hb : ∀ b, bl A = some b → w'.heap[b]? = w.heap[b]?) : RdV w' e A vs := by
  rcases h with rfl | ⟨b, off, cur, rfl, hh, hc⟩
  · exact .inl rfl
  · exact .inr ⟨b, off, cur, rfl, (hb b rfl).trans hh, hc⟩
theorem RdV.lt (h : RdV w e A vs) (hne : vs ≠ []) : ∀ b, bl A = some b → b < w.heap.size := by
  intro b hb
  rcases h with rfl | ⟨b', off, cur, rfl, hh, hc⟩
  · exact absurd rfl hne
  · simp [bl] at hb
    subst hb
    exact (Array.getElem?_eq_some_iff.1 hh).1
theorem RdV.ext (h : RdV w e A vs) (hx : Ext w w') : RdV w' e A vs := by
  rcases h with rfl | ⟨b, off, cur, rfl, hh, hc⟩
  · exact .inl rfl
  · exact .inr ⟨b, off, cur, rfl, (hx.block b (Array.getElem?_eq_some_iff.1 hh).1).trans hh, hc⟩
/-- blocks of other element types may turn -/
theorem RdV.mod {S : Nat → Prop} (h : RdV w e A vs) (hm : Mod S w w') (hS : ∀ k cur, w.heap[k]? = some (.cells cur e (0, 0)) → ¬ S k) : RdV w' e A vs := by
  rcases h with rfl | ⟨b, off, cur, rfl, hh, hc⟩
  · exact .inl rfl
  · exact .inr ⟨b, off, cur, rfl, (hm.block b (Array.getElem?_eq_some_iff.1 hh).1 (hS b cur hh)).trans hh, hc⟩
theorem RdV.blk {b : Nat} {cs : Array Value} (h : Blk w b e cs) : RdV w e (some ⟨b, 0, none⟩) cs.toList :=
  .inr ⟨b, 0, cs, rfl, h, fun j v hj => by simpa using hj⟩
theorem RdV.at (h : RdV w e A vs) {j : Nat} (hj : j < vs.length) : ∃ b off v, A = some ⟨b, off, none⟩ ∧ b < w.heap.size ∧ w.cell? ⟨b, off + j, none⟩ = some v ∧ Hid (vs[j]? = some v) := by
  rcases h.rdC with rfl | ⟨b, off, rfl, hlt, hc⟩
  · simp at hj
  · exact ⟨b, off, vs[j], rfl, hlt, hc j _ (List.getElem?_eq_getElem hj), List.getElem?_eq_getElem hj⟩
theorem RdV.form (h : RdV w e A vs) (hne : vs ≠ []) : ∃ b off, A = some ⟨b, off, none⟩ ∧ b < w.heap.size ∧ ∀ j v, vs[j]? = some v → w.cell? ⟨b, off + j, none⟩ = some v := by
  rcases h.rdC with rfl | ⟨b, off, rfl, hlt, hc⟩
  · exact absurd rfl hne
  · exact ⟨b, off, rfl, hlt, hc⟩
/-- x[k:] -/
theorem RdV.drop (h : RdV w e A vs) (k : Nat) : RdV w e (A.map (·.add k)) (vs.drop k) := by
  rcases h with rfl | ⟨b, off, cur, rfl, hh, hc⟩
  · exact .inl (by simp)
  · refine .inr ⟨b, off + k, cur, by simp [add_plain], hh, fun j v hj => ?_⟩
    rw [List.getElem?_drop] at hj
    rw [Nat.add_assoc]
    exact hc _ v hj
theorem RdV.take (h : RdV w e A vs) (k : Nat) : RdV w e A (vs.take k) := by
  rcases h with rfl | ⟨b, off, cur, rfl, hh, hc⟩
  · exact .inl (by simp)
  · refine .inr ⟨b, off, cur, rfl, hh, fun j v hj => ?_⟩
    rw [List.getElem?_take] at hj
    split at hj
    · exact hc j v hj
    · cases hj
end

/-- a slice of the call's own (blocks from base on): n elements of size cells each -/
def OwV (w : World) (base : Nat) (e : TypeId) (size : Nat) (A : Option Addr) (n c : Nat) (vs : List Value) : Prop := w.ownsRow base e size (.slice A n c) n vs
section
variable {w w' : World} {base : Nat} {e : TypeId} {size : Nat} {A : Option Addr} {n c : Nat} {vs : List Value}
theorem OwV.nil (w : World) (base : Nat) (e : TypeId) (size : Nat) : OwV w base e size none 0 0 [] := World.ownsRow_nil _ _ _ _
theorem OwV.cases (h : OwV w base e size A n c vs) : (A = none ∧ c = 0 ∧ n = 0 ∧ vs = []) ∨ ∃ g cur, A = some ⟨g, 0, none⟩ ∧ base ≤ g ∧ w.heap[g]? = some (.cells cur e (0, 0)) ∧ n ≤ c ∧ c ≤ maxLen ∧ cur.size = c * size ∧ cur.toList.take (n * size) = vs := by
  rcases h.2 with ⟨hv, h0⟩ | ⟨g, cap, cur, hv, hb, hg, hn, hm, hs, ht⟩
  · injection hv with h1 _ h3
    have := h.1
    rw [h0, Nat.zero_mul] at this
    exact .inl ⟨h1, h3, h0, List.eq_nil_of_length_eq_zero this⟩
  · injection hv with h1 _ h3
    subst h1 h3
    exact .inr ⟨g, cur, rfl, hb, hg, hn, hm, hs, ht⟩
theorem OwV.mk {g : Nat} {cur : Array Value} (hb : base ≤ g) (hg : w.heap[g]? = some (.cells cur e (0, 0))) (hn : n ≤ c) (hm : c ≤ maxLen) (hs : cur.size = c * size) (ht : cur.toList.take (n * size) = vs) : OwV w base e size (some ⟨g, 0, none⟩) n c vs :=
  ⟨by rw [← ht, List.length_take, Array.length_toList, hs]; exact Nat.min_eq_left (Nat.mul_le_mul_right _ hn), .inr ⟨g, c, cur, rfl, hb, hg, hn, hm, hs, ht⟩⟩
theorem OwV.le (h : OwV w base e size A n c vs) : n ≤ c ∧ c ≤ maxLen := by
  rcases h.cases with ⟨rfl, rfl, rfl, rfl⟩ | ⟨g, cur, rfl, hb, hg, hn, hm, _⟩
  · exact ⟨Nat.le_refl _, zero_le_maxLen⟩
  · exact ⟨hn, hm⟩
theorem OwV.len (h : OwV w base e size A n c vs) : vs.length = n * size := h.1
theorem OwV.read (h : OwV w base e size A n c vs) : RdV w e A vs := by
  rcases h.cases with ⟨rfl, rfl, rfl, rfl⟩ | ⟨g, cur, rfl, hb, hg, hn, hm, hs, ht⟩
  · exact .inl rfl
  · refine .inr ⟨g, 0, cur, rfl, hg, fun j v hj => ?_⟩
    rw [← ht, List.getElem?_take] at hj
    split at hj
    · simpa using hj
    · cases hj
theorem OwV.keep (h : OwV w base e size A n c vs) (hb : ∀ g, bl A = some g → w'.heap[g]? = w.heap[g]?) : OwV w' base e size A n c vs := by
  rcases h.cases with ⟨rfl, rfl, rfl, rfl⟩ | ⟨g, cur, rfl, hb', hg, hn, hm, hs, ht⟩
  · exact OwV.nil _ _ _ _
  · exact .mk hb' ((hb g rfl).trans hg) hn hm hs ht
theorem OwV.lt (h : OwV w base e size A n c vs) : ∀ k, bl A = some k → base ≤ k ∧ k < w.heap.size := by
  intro k hk
  rcases h.cases with ⟨rfl, rfl, rfl, rfl⟩ | ⟨g, cur, rfl, hb', hg, _⟩
  · simp [bl] at hk
  · simp [bl] at hk
    subst hk
    exact ⟨hb', (Array.getElem?_eq_some_iff.1 hg).1⟩
theorem OwV.ext (h : OwV w base e size A n c vs) (hb : Ext w w') : OwV w' base e size A n c vs := h.keep fun g hg => hb.block g (h.lt g hg).2
theorem OwV.more {base' : Nat} (h : OwV w base e size A n c vs) (hb : base' ≤ base) : OwV w base' e size A n c vs := by
  rcases h.cases with ⟨rfl, rfl, rfl, rfl⟩ | ⟨g, cur, rfl, hb', hg, hn, hm, hs, ht⟩
  · exact OwV.nil _ _ _ _
  · exact .mk (Nat.le_trans hb hb') hg hn hm hs ht
theorem OwV.mod {S : Nat → Prop} (h : OwV w base e size A n c vs) (hm : Mod S w w') (hg : ∀ g, bl A = some g → ¬ S g) : OwV w' base e size A n c vs :=
  h.keep fun g hA => hm.block g (h.lt g hA).2 (hg g hA)
theorem OwV.ne {g : Nat} {t : TypeId} {cs : Array Value} (h : OwV w base e size A n c vs) (hg : Blk w g t cs) (ht : t ≠ e) : ∀ k, bl A = some k → ¬ k = g := by
  rintro k hk rfl
  rcases h.cases with ⟨rfl, rfl, rfl, rfl⟩ | ⟨g', cur, rfl, hb', hh, _⟩
  · simp [bl] at hk
  · simp [bl] at hk
    subst hk
    exact Blk.ne (show Blk w g' _ _ from hh) hg (Ne.symm ht) rfl
theorem OwV.set {g : Nat} (h : OwV w base e size (some ⟨g, 0, none⟩) n c vs) {j : Nat} (hj : j < vs.length) (u : Value) :
    w.cell? ⟨g, j, none⟩ = vs[j]? ∧ w.frozen? ⟨g, j, none⟩ = false ∧ base ≤ g ∧ OwV (w.setCell ⟨g, j, none⟩ u) base e size (some ⟨g, 0, none⟩) n c (vs.set j u) := by
  rcases h.cases with ⟨h0, _⟩ | ⟨g', cur, hA, hb, hg, hn, hm, hs, ht⟩
  · cases h0
  · injection hA with hA
    injection hA with hA
    subst hA
    refine ⟨?_, by simp [World.frozen?, hg], hb, .mk (cur := cur.setIfInBounds j u) hb ?_ hn hm (by simpa using hs) ?_⟩
    · rw [cell_of_row w g _ cur _ (0, 0) hg, ← ht, List.getElem?_take, if_pos]
      · simp
      · rw [← ht, List.length_take] at hj
        omega
    · simp [World.setCell, Array.getElem?_modify, hg]
    · simp only [Array.toList_setIfInBounds, ← ht]
      rw [List.take_set]
/-- a block just made, full -/
theorem OwV.full {g : Nat} {cs : Array Value} (h : Blk w g e cs) (hb : base ≤ g) (hs : cs.size = n * size) (hm : n ≤ maxLen) : OwV w base e size (some ⟨g, 0, none⟩) n n cs.toList :=
  .mk hb h (Nat.le_refl _) hm hs (List.take_of_length_le (by rw [Array.length_toList, hs]; exact Nat.le_refl _))
end

section
variable (w : World) {t e : TypeId} {i : TypeInfo} {z : Value} {size bytes : Nat} (ht : Tryd.prog.underlying t = some (.slice e)) (hi : Tryd.prog.info? e = some i) (hz : i.zero = some z) (hsize : i.size = size) (hby : i.bytes = bytes) (hzs : z.cells.size = size) (hsz : 0 < size)
include ht hi hz hsize hby hzs hsz

set_option maxRecDepth 100000 in
theorem run_app_v (base : Nat) (ty : TypeId) (A : Option Addr) (n cA : Nat) (xs : List Value) (B : Option Addr) (m c : Nat) (ys : List Value) (hown : OwV w base e size A n cA xs) (hr : RdC w B ys) (hm : ys.length = m * size) (h1 : ∀ u ∈ ys, u.oneCell' = true)
    (h63 : n + m ≤ maxLen) (hbytes : (n + m) * bytes ≤ 140737488355328) (hbase : base ≤ w.heap.size) :
    ∃ A' c' w', (Builtin.append_ #[t, t] ty #[.slice A n cA, .slice B m c]).run Tryd.prog w = .ok (.slice A' (n + m) c') w' ∧ OwV w' base e size A' (n + m) c' (xs ++ ys) ∧ w.grownBy w' (bl A) ∧ (bl A' = bl A ∨ bl A' = some w.heap.size) := by
  rcases B with _ | ad
  · have hy : ys = [] := by
      rcases hr with h | ⟨b, off, h, _⟩
      · exact h
      · cases h
    subst hy
    have hm0 : m = 0 := by
      simp only [List.length_nil] at hm
      rcases Nat.eq_zero_or_pos m with h | h
      · exact h
      · have := Nat.mul_pos h hsz; omega
    subst hm0
    refine ⟨A, cA, w, ?_, by simpa using hown, ⟨rfl, rfl, rfl, Nat.le_refl _, fun _ _ _ => rfl⟩, .inl rfl⟩
    have hle := hown.le.1
    simp [Builtin.append_, run_underlying ht, sizeOf, typeInfo, hi, Builtin.lenOf, Builtin.firstCells, hle]
    cases A <;> simp [storeCells]
  · have hnews : ∀ j u, ys[j]? = some u → w.cell? (ad.add j) = some u := by
      intro j u hu
      rcases hr with rfl | ⟨b, off, h, _, hc⟩
      · simp at hu
      · injection h with h
        subst h
        rw [add_plain]
        exact hc j u hu
    obtain ⟨v', w', hrun, h2, h3, _, h5⟩ := run_append_own_at (P := Tryd.prog) w base t ty e i z size bytes ht hi hz hsize hby hzs hsz _ n _ hown ad m c ys hm hnews h1 h63 hbytes hbase
    rw [ownBlock_bl] at h3 h5
    have hv : ∃ A' c', v' = .slice A' (n + m) c' := by
      rcases h2.2 with ⟨rfl, h0⟩ | ⟨g, cap, cur, rfl, _⟩
      · exact ⟨none, 0, by rw [h0]⟩
      · exact ⟨some ⟨g, 0, none⟩, cap, rfl⟩
    obtain ⟨A', c', rfl⟩ := hv
    rw [ownBlock_bl] at h5
    exact ⟨A', c', w', hrun, h2, h3, h5⟩
theorem wpl_app_v {ops : Array Oper} {rest : List Oper} {o : Oper} {a : Act} {Q : Exit → Act → World → Prop} (hgd : o.guard = none) (s x : Operand)
    (ho : o.op = .call { callee := .builtin .append, args := #[s, x], argTypes := #[t, t] })
    (base : Nat) (A : Option Addr) (n cA : Nat) (xs : List Value) (B : Option Addr) (m c : Nat) (ys : List Value) (hs : a.eval s = .slice A n cA) (hx : a.eval x = .slice B m c) (hown : OwV w base e size A n cA xs) (hr : RdC w B ys) (hm : ys.length = m * size) (h1 : ∀ u ∈ ys, u.oneCell' = true)
    (h63 : n + m ≤ maxLen) (hbytes : (n + m) * bytes ≤ 140737488355328) (hbase : base ≤ w.heap.size)
    (h : ∀ A' c' w', OwV w' base e size A' (n + m) c' (xs ++ ys) → w.grownBy w' (bl A) → (bl A' = bl A ∨ bl A' = some w.heap.size) → wpList Tryd.prog ops Q rest (a.put o.dst (.slice A' (n + m) c')) w') : wpList Tryd.prog ops Q (o :: rest) a w :=
  wpList_plain hgd fun _ hK => by
    obtain ⟨A', c', w', hrun, h2, h3, h4⟩ := run_app_v w ht hi hz hsize hby hzs hsz base o.type A n cA xs B m c ys hown hr hm h1 h63 hbytes hbase
    unfold Oper.wp execOp
    simp only [ho, resolve, invoke, builtin, Sem.run_bind, Sem.run_pure, Result.andThen_ok, List.map_toArray, List.map_cons, List.map_nil, hs, hx, hrun]
    exact hK _ _ (h A' c' w' h2 h3 h4)
theorem step_app_v {ops : Array Oper} {o : Oper} {a : Act} {K : Act → World → Prop} {Q : Exit → Act → World → Prop} {E : Prop} (hgd : o.guard = none) (s x : Operand)
    (ho : o.op = .call { callee := .builtin .append, args := #[s, x], argTypes := #[t, t] })
    (base : Nat) (A : Option Addr) (n cA : Nat) (xs : List Value) (B : Option Addr) (m c : Nat) (ys : List Value) (hs : a.eval s = .slice A n cA) (hx : a.eval x = .slice B m c) (hown : OwV w base e size A n cA xs) (hr : RdC w B ys) (hm : ys.length = m * size) (h1 : ∀ u ∈ ys, u.oneCell' = true)
    (h63 : n + m ≤ maxLen) (hbytes : (n + m) * bytes ≤ 140737488355328) (hbase : base ≤ w.heap.size)
    (h : ∀ A' c' w', OwV w' base e size A' (n + m) c' (xs ++ ys) → w.grownBy w' (bl A) → (bl A' = bl A ∨ bl A' = some w.heap.size) → K (a.put o.dst (.slice A' (n + m) c')) w') : if Region.wanted o (yielded ops a.tmps) = true then Oper.wp Tryd.prog o a w K Q else E := by
  have hw : Region.wanted o (yielded ops a.tmps) = true := by simp [Region.wanted, hgd]
  rw [if_pos hw]
  obtain ⟨A', c', w', hrun, h2, h3, h4⟩ := run_app_v w ht hi hz hsize hby hzs hsz base o.type A n cA xs B m c ys hown hr hm h1 h63 hbytes hbase
  unfold Oper.wp execOp
  simp only [ho, resolve, invoke, builtin, Sem.run_bind, Sem.run_pure, Result.andThen_ok, List.map_toArray, List.map_cons, List.map_nil, hs, hx, hrun]
  exact h A' c' w' h2 h3 h4
end
end Go.Proofs.YtleckhbmciiooaaDoor
namespace Go.Proofs.YtleckhbmciiooaaDoor
open Go.RowKit

/-- the frame a0 with the values u of the operations that are listed here -/
def putAll (a0 : Act) : List (Nat × Option Tmp) → (Nat → Value) → Act
  | [], _ => a0
  | p :: ps, u => (putAll a0 ps u).put p.2 (u p.1)
def upd (u : Nat → Value) (i : Nat) (v : Value) : Nat → Value := fun j => if j = i then v else u j
/-- the operations ahead of number i, of those that are not yet listed -/
def depsOf (ops : Array Oper) (rem : List (Nat × Option Tmp)) (i : Nat) : List Nat :=
  match ops[i]? with
  | none => []
  | some o => (o.after.toList.filter fun e => Region.binds .any e && (rem.map (·.1)).contains e.on).map (·.on)
theorem depIn {ops : Array Oper} {rem : List (Nat × Option Tmp)} {i j : Nat} (h : (depsOf ops rem i).contains j = true) : j ∈ depsOf ops rem i := by simpa using h
theorem Act.put_put_ne (a : Act) {x y : Option Tmp} (v u : Value) (h : ∀ d, x = some d → y ≠ some d) : (a.put x v).put y u = (a.put y u).put x v := Act.put_comm a v u h
theorem Act.put_twice (a : Act) (x : Option Tmp) (v u : Value) : (a.put x v).put x u = a.put x u := by
  cases x with
  | none => rfl
  | some d => simp [Act.put, Array.setIfInBounds_setIfInBounds]
theorem putAll_upd (a0 : Act) (i : Nat) (d : Option Tmp) (u : Nat → Value) (v : Value) : ∀ (rem : List (Nat × Option Tmp)), (rem.map (·.1)).Nodup → (rem.filterMap (·.2)).Nodup → (i, d) ∈ rem →
    (putAll a0 rem u).put d v = putAll a0 rem (upd u i v)
  | [], _, _, h => by cases h
  | p :: ps, hn, hd, h => by
    have same : ∀ (qs : List (Nat × Option Tmp)), i ∉ qs.map (·.1) → putAll a0 qs (upd u i v) = putAll a0 qs u := by
      intro qs
      induction qs with
      | nil => intro _; rfl
      | cons q qs ih =>
        intro hq
        simp only [List.map_cons, List.mem_cons, not_or] at hq
        simp only [putAll, ih hq.2, upd, if_neg (Ne.symm hq.1)]
    rcases List.mem_cons.1 h with rfl | h'
    · have hni : i ∉ ps.map (·.1) := by simpa using (List.nodup_cons.1 hn).1
      simp only [putAll, same ps hni, upd, if_true]
      exact Act.put_twice _ _ _ _
    · have hpi : p.1 ≠ i := by
        rintro rfl
        exact (List.nodup_cons.1 hn).1 (List.mem_map.2 ⟨_, h', rfl⟩)
      have hd' : (ps.filterMap (·.2)).Nodup := by
        cases hp : p.2 with
        | none => simpa [List.filterMap_cons, hp] using hd
        | some t => rw [List.filterMap_cons, hp] at hd; exact (List.nodup_cons.1 hd).2
      have ih := putAll_upd a0 i d u v ps (List.nodup_cons.1 hn).2 hd' h'
      simp only [putAll, upd, if_neg hpi]
      rw [← ih]
      refine Act.put_put_ne _ _ _ ?_
      intro t ht hdt
      rw [List.filterMap_cons, ht] at hd
      exact (List.nodup_cons.1 hd).1 (List.mem_filterMap.2 ⟨(i, d), h', hdt⟩)
theorem put_same (a : Act) (d : Tmp) : a.put (some d) (a.tmps.getD d undef) = a := by
  have : a.tmps.setIfInBounds d (a.tmps.getD d undef) = a.tmps := by
    apply Array.ext_getElem?
    intro j
    rw [Array.getElem?_setIfInBounds]
    split
    · rename_i h
      subst h
      split
      · rename_i h; simp [Array.getD, h]
      · rename_i h; simp [Array.getElem?_eq_none (Nat.le_of_not_lt h)]
    · rfl
  show ({ a with tmps := a.tmps.setIfInBounds d (a.tmps.getD d undef) } : Act) = a
  rw [this]
theorem putAll_far (a0 : Act) (u : Nat → Value) (i : Nat) (v : Value) : ∀ (qs : List (Nat × Option Tmp)), i ∉ qs.map (·.1) → putAll a0 qs (upd u i v) = putAll a0 qs u
  | [], _ => rfl
  | q :: qs, hq => by
    simp only [List.map_cons, List.mem_cons, not_or] at hq
    simp only [putAll, putAll_far a0 u i v qs hq.2, upd, if_neg (Ne.symm hq.1)]
theorem putAll_self (a0 : Act) : ∀ (rem : List (Nat × Option Tmp)), (rem.map (·.1)).Nodup → ∃ u, putAll a0 rem u = a0
  | [], _ => ⟨fun _ => undef, rfl⟩
  | p :: ps, hn => by
    obtain ⟨u, hu⟩ := putAll_self a0 ps (List.nodup_cons.1 hn).2
    have hni : p.1 ∉ ps.map (·.1) := (List.nodup_cons.1 hn).1
    refine ⟨upd u p.1 (match p.2 with | some d => a0.tmps.getD d undef | none => undef), ?_⟩
    simp only [putAll, putAll_far a0 u _ _ ps hni, hu, upd, if_true]
    cases p.2 with
    | none => rfl
    | some d => exact put_same a0 d
section
variable {P : Program} {ops : Array Oper} {Q : Exit → Act → World → Prop}
/-- how many are not yet listed -/
def openOf (listed : Array Bool) (rem : List (Nat × Option Tmp)) : Nat := (rem.filter fun p => !listed.getD p.1 true).length
/-- the same for a part of the operations; 'listed1': what is listed behind them -/
def coreOk (ops : Array Oper) (listed listed1 : Array Bool) (rem : List (Nat × Option Tmp)) : Bool :=
  decide ((rem.map (·.1)).Nodup) && decide ((rem.filterMap (·.2)).Nodup) && decide (listed.size = ops.size) && decide (listed1.size = ops.size) &&
  rem.all (fun p => match ops[p.1]? with
    | none => false
    | some o => (o.dst == p.2) && o.after.all (fun e => !Region.binds .any e || (decide (e.on < p.1) && ((rem.map (·.1)).contains e.on || listed.getD e.on true)))) &&
  (List.range ops.size).all (fun i => if (rem.map (·.1)).contains i then !listed.getD i true && listed1.getD i true
    else (listed1.getD i true == listed.getD i true) && (listed.getD i true || rem.all (fun p => match ops[i]? with
      | none => false
      | some o => o.after.any (fun e => Region.binds .any e && e.on == p.1)) || (match ops[i]? with
      | none => false
      | some o => o.after.any (fun e => Region.binds .any e && decide (e.on < ops.size) && !listed.getD e.on true && !(rem.map (·.1)).contains e.on))))
/-- .. of some of the operations alone: all that are left want all of them ahead -/
theorem wpAny_core (rem : List (Nat × Option Tmp)) (R : World → Prop) (V : Nat → Value → World → Prop) (Stab : World → World → Prop) {listed0 : Array Bool} (listed1 : Array Bool) (hok : coreOk ops listed0 listed1 rem = true)
    (stab : ∀ j v w w', V j v w → Stab w w' → V j v w')
    {a0 : Act}
    (step : ∀ p ∈ rem, ∀ u w, R w → (∀ j ∈ depsOf ops rem p.1, V j (u j) w) → ∀ K : Act → World → Prop, (∀ v w', V p.1 v w' → R w' → Stab w w' → K ((putAll a0 rem u).put p.2 v) w') → wpOp P ops Q p.1 K (putAll a0 rem u) w)
    (n : Nat) (done : ∀ u w, R w → (∀ p ∈ rem, V p.1 (u p.1) w) → wpAny P .any ops Q n listed1 (putAll a0 rem u) w) {w0 : World} (hR : R w0) :
    wpAny P .any ops Q (rem.length + n) listed0 a0 w0 := by
  simp only [coreOk, Bool.and_eq_true, decide_eq_true_eq] at hok
  obtain ⟨⟨⟨⟨⟨hn, hdn⟩, hsz⟩, hsz1⟩, hall⟩, hcomp⟩ := hok
  have hall := List.all_eq_true.1 hall
  have hcomp := List.all_eq_true.1 hcomp
  have hmem : ∀ i ∈ rem.map (·.1), listed0.getD i true = false ∧ i < ops.size := by
    intro i hi
    obtain ⟨p, hp, rfl⟩ := List.mem_map.1 hi
    have h1 := hall p hp
    have hlt : p.1 < ops.size := by
      rcases Nat.lt_or_ge p.1 ops.size with h | h
      · exact h
      · rw [Array.getElem?_eq_none h] at h1; simp at h1
    have := hcomp p.1 (List.mem_range.2 hlt)
    have hc : (rem.map (·.1)).contains p.1 = true := by simpa using hi
    rw [hc] at this
    simp only [if_true, Bool.and_eq_true, Bool.not_eq_true'] at this
    exact ⟨this.1, hlt⟩
  have hone : ∀ i ∈ rem.map (·.1), listed1.getD i true = true := by
    intro i hi
    have := hcomp i (List.mem_range.2 (hmem i hi).2)
    have hc : (rem.map (·.1)).contains i = true := by simpa using hi
    rw [hc] at this
    simp only [if_true, Bool.and_eq_true] at this
    exact this.2
  have hrest : ∀ i, i < ops.size → i ∉ rem.map (·.1) → listed1.getD i true = listed0.getD i true ∧ ((listed0.getD i true = true ∨ ∀ p ∈ rem, ∃ o, ops[i]? = some o ∧ ∃ e ∈ o.after.toList, Region.binds .any e = true ∧ e.on = p.1) ∨ ∃ o, ops[i]? = some o ∧ ∃ e ∈ o.after.toList, Region.binds .any e = true ∧ e.on < ops.size ∧ listed0.getD e.on true = false ∧ e.on ∉ rem.map (·.1)) := by
    intro i hi hni
    have := hcomp i (List.mem_range.2 hi)
    have hc : (rem.map (·.1)).contains i = false := by
      cases h : (rem.map (·.1)).contains i with
      | false => rfl
      | true => exact absurd (by simpa using h) hni
    rw [hc] at this
    simp only [Bool.false_eq_true, if_false, Bool.and_eq_true, beq_iff_eq, Bool.or_eq_true] at this
    refine ⟨this.1, ?_⟩
    rcases this.2 with (h | h) | h
    · exact .inl (.inl h)
    · refine .inl (.inr fun p hp => ?_)
      have h := List.all_eq_true.1 h p hp
      rw [Array.getElem?_eq_getElem hi] at h
      refine ⟨ops[i], Array.getElem?_eq_getElem hi, ?_⟩
      simp only [Array.any_toList.symm, List.any_eq_true, Bool.and_eq_true, beq_iff_eq] at h
      obtain ⟨e, he, h1, h2⟩ := h
      exact ⟨e, he, h1, h2⟩
    · right
      rw [Array.getElem?_eq_getElem hi] at h
      refine ⟨ops[i], Array.getElem?_eq_getElem hi, ?_⟩
      simp only [Array.any_toList.symm, List.any_eq_true, Bool.and_eq_true, decide_eq_true_eq, Bool.not_eq_true'] at h
      obtain ⟨e, he, ⟨⟨h1, h2⟩, h3⟩, h4⟩ := h
      exact ⟨e, he, h1, h2, h3, by simpa using h4⟩
  -- the invariant
  suffices H : ∀ k (listed : Array Bool) (u : Nat → Value) (w : World), listed.size = ops.size → R w → (∀ i, i < ops.size → i ∉ rem.map (·.1) → listed.getD i true = listed0.getD i true) →
      (∀ p ∈ rem, listed.getD p.1 true = true → V p.1 (u p.1) w) → openOf listed rem = k → wpAny P .any ops Q (k + n) listed (putAll a0 rem u) w by
    obtain ⟨u, hu⟩ := putAll_self a0 rem hn
    have hopen : openOf listed0 rem = rem.length := by
      unfold openOf
      rw [List.filter_eq_self.2]
      intro p hp
      simp [(hmem p.1 (List.mem_map.2 ⟨p, hp, rfl⟩)).1]
    have h := H rem.length listed0 u w0 hsz hR (fun i hi hni => rfl) (fun p hp hl => by
      have := (hmem p.1 (List.mem_map.2 ⟨p, hp, rfl⟩)).1
      rw [this] at hl
      cases hl) hopen
    rwa [hu] at h
  intro k
  induction k with
  | zero =>
    intro listed u w hs hRw hout hV hopen
    have hall' : ∀ p ∈ rem, listed.getD p.1 true = true := by
      intro p hp
      simp only [openOf, List.length_eq_zero_iff, List.filter_eq_nil_iff, Bool.not_eq_true', Bool.not_eq_false] at hopen
      exact hopen p hp
    have hl : listed = listed1 := by
      apply Array.ext
      · rw [hs, hsz1]
      · intro i h1 h2
        have : listed.getD i true = listed1.getD i true := by
          by_cases hr : i ∈ rem.map (·.1)
          · rw [hone i hr]
            obtain ⟨p, hp, rfl⟩ := List.mem_map.1 hr
            exact hall' p hp
          · rw [hout i (by omega) hr, (hrest i (by omega) hr).1]
        simpa [Array.getD, h1, h2] using this
    rw [hl, Nat.zero_add]
    exact done u w hRw (fun p hp => hV p hp (hall' p hp))
  | succ k ih =>
    intro listed u w hs hRw hout hV hopen
    rw [Nat.add_right_comm]
    -- one of the list is not yet listed: none of the others is ready
    have hsome : ∃ p ∈ rem, listed.getD p.1 true = false := by
      have : (rem.filter fun p => !listed.getD p.1 true) ≠ [] := by
        intro h
        simp only [openOf, h, List.length_nil] at hopen
        omega
      obtain ⟨p, hp⟩ := List.exists_mem_of_ne_nil _ this
      obtain ⟨h1, h2⟩ := List.mem_filter.1 hp
      exact ⟨p, h1, by simpa using h2⟩
    have hno : ∀ i, i ∈ Region.ready .any ops listed → i ∈ rem.map (·.1) := by
      intro i hi
      obtain ⟨hi1, hi2⟩ := List.mem_filter.1 hi
      have hilt := List.mem_range.1 hi1
      simp only [Bool.and_eq_true] at hi2
      have hil : listed.getD i true = false := by simpa using hi2.1
      by_cases hr : i ∈ rem.map (·.1)
      · exact hr
      · exfalso
        obtain ⟨h1, h2⟩ := hrest i hilt hr
        rw [hout i hilt hr] at hil
        rcases h2 with (h2 | h2) | h2
        · rw [h2] at hil; cases hil
        rotate_left
        · obtain ⟨o, ho, e, he, hb, hsz2, hl0, hnr⟩ := h2
          have h3 := hi2.2
          rw [ho] at h3
          simp only [Option.map_some, Option.getD_some, Array.all_eq_true_iff_forall_mem] at h3
          have := h3 e (by simpa using he)
          rw [hb] at this
          simp only [Bool.not_true, Bool.false_or] at this
          have hlt : e.on < listed.size := by rw [hs]; exact hsz2
          have e1 : listed.getD e.on false = listed.getD e.on true := by simp only [Array.getD, hlt, dif_pos]
          rw [e1, hout e.on hsz2 hnr, hl0] at this
          cases this
        · obtain ⟨p, hp, hpl⟩ := hsome
          obtain ⟨o, ho, e, he, hb, heo⟩ := h2 p hp
          have h3 := hi2.2
          rw [ho] at h3
          simp only [Option.map_some, Option.getD_some, Array.all_eq_true_iff_forall_mem] at h3
          have := h3 e (by simpa using he)
          rw [hb, heo] at this
          simp only [Bool.not_true, Bool.false_or] at this
          have hlt : p.1 < listed.size := by rw [hs]; exact (hmem p.1 (List.mem_map.2 ⟨p, hp, rfl⟩)).2
          have e1 : listed.getD p.1 false = listed.getD p.1 true := by simp only [Array.getD, hlt, dif_pos]
          rw [e1, hpl] at this
          cases this
    constructor
    · intro hnil
      -- the least one that is not listed is ready
      exfalso
      have key : ∀ i, i < ops.size → i ∈ rem.map (·.1) → listed.getD i true = true := by
        intro i
        induction i using Nat.strongRecOn with
        | _ i ihi =>
          intro hi hr
          obtain ⟨p, hp, rfl⟩ := List.mem_map.1 hr
          have h1 := hall p hp
          cases hl : listed.getD p.1 true with
          | true => rfl
          | false =>
            exfalso
            have hready : p.1 ∈ Region.ready .any ops listed := by
              refine List.mem_filter.2 ⟨List.mem_range.2 hi, ?_⟩
              rw [Array.getElem?_eq_getElem hi] at h1 ⊢
              simp only [Bool.and_eq_true, beq_iff_eq] at h1
              simp only [hl, Bool.not_false, Option.map_some, Option.getD_some, Bool.true_and]
              rw [Array.all_eq_true_iff_forall_mem] at h1 ⊢
              intro e he
              have := h1.2 e he
              cases hb : Region.binds .any e with
              | false => rfl
              | true =>
                rw [hb] at this
                simp only [Bool.not_true, Bool.false_or, Bool.and_eq_true, decide_eq_true_eq, Bool.or_eq_true] at this
                have hlt : e.on < listed.size := by rw [hs]; omega
                have hh : listed.getD e.on true = true := by
                  rcases this.2 with h | h
                  · exact ihi e.on this.1 (by omega) (by simpa using h)
                  · by_cases hr' : e.on ∈ rem.map (·.1)
                    · exact ihi e.on this.1 (by omega) hr'
                    · rw [hout e.on (by omega) hr']; exact h
                simp only [Array.getD, hlt, dif_pos] at hh ⊢
                simpa using hh
            rw [hnil] at hready
            cases hready
      obtain ⟨p, hp, hpl⟩ := hsome
      have := key p.1 (hmem p.1 (List.mem_map.2 ⟨p, hp, rfl⟩)).2 (List.mem_map.2 ⟨p, hp, rfl⟩)
      rw [this] at hpl
      cases hpl
    · intro i hi
      have hir := hno i hi
      obtain ⟨hi1, hi2⟩ := List.mem_filter.1 hi
      have hilt := List.mem_range.1 hi1
      simp only [Bool.and_eq_true] at hi2
      have hil : listed.getD i true = false := by simpa using hi2.1
      obtain ⟨p, hp, rfl⟩ := List.mem_map.1 hir
      refine step p hp u w hRw ?_ _ ?_
      · intro j hj
        rw [depsOf, Array.getElem?_eq_getElem hilt] at hj
        obtain ⟨e, he, rfl⟩ := List.mem_map.1 hj
        obtain ⟨he1, he2⟩ := List.mem_filter.1 he
        simp only [Bool.and_eq_true] at he2
        have hjr : e.on ∈ rem.map (·.1) := by simpa using he2.2
        obtain ⟨q, hq, hqe⟩ := List.mem_map.1 hjr
        rw [← hqe]
        refine hV q hq ?_
        have h3 := hi2.2
        rw [Array.getElem?_eq_getElem hilt] at h3
        simp only [Option.map_some, Option.getD_some, Array.all_eq_true_iff_forall_mem] at h3
        have := h3 e (by simpa using he1)
        rw [he2.1] at this
        simp only [Bool.not_true, Bool.false_or] at this
        rw [hqe]
        have hlt : e.on < listed.size := by rw [hs, ← hqe]; exact (hmem q.1 (List.mem_map.2 ⟨q, hq, rfl⟩)).2
        simp only [Array.getD, hlt, dif_pos] at this ⊢
        simpa using this
      · intro v w' hv hR' hst
        have hpp : (p.1, p.2) ∈ rem := hp
        rw [putAll_upd a0 p.1 p.2 u v rem hn hdn hpp]
        have hset : ∀ j, (listed.setIfInBounds p.1 true).getD j true = if j = p.1 then true else listed.getD j true := by
          intro j
          simp only [Array.getD_eq_getD_getElem?, Array.getElem?_setIfInBounds]
          by_cases hj : p.1 = j
          · subst hj
            simp
            split <;> simp
          · rw [if_neg hj, if_neg (Ne.symm hj)]
        refine ih _ _ _ (by simpa using hs) hR' ?_ ?_ ?_
        · intro j hj hjr
          have hjp : ¬ j = p.1 := fun e => hjr (by rw [e]; exact List.mem_map.2 ⟨p, hp, rfl⟩)
          rw [hset, if_neg hjp]
          exact hout j hj hjr
        · intro q hq hql
          rw [hset] at hql
          by_cases he : q.1 = p.1
          · rw [he]
            simpa [upd] using hv
          · rw [if_neg he] at hql
            simp only [upd, if_neg he]
            exact stab _ _ _ _ (hV q hq hql) hst
        · have hlt : openOf (listed.setIfInBounds p.1 true) rem + 1 = openOf listed rem := by
            unfold openOf
            have h1 : ∀ (qs : List (Nat × Option Tmp)), (qs.map (·.1)).Nodup → p ∈ qs → (qs.filter fun q => !(listed.setIfInBounds p.1 true).getD q.1 true).length + 1 = (qs.filter fun q => !listed.getD q.1 true).length := by
              intro qs hqn hpq
              have heq : ∀ (rs : List (Nat × Option Tmp)), p.1 ∉ rs.map (·.1) → (rs.filter fun q => !(listed.setIfInBounds p.1 true).getD q.1 true) = (rs.filter fun q => !listed.getD q.1 true) := by
                intro rs hrs
                refine List.filter_congr fun q hq => ?_
                have hne : q.1 ≠ p.1 := fun e => hrs (e ▸ List.mem_map.2 ⟨q, hq, rfl⟩)
                rw [hset, if_neg hne]
              induction qs with
              | nil => cases hpq
              | cons r rs ihr =>
                rcases List.mem_cons.1 hpq with rfl | hpq'
                · have := heq rs (List.nodup_cons.1 hqn).1
                  rw [List.filter_cons, List.filter_cons, this, hset, if_pos rfl, hil]
                  simp
                · have ih2 := ihr (List.nodup_cons.1 hqn).2 hpq'
                  have hne : r.1 ≠ p.1 := by
                    intro e
                    exact (List.nodup_cons.1 hqn).1 (List.mem_map.2 ⟨p, hpq', e.symm⟩)
                  rw [List.filter_cons, List.filter_cons, hset, if_neg hne]
                  split <;> (try simp only [List.length_cons]) <;> omega
            exact h1 rem hn hp
          omega
end

section
variable {P : Program} {ops : Array Oper} {Q : Exit → Act → World → Prop}
/-- operations that only read, of which it is known what each yields -/
theorem wpAny_reads (rem : List (Nat × Option Tmp)) (f : Nat → Value) {listed0 : Array Bool} (listed1 : Array Bool) (hok : coreOk ops listed0 listed1 rem = true) {a0 : Act} {w : World} {n : Nat}
    (step : ∀ p ∈ rem, ∀ u : Nat → Value, (∀ j ∈ depsOf ops rem p.1, u j = f j) → ∀ K : Act → World → Prop, K ((putAll a0 rem u).put p.2 (f p.1)) w → wpOp P ops Q p.1 K (putAll a0 rem u) w)
    (done : wpAny P .any ops Q n listed1 (putAll a0 rem f) w) : wpAny P .any ops Q (rem.length + n) listed0 a0 w := by
  refine wpAny_core rem (fun w' => w' = w) (fun i v _ => v = f i) (fun _ _ => True) listed1 hok (fun _ _ _ _ h _ => h) ?_ n ?_ rfl
  · rintro p hp u w' rfl hD K hK
    exact step p hp u hD K (hK _ _ rfl rfl trivial)
  · rintro u w' rfl hV
    have : ∀ qs : List (Nat × Option Tmp), (∀ p ∈ qs, u p.1 = f p.1) → putAll a0 qs u = putAll a0 qs f := by
      intro qs
      induction qs with
      | nil => intro _; rfl
      | cons q qs ih =>
        intro h
        simp only [putAll, ih (fun p hp => h p (List.mem_cons_of_mem _ hp)), h q List.mem_cons_self]
    rw [this rem hV]
    exact done
end
section
variable {P : Program} {ops : Array Oper} {o : Oper} {a : Act} {w w' : World} {K : Act → World → Prop} {Q : Exit → Act → World → Prop} {E : Prop}
end
end Go.Proofs.YtleckhbmciiooaaDoor
namespace Go.Proofs.YtleckhbmciiooaaDoor
open Go.RowKit

/-- what the operations yield: those whose value is known ahead (f), and the others (g) -/
def VF (f : Nat → Option Value) (g : Nat → Value → World → Prop) (i : Nat) (v : Value) (w : World) : Prop := match f i with
  | some c => v = c
  | none => g i v w
theorem VF.stab {f : Nat → Option Value} {g : Nat → Value → World → Prop} {Stab : World → World → Prop} (h : ∀ j v w w', f j = none → g j v w → Stab w w' → g j v w') (j : Nat) (v : Value) (w w' : World) (hv : VF f g j v w) (hs : Stab w w') : VF f g j v w' := by
  unfold VF at *
  cases hf : f j with
  | some c => rw [hf] at hv; exact hv
  | none => rw [hf] at hv; exact h j v w w' hf hv hs
theorem VF.k {f : Nat → Option Value} {g : Nat → Value → World → Prop} {i : Nat} {v c : Value} {w : World} (h : VF f g i v w) (hf : f i = some c) : v = c := by unfold VF at h; rw [hf] at h; exact h
theorem VF.g {f : Nat → Option Value} {g : Nat → Value → World → Prop} {i : Nat} {v : Value} {w : World} (h : VF f g i v w) (hf : f i = none) : g i v w := by unfold VF at h; rw [hf] at h; exact h
theorem VF.mk {f : Nat → Option Value} {g : Nat → Value → World → Prop} {i : Nat} {c : Value} {w : World} (hf : f i = some c) : VF f g i c w := by unfold VF; rw [hf]
theorem VF.mg {f : Nat → Option Value} {g : Nat → Value → World → Prop} {i : Nat} {v : Value} {w : World} (hf : f i = none) (h : g i v w) : VF f g i v w := by unfold VF; rw [hf]; exact h
/-- what an operation is, but for its place and its edges -/
def opAt (ops : Array Oper) (i : Nat) : Option (Option (Nat × Bool) × Op × TypeId × Option Tmp) := (ops[i]?).map fun o => (o.guard, o.op, o.type, o.dst)
def exec2 (ρ : Operand → Value) (op : Op) (t : TypeId) : Sem Next := execOp ρ { dst := none, op := op, type := t, pos := "", after := #[], guard := none }
theorem exec2_eq (ρ : Operand → Value) (o : Oper) : execOp ρ o = exec2 ρ o.op o.type := rfl
section
variable {P : Program} {ops : Array Oper} {i : Nat} {op : Op} {t : TypeId} {d : Option Tmp} {a : Act} {w w' : World} {K : Act → World → Prop} {Q : Exit → Act → World → Prop}
theorem op_any (hi : opAt ops i = some (none, op, t, d)) (h : ∀ o : Oper, o.op = op → o.type = t → o.dst = d → o.upon P a K Q ((exec2 a.eval op t).run P w)) : wpOp P ops Q i K a w := by
  unfold opAt at hi
  obtain ⟨o, ho, he⟩ := Option.map_eq_some_iff.1 hi
  simp only [Prod.mk.injEq] at he
  obtain ⟨h1, h2, h3, h4⟩ := he
  unfold wpOp
  simp only [ho]
  rw [if_pos (by simp [Region.wanted, h1])]
  refine .inl ?_
  rw [Oper.wp, exec2_eq, h2, h3]
  exact h o h2 h3 h4
theorem op_run (hi : opAt ops i = some (none, op, t, d)) (v : Value) (hrun : (exec2 a.eval op t).run P w = .ok (.value v) w') (hK : K (a.put d v) w') : wpOp P ops Q i K a w :=
  op_any hi fun o _ _ hd => by rw [hrun, Oper.upon_value, hd]; exact hK
theorem op_skip (hi : opAt ops i = some (none, op, t, d)) (hrun : (exec2 a.eval op t).run P w = .ok .skip w') (hK : K (a.put d undef) w') : wpOp P ops Q i K a w :=
  op_any hi fun o _ _ hd => by rw [hrun, Oper.upon_skip, hd]; exact hK
theorem op_ld {T : TypeId} {x : Operand} (hi : opAt ops i = some (none, .load T x, t, d)) (p : Value) (hx : a.eval x = p) (v : Value) (hrun : (Instr.loadAt T p).run P w = .ok v w) (hK : K (a.put d v) w) : wpOp P ops Q i K a w :=
  op_run hi v (by simp [exec2, execOp, hx, hrun]) hK
theorem op_ix {T : TypeId} {x y : Operand} (hi : opAt ops i = some (none, .indexAddr T x y, t, d)) (p q : Value) (hx : a.eval x = p) (hy : a.eval y = q) (v : Value) (hrun : (Instr.indexAt T p q).run P w = .ok v w) (hK : K (a.put d v) w) : wpOp P ops Q i K a w :=
  op_run hi v (by simp [exec2, execOp, hx, hy, hrun]) hK
theorem op_bs1 {T : TypeId} {x : Operand} (hi : opAt ops i = some (none, .buildSlice T 1 #[(0, x)], t, d)) (p : Value) (hx : a.eval x = p) (v : Value) (hrun : (Instr.buildSlice T 1 #[(0, p)]).run P w = .ok v w') (hK : K (a.put d v) w') : wpOp P ops Q i K a w :=
  op_run hi v (by simp [exec2, execOp, hx, hrun]) hK
theorem op_st {T : TypeId} {x y : Operand} (hi : opAt ops i = some (none, .store T x y, t, d)) (p v : Value) (hx : a.eval x = p) (hy : a.eval y = v) (hrun : (Instr.storeAt T p v).run P w = .ok () w') (hK : K (a.put d undef) w') : wpOp P ops Q i K a w :=
  op_skip hi (by simp [exec2, execOp, hx, hy, hrun]) hK
/-- append(s, x...) -/
theorem op_app {s x : Operand} {t1 t2 : TypeId} (hi : opAt ops i = some (none, .call { callee := .builtin .append, args := #[s, x], argTypes := #[t1, t2] }, t, d)) (p q : Value) (hs : a.eval s = p) (hx : a.eval x = q) (v : Value) (hrun : (Builtin.append_ #[t1, t2] t #[p, q]).run P w = .ok v w') (hK : K (a.put d v) w') : wpOp P ops Q i K a w :=
  op_run hi v (by simp [exec2, execOp, resolve, invoke, builtin, Sem.run_bind, Sem.run_pure, Result.andThen_ok, hs, hx, hrun]) hK
/-- a call of a Go function, of so many arguments: what they are, args says -/
theorem op_call {f : Nat} {xs : Array Operand} {ts : Array TypeId} (hi : opAt ops i = some (none, .call { callee := .value (.func f), args := xs, argTypes := ts }, t, d)) (args : Array Value) (hf : (callFunc f args).run P w = .ok (.enter f args) w) (hargs : xs.map a.eval = args) (R : Ending → World → Prop) (hc : Calls P f args w R) (hK : ∀ e w', R e w' → ∃ v, e = .returned v ∧ K (a.put d v) w') : wpOp P ops Q i K a w :=
  op_any hi fun o _ _ hd => by
    have e1 : (exec2 a.eval (.call { callee := .value (.func f), args := xs, argTypes := ts }) t).run P w = .ok (.enter f args) w := by
      simp [exec2, execOp, resolve, invoke, Sem.run_bind, Sem.run_pure, Result.andThen_ok, hargs, Deferred.ofValue, Act.eval, hf]
    rw [e1, Oper.upon_enter]
    refine hc.mono fun e w1 he => ?_
    obtain ⟨v, rfl, hk⟩ := hK e w1 he
    rw [hd]
    exact hk
/-- take an operation first: of no guard; whose guard lets it; whose guard shuts it out -/
theorem wpAny_T {md : Region.Mode} {listed : Array Bool} {n : Nat} {v : Value} (hi : opAt ops i = some (none, op, t, d)) (hs : Region.noSelect ops = true) (hf : Region.free md ops listed i = true) (hr : (Region.ready md ops listed).contains i = true)
    (hQ : ∀ c a w, Q (.panic c) (a.put d v) w → Q (.panic c) a w) (hy : ∀ u, (exec2 a.eval op t).run P u = .ok (.value v) u) (h : wpAny P md ops Q n (listed.setIfInBounds i true) (a.put d v) w) : wpAny P md ops Q (n + 1) listed a w := by
  unfold opAt at hi
  obtain ⟨o, ho, he⟩ := Option.map_eq_some_iff.1 hi
  simp only [Prod.mk.injEq] at he
  obtain ⟨h1, rfl, rfl, rfl⟩ := he
  exact wpAny_take ho hs hf hr hQ (.inl ⟨by simp [Region.wanted, h1], hy⟩) h
theorem wpAny_S {md : Region.Mode} {listed : Array Bool} {n : Nat} {g : Nat × Bool} {b : Bool} (hi : opAt ops i = some (some g, op, t, d)) (hs : Region.noSelect ops = true) (hf : Region.free md ops listed i = true) (hr : (Region.ready md ops listed).contains i = true)
    (hQ : ∀ c a w, Q (.panic c) (a.put d undef) w → Q (.panic c) a w) (hg : yielded ops a.tmps g.1 = some b) (hb : (b != g.2) = true) (h : wpAny P md ops Q n (listed.setIfInBounds i true) (a.put d undef) w) : wpAny P md ops Q (n + 1) listed a w := by
  unfold opAt at hi
  obtain ⟨o, ho, he⟩ := Option.map_eq_some_iff.1 hi
  simp only [Prod.mk.injEq] at he
  obtain ⟨h1, rfl, rfl, rfl⟩ := he
  refine wpAny_take ho hs hf hr hQ (.inr ⟨?_, rfl⟩) h
  obtain ⟨g1, g2⟩ := g
  simp only at hg hb
  cases b <;> cases g2 <;> simp_all [Region.wanted]
theorem wpAny_next {md : Region.Mode} {listed : Array Bool} {n : Nat} (i : Nat) (h1 : Region.ready md ops listed = [i]) (h : wpOp P ops Q i (wpAny P md ops Q n (listed.setIfInBounds i true)) a w) : wpAny P md ops Q (n + 1) listed a w :=
  ⟨fun h0 => absurd (h1.symm.trans h0) (by simp), fun j hj => by
    rw [h1] at hj
    obtain rfl : j = i := by simpa using hj
    exact h⟩
end
theorem RdI.drop {w : World} {A : Option Addr} {xs : List Int} {c lo : Nat} (h : RdI w A xs) (h1 : lo ≤ xs.length) (h2 : xs.length ≤ c) : RdI w (if c = lo then A else A.map (·.add (lo * 1))) (xs.drop lo) := by
  by_cases hc : c = lo
  · left
    exact List.drop_of_length_le (by omega)
  · rw [if_neg hc]
    rcases h with rfl | ⟨b, off, rfl, hb, hcc⟩
    · left; simp
    · refine .inr ⟨b, off + lo, by simp [Addr.add], hb, fun j x hj => ?_⟩
      rw [List.getElem?_drop] at hj
      have := hcc (lo + j) x hj
      rwa [← Nat.add_assoc] at this
theorem Ints.drop {xs : List Int} (h : Ints xs) (n : Nat) : Ints (xs.drop n) := fun x hx => h x (List.mem_of_mem_drop hx)
end Go.Proofs.YtleckhbmciiooaaDoor
namespace Go.Proofs.YtleckhbmciiooaaDoor
open Go.RowKit

/-- number i waits for number q, through others of the list -/
def reachN (ops : Array Oper) (rs : List Nat) : Nat → Nat → Nat → Bool
  | 0, _, _ => false
  | f + 1, i, q => match ops[i]? with
    | none => false
    | some o => o.after.toList.any (fun e => Region.binds .any e && (e.on == q || (rs.contains e.on && reachN ops rs f e.on q)))
section
variable {P : Program} {ops : Array Oper} {Q : Exit → Act → World → Prop}
theorem reach_listed {listed : Array Bool} {rs : List Nat} (hcl : ∀ p ∈ rs, listed.getD p true = true → ∀ o, ops[p]? = some o → ∀ e ∈ o.after.toList, Region.binds .any e = true → listed.getD e.on true = true) :
    ∀ (f i : Nat), (∀ o, ops[i]? = some o → ∀ e ∈ o.after.toList, Region.binds .any e = true → listed.getD e.on true = true) → ∀ q, reachN ops rs f i q = true → listed.getD q true = true := by
  intro f
  induction f with
  | zero => intro i _ q h; cases h
  | succ f ih =>
    intro i hi q h
    unfold reachN at h
    cases ho : ops[i]? with
    | none => rw [ho] at h; cases h
    | some o =>
      rw [ho] at h
      obtain ⟨e, he, h⟩ := List.any_eq_true.1 h
      simp only [Bool.and_eq_true, Bool.or_eq_true, beq_iff_eq] at h
      obtain ⟨hb, h⟩ := h
      have h1 := hi o ho e he hb
      rcases h with rfl | ⟨h2, h3⟩
      · exact h1
      · exact ih e.on (hcl e.on (by simpa using h2) h1) q h3
theorem ready_deps {listed : Array Bool} {i : Nat} (h : ((ops[i]?.map fun o => o.after.all fun e => !Region.binds .any e || listed.getD e.on false).getD false) = true) :
    ∀ o, ops[i]? = some o → ∀ e ∈ o.after.toList, Region.binds .any e = true → listed.getD e.on true = true := by
  intro o ho e he hb
  rw [ho] at h
  simp only [Option.map_some, Option.getD_some, Array.all_eq_true_iff_forall_mem] at h
  have := h e (by simpa using he)
  rw [hb] at this
  simp only [Bool.not_true, Bool.false_or] at this
  by_cases hlt : e.on < listed.size
  · simp only [Array.getD, hlt, dif_pos] at this ⊢
    simpa using this
  · simp [Array.getD, hlt]
/-- the same for a part of the operations; 'listed1': what is listed behind them -/
def coreOk2 (ops : Array Oper) (listed listed1 : Array Bool) (rem : List (Nat × Option Tmp)) : Bool :=
  decide ((rem.map (·.1)).Nodup) && decide ((rem.filterMap (·.2)).Nodup) && decide (listed.size = ops.size) && decide (listed1.size = ops.size) &&
  rem.all (fun p => match ops[p.1]? with
    | none => false
    | some o => (o.dst == p.2) && o.after.all (fun e => !Region.binds .any e || (decide (e.on < p.1) && ((rem.map (·.1)).contains e.on || listed.getD e.on true)))) &&
  (List.range ops.size).all (fun i => if (rem.map (·.1)).contains i then !listed.getD i true && listed1.getD i true
    else (listed1.getD i true == listed.getD i true) && (listed.getD i true || rem.all (fun p => reachN ops (rem.map (·.1)) (rem.length + 1) i p.1) || (match ops[i]? with
      | none => false
      | some o => o.after.any (fun e => Region.binds .any e && decide (e.on < ops.size) && !listed.getD e.on true && !(rem.map (·.1)).contains e.on))))
/-- .. of some of the operations alone: all that are left want all of them ahead -/
theorem wpAny_core2 (rem : List (Nat × Option Tmp)) (R : World → Prop) (V : Nat → Value → World → Prop) (Stab : World → World → Prop) {listed0 : Array Bool} (listed1 : Array Bool) (hok : coreOk2 ops listed0 listed1 rem = true)
    (stab : ∀ j v w w', V j v w → Stab w w' → V j v w')
    {a0 : Act}
    (step : ∀ p ∈ rem, ∀ u w, R w → (∀ j ∈ depsOf ops rem p.1, V j (u j) w) → ∀ K : Act → World → Prop, (∀ v w', V p.1 v w' → R w' → Stab w w' → K ((putAll a0 rem u).put p.2 v) w') → wpOp P ops Q p.1 K (putAll a0 rem u) w)
    (n : Nat) (done : ∀ u w, R w → (∀ p ∈ rem, V p.1 (u p.1) w) → wpAny P .any ops Q n listed1 (putAll a0 rem u) w) {w0 : World} (hR : R w0) :
    wpAny P .any ops Q (rem.length + n) listed0 a0 w0 := by
  simp only [coreOk2, Bool.and_eq_true, decide_eq_true_eq] at hok
  obtain ⟨⟨⟨⟨⟨hn, hdn⟩, hsz⟩, hsz1⟩, hall⟩, hcomp⟩ := hok
  have hall := List.all_eq_true.1 hall
  have hcomp := List.all_eq_true.1 hcomp
  have hmem : ∀ i ∈ rem.map (·.1), listed0.getD i true = false ∧ i < ops.size := by
    intro i hi
    obtain ⟨p, hp, rfl⟩ := List.mem_map.1 hi
    have h1 := hall p hp
    have hlt : p.1 < ops.size := by
      rcases Nat.lt_or_ge p.1 ops.size with h | h
      · exact h
      · rw [Array.getElem?_eq_none h] at h1; simp at h1
    have := hcomp p.1 (List.mem_range.2 hlt)
    have hc : (rem.map (·.1)).contains p.1 = true := by simpa using hi
    rw [hc] at this
    simp only [if_true, Bool.and_eq_true, Bool.not_eq_true'] at this
    exact ⟨this.1, hlt⟩
  have hone : ∀ i ∈ rem.map (·.1), listed1.getD i true = true := by
    intro i hi
    have := hcomp i (List.mem_range.2 (hmem i hi).2)
    have hc : (rem.map (·.1)).contains i = true := by simpa using hi
    rw [hc] at this
    simp only [if_true, Bool.and_eq_true] at this
    exact this.2
  have hrest : ∀ i, i < ops.size → i ∉ rem.map (·.1) → listed1.getD i true = listed0.getD i true ∧ ((listed0.getD i true = true ∨ ∀ p ∈ rem, reachN ops (rem.map (·.1)) (rem.length + 1) i p.1 = true) ∨ ∃ o, ops[i]? = some o ∧ ∃ e ∈ o.after.toList, Region.binds .any e = true ∧ e.on < ops.size ∧ listed0.getD e.on true = false ∧ e.on ∉ rem.map (·.1)) := by
    intro i hi hni
    have := hcomp i (List.mem_range.2 hi)
    have hc : (rem.map (·.1)).contains i = false := by
      cases h : (rem.map (·.1)).contains i with
      | false => rfl
      | true => exact absurd (by simpa using h) hni
    rw [hc] at this
    simp only [Bool.false_eq_true, if_false, Bool.and_eq_true, beq_iff_eq, Bool.or_eq_true] at this
    refine ⟨this.1, ?_⟩
    rcases this.2 with (h | h) | h
    · exact .inl (.inl h)
    · exact .inl (.inr fun p hp => List.all_eq_true.1 h p hp)
    · right
      rw [Array.getElem?_eq_getElem hi] at h
      refine ⟨ops[i], Array.getElem?_eq_getElem hi, ?_⟩
      simp only [Array.any_toList.symm, List.any_eq_true, Bool.and_eq_true, decide_eq_true_eq, Bool.not_eq_true'] at h
      obtain ⟨e, he, ⟨⟨h1, h2⟩, h3⟩, h4⟩ := h
      exact ⟨e, he, h1, h2, h3, by simpa using h4⟩
  -- the invariant
  suffices H : ∀ k (listed : Array Bool) (u : Nat → Value) (w : World), listed.size = ops.size → R w → (∀ i, i < ops.size → i ∉ rem.map (·.1) → listed.getD i true = listed0.getD i true) →
      (∀ p ∈ rem, listed.getD p.1 true = true → V p.1 (u p.1) w) → (∀ p ∈ rem.map (·.1), listed.getD p true = true → ∀ o, ops[p]? = some o → ∀ e ∈ o.after.toList, Region.binds .any e = true → listed.getD e.on true = true) → openOf listed rem = k → wpAny P .any ops Q (k + n) listed (putAll a0 rem u) w by
    obtain ⟨u, hu⟩ := putAll_self a0 rem hn
    have hopen : openOf listed0 rem = rem.length := by
      unfold openOf
      rw [List.filter_eq_self.2]
      intro p hp
      simp [(hmem p.1 (List.mem_map.2 ⟨p, hp, rfl⟩)).1]
    have h := H rem.length listed0 u w0 hsz hR (fun i hi hni => rfl) (fun p hp hl => by
      have := (hmem p.1 (List.mem_map.2 ⟨p, hp, rfl⟩)).1
      rw [this] at hl
      cases hl) (fun p hp hl => by
      rw [(hmem p hp).1] at hl
      cases hl) hopen
    rwa [hu] at h
  intro k
  induction k with
  | zero =>
    intro listed u w hs hRw hout hV hcl hopen
    have hall' : ∀ p ∈ rem, listed.getD p.1 true = true := by
      intro p hp
      simp only [openOf, List.length_eq_zero_iff, List.filter_eq_nil_iff, Bool.not_eq_true', Bool.not_eq_false] at hopen
      exact hopen p hp
    have hl : listed = listed1 := by
      apply Array.ext
      · rw [hs, hsz1]
      · intro i h1 h2
        have : listed.getD i true = listed1.getD i true := by
          by_cases hr : i ∈ rem.map (·.1)
          · rw [hone i hr]
            obtain ⟨p, hp, rfl⟩ := List.mem_map.1 hr
            exact hall' p hp
          · rw [hout i (by omega) hr, (hrest i (by omega) hr).1]
        simpa [Array.getD, h1, h2] using this
    rw [hl, Nat.zero_add]
    exact done u w hRw (fun p hp => hV p hp (hall' p hp))
  | succ k ih =>
    intro listed u w hs hRw hout hV hcl hopen
    rw [Nat.add_right_comm]
    -- one of the list is not yet listed: none of the others is ready
    have hsome : ∃ p ∈ rem, listed.getD p.1 true = false := by
      have : (rem.filter fun p => !listed.getD p.1 true) ≠ [] := by
        intro h
        simp only [openOf, h, List.length_nil] at hopen
        omega
      obtain ⟨p, hp⟩ := List.exists_mem_of_ne_nil _ this
      obtain ⟨h1, h2⟩ := List.mem_filter.1 hp
      exact ⟨p, h1, by simpa using h2⟩
    have hno : ∀ i, i ∈ Region.ready .any ops listed → i ∈ rem.map (·.1) := by
      intro i hi
      obtain ⟨hi1, hi2⟩ := List.mem_filter.1 hi
      have hilt := List.mem_range.1 hi1
      simp only [Bool.and_eq_true] at hi2
      have hil : listed.getD i true = false := by simpa using hi2.1
      by_cases hr : i ∈ rem.map (·.1)
      · exact hr
      · exfalso
        obtain ⟨h1, h2⟩ := hrest i hilt hr
        rw [hout i hilt hr] at hil
        rcases h2 with (h2 | h2) | h2
        · rw [h2] at hil; cases hil
        rotate_left
        · obtain ⟨o, ho, e, he, hb, hsz2, hl0, hnr⟩ := h2
          have h3 := hi2.2
          rw [ho] at h3
          simp only [Option.map_some, Option.getD_some, Array.all_eq_true_iff_forall_mem] at h3
          have := h3 e (by simpa using he)
          rw [hb] at this
          simp only [Bool.not_true, Bool.false_or] at this
          have hlt : e.on < listed.size := by rw [hs]; exact hsz2
          have e1 : listed.getD e.on false = listed.getD e.on true := by simp only [Array.getD, hlt, dif_pos]
          rw [e1, hout e.on hsz2 hnr, hl0] at this
          cases this
        · obtain ⟨p, hp, hpl⟩ := hsome
          have := reach_listed hcl _ i (ready_deps hi2.2) p.1 (h2 p hp)
          rw [hpl] at this
          cases this
    constructor
    · intro hnil
      -- the least one that is not listed is ready
      exfalso
      have key : ∀ i, i < ops.size → i ∈ rem.map (·.1) → listed.getD i true = true := by
        intro i
        induction i using Nat.strongRecOn with
        | _ i ihi =>
          intro hi hr
          obtain ⟨p, hp, rfl⟩ := List.mem_map.1 hr
          have h1 := hall p hp
          cases hl : listed.getD p.1 true with
          | true => rfl
          | false =>
            exfalso
            have hready : p.1 ∈ Region.ready .any ops listed := by
              refine List.mem_filter.2 ⟨List.mem_range.2 hi, ?_⟩
              rw [Array.getElem?_eq_getElem hi] at h1 ⊢
              simp only [Bool.and_eq_true, beq_iff_eq] at h1
              simp only [hl, Bool.not_false, Option.map_some, Option.getD_some, Bool.true_and]
              rw [Array.all_eq_true_iff_forall_mem] at h1 ⊢
              intro e he
              have := h1.2 e he
              cases hb : Region.binds .any e with
              | false => rfl
              | true =>
                rw [hb] at this
                simp only [Bool.not_true, Bool.false_or, Bool.and_eq_true, decide_eq_true_eq, Bool.or_eq_true] at this
                have hlt : e.on < listed.size := by rw [hs]; omega
                have hh : listed.getD e.on true = true := by
                  rcases this.2 with h | h
                  · exact ihi e.on this.1 (by omega) (by simpa using h)
                  · by_cases hr' : e.on ∈ rem.map (·.1)
                    · exact ihi e.on this.1 (by omega) hr'
                    · rw [hout e.on (by omega) hr']; exact h
                simp only [Array.getD, hlt, dif_pos] at hh ⊢
                simpa using hh
            rw [hnil] at hready
            cases hready
      obtain ⟨p, hp, hpl⟩ := hsome
      have := key p.1 (hmem p.1 (List.mem_map.2 ⟨p, hp, rfl⟩)).2 (List.mem_map.2 ⟨p, hp, rfl⟩)
      rw [this] at hpl
      cases hpl
    · intro i hi
      have hir := hno i hi
      obtain ⟨hi1, hi2⟩ := List.mem_filter.1 hi
      have hilt := List.mem_range.1 hi1
      simp only [Bool.and_eq_true] at hi2
      have hil : listed.getD i true = false := by simpa using hi2.1
      obtain ⟨p, hp, rfl⟩ := List.mem_map.1 hir
      refine step p hp u w hRw ?_ _ ?_
      · intro j hj
        rw [depsOf, Array.getElem?_eq_getElem hilt] at hj
        obtain ⟨e, he, rfl⟩ := List.mem_map.1 hj
        obtain ⟨he1, he2⟩ := List.mem_filter.1 he
        simp only [Bool.and_eq_true] at he2
        have hjr : e.on ∈ rem.map (·.1) := by simpa using he2.2
        obtain ⟨q, hq, hqe⟩ := List.mem_map.1 hjr
        rw [← hqe]
        refine hV q hq ?_
        have h3 := hi2.2
        rw [Array.getElem?_eq_getElem hilt] at h3
        simp only [Option.map_some, Option.getD_some, Array.all_eq_true_iff_forall_mem] at h3
        have := h3 e (by simpa using he1)
        rw [he2.1] at this
        simp only [Bool.not_true, Bool.false_or] at this
        rw [hqe]
        have hlt : e.on < listed.size := by rw [hs, ← hqe]; exact (hmem q.1 (List.mem_map.2 ⟨q, hq, rfl⟩)).2
        simp only [Array.getD, hlt, dif_pos] at this ⊢
        simpa using this
      · intro v w' hv hR' hst
        have hpp : (p.1, p.2) ∈ rem := hp
        rw [putAll_upd a0 p.1 p.2 u v rem hn hdn hpp]
        have hset : ∀ j, (listed.setIfInBounds p.1 true).getD j true = if j = p.1 then true else listed.getD j true := by
          intro j
          simp only [Array.getD_eq_getD_getElem?, Array.getElem?_setIfInBounds]
          by_cases hj : p.1 = j
          · subst hj
            simp
            split <;> simp
          · rw [if_neg hj, if_neg (Ne.symm hj)]
        refine ih _ _ _ (by simpa using hs) hR' ?_ ?_ ?_ ?_
        · intro j hj hjr
          have hjp : ¬ j = p.1 := fun e => hjr (by rw [e]; exact List.mem_map.2 ⟨p, hp, rfl⟩)
          rw [hset, if_neg hjp]
          exact hout j hj hjr
        · intro q hq hql
          rw [hset] at hql
          by_cases he : q.1 = p.1
          · rw [he]
            simpa [upd] using hv
          · rw [if_neg he] at hql
            simp only [upd, if_neg he]
            exact stab _ _ _ _ (hV q hq hql) hst
        · intro q hq hql o ho e he hb
          rw [hset]
          split
          · rfl
          · rw [hset] at hql
            by_cases hqp : q = p.1
            · subst hqp
              exact ready_deps hi2.2 o ho e he hb
            · rw [if_neg hqp] at hql
              exact hcl q hq hql o ho e he hb
        · have hlt : openOf (listed.setIfInBounds p.1 true) rem + 1 = openOf listed rem := by
            unfold openOf
            have h1 : ∀ (qs : List (Nat × Option Tmp)), (qs.map (·.1)).Nodup → p ∈ qs → (qs.filter fun q => !(listed.setIfInBounds p.1 true).getD q.1 true).length + 1 = (qs.filter fun q => !listed.getD q.1 true).length := by
              intro qs hqn hpq
              have heq : ∀ (rs : List (Nat × Option Tmp)), p.1 ∉ rs.map (·.1) → (rs.filter fun q => !(listed.setIfInBounds p.1 true).getD q.1 true) = (rs.filter fun q => !listed.getD q.1 true) := by
                intro rs hrs
                refine List.filter_congr fun q hq => ?_
                have hne : q.1 ≠ p.1 := fun e => hrs (e ▸ List.mem_map.2 ⟨q, hq, rfl⟩)
                rw [hset, if_neg hne]
              induction qs with
              | nil => cases hpq
              | cons r rs ihr =>
                rcases List.mem_cons.1 hpq with rfl | hpq'
                · have := heq rs (List.nodup_cons.1 hqn).1
                  rw [List.filter_cons, List.filter_cons, this, hset, if_pos rfl, hil]
                  simp
                · have ih2 := ihr (List.nodup_cons.1 hqn).2 hpq'
                  have hne : r.1 ≠ p.1 := by
                    intro e
                    exact (List.nodup_cons.1 hqn).1 (List.mem_map.2 ⟨p, hpq', e.symm⟩)
                  rw [List.filter_cons, List.filter_cons, hset, if_neg hne]
                  split <;> (try simp only [List.length_cons]) <;> omega
            exact h1 rem hn hp
          omega
end
end Go.Proofs.YtleckhbmciiooaaDoor
namespace Go.Proofs.YtleckhbmciiooaaDoor
open Go

def andNotN (a b : Nat) : Nat := (BitVec.ofNat 64 a &&& ~~~ BitVec.ofNat 64 b).toNat
theorem andNotN_lt (a b : Nat) : andNotN a b < 18446744073709551616 := (BitVec.ofNat 64 a &&& ~~~ BitVec.ofNat 64 b).isLt
theorem bits_andNot_u64 (a b : Nat) (ha : a < 18446744073709551616) (hb : b < 18446744073709551616) : bits .andNot .u64 (a : Int) (b : Int) = ((andNotN a b : Nat) : Int) := by
  have h1 : BitVec.ofInt 64 (a : Int) = BitVec.ofNat 64 a := BitVec.ofInt_natCast ..
  have h2 : BitVec.ofInt 64 (b : Int) = BitVec.ofNat 64 b := BitVec.ofInt_natCast ..
  show IntKind.u64.wrap ((BitVec.ofInt 64 (a : Int) &&& ~~~ BitVec.ofInt 64 (b : Int)).toNat : Int) = _
  rw [h1, h2, IntKind.wrap_u64]
  have := andNotN_lt a b
  unfold andNotN at this ⊢
  omega
theorem andNotN_bit {a b j : Nat} (ha : a < 18446744073709551616) : (andNotN a b).testBit j = (a.testBit j && !b.testBit j) := by
  unfold andNotN
  rw [BitVec.testBit_toNat, BitVec.getLsbD_and, BitVec.getLsbD_not, BitVec.getLsbD_ofNat, BitVec.getLsbD_ofNat]
  by_cases hj : j < 64
  · simp [hj]
  · have : a.testBit j = false := Nat.testBit_lt_two_pow (Nat.lt_of_lt_of_le ha (by
      have : 2 ^ 64 ≤ 2 ^ j := Nat.pow_le_pow_right (by omega) (by omega)
      omega))
    simp [hj, this]
/-- which are in, rising -/
def memsM (m : Nat) : List Nat := (List.range 64).filter fun j => m.testBit j
theorem memsM_mem {m j : Nat} : j ∈ memsM m ↔ j < 64 ∧ m.testBit j = true := by simp [memsM]
theorem memsM_sorted (m : Nat) : (memsM m).Pairwise (· < ·) := List.Pairwise.filter _ List.pairwise_lt_range
theorem memsM_zero : memsM 0 = [] := by simp [memsM]
/-- the least one -/
theorem memsM_head {m : Nat} (h0 : m ≠ 0) (h : m < 18446744073709551616) : (memsM m).head? = some (Lib.ctz 64 m) := by
  have hc : Lib.ctz 64 m = Lib.ctzFrom 64 m := by unfold Lib.ctz; rw [if_neg h0]
  obtain ⟨q, h1, h2⟩ := Lib.ctzFrom_spec 64 m (by omega) (by omega)
  rw [hc]
  generalize Lib.ctzFrom 64 m = k at *
  have hbit : ∀ j, m.testBit j = (decide (k ≤ j) && (2 * q + 1).testBit (j - k)) := fun j => by rw [h1, Nat.testBit_two_pow_mul]
  have e : List.range 64 = List.range k ++ (k :: (List.range (64 - k - 1)).map (· + (k + 1))) := by
    have : List.range 64 = List.range (k + ((64 - k - 1) + 1)) := by congr 1; omega
    rw [this, List.range_add, List.range_succ_eq_map]
    simp only [List.map_cons, List.map_map, Nat.add_zero]
    congr 2
    apply List.map_congr_left
    intro a _
    simp [Function.comp_def]
    omega
  have e1 : (List.range k).filter (fun j => m.testBit j) = [] := by
    rw [List.filter_eq_nil_iff]
    intro j hj
    have := List.mem_range.1 hj
    rw [hbit, decide_eq_false (by omega)]
    simp
  have e2 : m.testBit k = true := by
    rw [hbit, decide_eq_true (Nat.le_refl _), Nat.sub_self, Nat.testBit_zero]
    simp
  unfold memsM
  rw [e, List.filter_append, e1, List.filter_cons, e2]
  rfl
/-- what is above one -/
theorem memsM_next {m x : Nat} {pre rest : List Nat} (h : m < 18446744073709551616) (hx : memsM m = pre ++ x :: rest) : memsM (andNotN m (2 ^ (x + 1) - 1)) = rest := by
  have hs := memsM_sorted m
  rw [hx] at hs
  have h1 := List.pairwise_append.1 hs
  have h2 := List.pairwise_cons.1 h1.2.1
  have e : memsM (andNotN m (2 ^ (x + 1) - 1)) = (memsM m).filter fun j => decide (x < j) := by
    unfold memsM
    rw [List.filter_filter]
    refine List.filter_congr fun j _ => ?_
    rw [andNotN_bit h, Nat.testBit_two_pow_sub_one]
    by_cases hj : j < x + 1
    · have : ¬ x < j := by omega
      simp [hj, this]
    · have : x < j := by omega
      simp [hj, this]
  rw [e, hx, List.filter_append, List.filter_cons, decide_eq_false (by omega), List.filter_eq_nil_iff.2 (fun j hj => by
    have := h1.2.2 j hj x (by simp)
    simp; omega), List.filter_eq_self.2 (fun j hj => by
    have := h2.1 j hj
    simpa using this)]
  rfl
/-- without one -/
def clrM (m i : Nat) : Nat := andNotN m (2 ^ i)
theorem clrM_bit {m i j : Nat} (h : m < 18446744073709551616) : (clrM m i).testBit j = (m.testBit j && decide (i ≠ j)) := by
  unfold clrM
  rw [andNotN_bit h, Nat.testBit_two_pow]
  by_cases hij : i = j <;> simp [hij]
/-- the first of a list, or -1 -/
def headI : List Nat → Int
  | [] => -1
  | x :: _ => (x : Int)
theorem shr_bit (m i : Nat) : (m / 2 ^ i) % 2 = if m.testBit i = true then 1 else 0 := by
  rw [Nat.testBit_eq_decide_div_mod_eq]
  have : m / 2 ^ i % 2 < 2 := Nat.mod_lt _ (by omega)
  by_cases h : m / 2 ^ i % 2 = 1
  · simp [h]
  · have h0 : m / 2 ^ i % 2 = 0 := by omega
    simp [h0]
end Go.Proofs.YtleckhbmciiooaaDoor
namespace Go.Proofs.YtleckhbmciiooaaDoor
open Go.RowKit Go.ChangeShapes Go.WideShapes Go.ChangeAt Go.Deep

def setV (m : Nat) : Value := .agg #[.int .u64 m, .int .u64 0]
/-- the table of the lowest bits, as it was laid -/
def Tab (w : World) : Prop := TabAt 1 Lib.deBruijn64tab w
theorem Tab.ext {w w' : World} (h : Tab w) (x : Ext w w') : Tab w' := fun j hj => by
  have h1 := h j hj
  have h2 : (⟨1, j, none⟩ : Addr).block < w.heap.size := World.block_lt_of_cell? w _ h1
  rw [x.cell h2]
  exact h1
set_option maxRecDepth 100000 in
set_option maxHeartbeats 1000000 in
theorem tz_core (x k idx : Nat) (w : World) (hx0 : ((x : Int) == 0) = false)
    (key : IntKind.u64.wrap (bits BinOp.and IntKind.u64 (x : Int) (IntKind.u64.wrap (-(x : Int))) * 285870213051353865) / 288230376151711744 = (idx : Int))
    (hi : idx < 64) (hk : k < 64) (hcell : w.cell? ⟨1, idx, none⟩ = some (.int .u8 k)) :
    Calls Tryd.prog 120 #[.int .u64 x] w fun e w' => e = .returned (.int .i64 k) ∧ Ext w w' := by
  go_enter Tryd.func120, Tryd.ntmps120
  go_wp2_with (simp only [key])
  go_ret
  exact ⟨rfl, Ext.rf _⟩
theorem tz_any (x : Nat) (hx : x < 18446744073709551616) (hx0 : x ≠ 0) (w : World) (hT : Tab w) :
    Calls Tryd.prog 120 #[.int .u64 x] w fun e w' => e = .returned (.int .i64 (Lib.ctz 64 x)) ∧ Ext w w' := by
  obtain ⟨hlow, hk⟩ := Lib.lowest_bit 64 x hx0 hx
  obtain ⟨hi, htab⟩ := Lib.deBruijn64_at _ hk
  have hcell := hT _ hi
  rw [htab] at hcell
  exact tz_core x _ _ w (by simp; omega) (tz64_key x _ hx hx0 hlow) hi hk hcell
set_option maxRecDepth 100000 in
theorem within_any (i : Int) (w : World) : Calls Tryd.prog 119 #[.int .i64 i] w fun e w' => e = .returned (.bool (decide (0 ≤ i) && decide (i < 128))) ∧ Ext w w' := by
  by_cases h0 : 0 ≤ i
  · have hb : decide (0 ≤ i) = true := decide_eq_true h0
    go_enter Tryd.func119, Tryd.ntmps119
    go_wp2
    go_ret
    exact ⟨by simp [hb], Ext.rf _⟩
  · have hb : decide (0 ≤ i) = false := decide_eq_false h0
    go_enter Tryd.func119, Tryd.ntmps119
    go_wp2
    go_ret
    exact ⟨by simp [hb], Ext.rf _⟩
set_option maxRecDepth 100000 in
theorem minus_any (a b : Nat) (ha : a < 18446744073709551616) (hb : b < 18446744073709551616) (w : World) : Calls Tryd.prog 121 #[setV a, setV b] w fun e w' => e = .returned (setV (andNotN a b)) ∧ Ext w w' := by
  have k := bits_andNot_u64 a b ha hb
  have k0 : bits .andNot .u64 0 0 = 0 := by decide +kernel
  clear ha hb
  unfold setV
  go_enter Tryd.func121, Tryd.ntmps121
  go_wp2
  refine bodyPost_ret (v := .agg #[.int .u64 (andNotN a b), .int .u64 0]) (by simp [results, Tryd.results121, go_sem]) rfl ⟨rfl, ?_⟩
  repeat (first | exact Ext.rf _ | apply Ext.alloc | (refine Ext.setNew ?_ (by simp <;> omega) _))
theorem shl_wrap (i : Nat) (hi : i < 64) : IntKind.u64.wrap ((2 : Int) ^ i) = ((2 ^ i : Nat) : Int) := by
  have h1 : 2 ^ i < 2 ^ 64 := Nat.pow_lt_pow_right (by omega) hi
  have e2 : ((2 : Int) ^ i) = ((2 ^ i : Nat) : Int) := by rw [Int.natCast_pow]; rfl
  rw [IntKind.wrap_u64, e2]
  generalize 2 ^ i = p at *
  omega
set_option maxRecDepth 100000 in
theorem first_any (m : Nat) (hm : m < 18446744073709551616) (w : World) (hT : Tab w) : Calls Tryd.prog 96 #[setV m] w fun e w' => e = .returned (.int .i64 (headI (memsM m))) ∧ Ext w w' := by
  unfold setV
  by_cases h0 : m = 0
  · subst h0
    rw [memsM_zero]
    clear hT hm
    have i0 : ∀ W, (Instr.index 94 (.agg #[.int .u64 0, .int .u64 0]) (.int .i64 0)).run Tryd.prog W = .ok (.int .u64 0) W := fun _ => by kernel_rfl
    have i1 : ∀ W, (Instr.index 94 (.agg #[.int .u64 0, .int .u64 0]) (.int .i64 1)).run Tryd.prog W = .ok (.int .u64 0) W := fun _ => by kernel_rfl
    go_enter Tryd.func96, Tryd.ntmps96
    go_wp2_with (fail)
    go_loopw [6] (fun v wr => (v = .int .i64 0 ∨ v = .int .i64 1 ∨ v = .int .i64 2) ∧ Ext w wr) (fun v _ => 2 - (intOf v).toNat)
    case atStart => exact ⟨.inl rfl, by (repeat (first | assumption | exact Ext.rf _ | apply Ext.drew | apply Ext.drewN | apply Ext.alloc))⟩
    case round =>
      obtain ⟨h3, Y⟩ := hrel
      rcases h3 with rfl | rfl | rfl
      · go_wp2_with (fail)
        go_roundw
        case rel => exact ⟨.inr (.inl rfl), Y⟩
        case measure => simp [intOf]
      · go_wp2_with (fail)
        go_roundw
        case rel => exact ⟨.inr (.inr rfl), Y⟩
        case measure => simp [intOf]
      · go_wp2_with (fail)
        go_ret
        exact ⟨rfl, Y⟩
  · have hh := memsM_head h0 hm
    have eh : headI (memsM m) = (Lib.ctz 64 m : Int) := by
      cases hl : memsM m with
      | nil => rw [hl] at hh; cases hh
      | cons a l => rw [hl] at hh; simp at hh; rw [← hh]; rfl
    rw [eh]
    have TZ := Lib.hid (fun (W : World) (x : Ext w W) => tz_any m hm h0 W (hT.ext x))
    have hk := (Lib.lowest_bit 64 m h0 hm).2
    have hne : ((m : Int) != 0) = true := by simp; omega
    have i0 : ∀ W, (Instr.index 94 (.agg #[.int .u64 m, .int .u64 0]) (.int .i64 0)).run Tryd.prog W = .ok (.int .u64 m) W := fun _ => by kernel_rfl
    have hwp : IntKind.i64.wrap (0 + (Lib.ctz 64 m : Int)) = (Lib.ctz 64 m : Int) := by rw [Int.zero_add]; exact IntWalk.i64_in _ (by omega)
    generalize Lib.ctz 64 m = z at *
    clear hh eh h0 hT
    go_enter Tryd.func96, Tryd.ntmps96
    go_wp2_with (fail)
    go_loopw [6] (fun v wr => v = .int .i64 0 ∧ Ext w wr) (fun _ _ => 0)
    case atStart => exact ⟨rfl, by (repeat (first | assumption | exact Ext.rf _ | apply Ext.drew | apply Ext.drewN | apply Ext.alloc))⟩
    case round =>
      obtain ⟨rfl, Y⟩ := hrel
      go_wp2_with (fail)
      refine (TZ.out _ Y).mono ?_
      rintro e w2 ⟨rfl, x2⟩
      go_wp2_with (fail)
      go_ret
      exact ⟨rfl, Y.tr x2⟩
theorem fullW (n : Nat) (h : n < 64) : IntKind.u64.wrap (IntKind.u64.wrap (2 ^ n) - 1) = ((2 ^ n - 1 : Nat) : Int) := by
  have h1 : 2 ^ n < 2 ^ 64 := Nat.pow_lt_pow_right (by omega) h
  have h2 : 0 < 2 ^ n := Nat.pow_pos (by omega)
  have e : ((2 : Int) ^ n) = ((2 ^ n : Nat) : Int) := by rw [Int.natCast_pow]; rfl
  rw [IntKind.wrap_u64, IntKind.wrap_u64, e]
  omega
set_option maxRecDepth 100000 in
theorem full_any (n : Nat) (hn : n < 64) (w : World) : Calls Tryd.prog 122 #[.int .i64 n] w fun e w' => e = .returned (setV (2 ^ n - 1)) ∧ Ext w w' := by
  unfold setV
  have FW := fullW n hn
  have F0 : n = 0 → 2 ^ n - 1 = 0 := fun h => by subst h; rfl
  generalize 2 ^ n - 1 = fm at *
  replace F0 := Lib.hid F0
  have B2 : Blk ((w.alloc (.cells #[.int .u64 0, .int .u64 0] 94)).alloc (.cells #[.int .u64 0, .int .u64 0] 94)) (w.heap.size + 1) 94 #[.int .u64 0, .int .u64 0] := .new (by simp)
  have B1 : Blk ((w.alloc (.cells #[.int .u64 0, .int .u64 0] 94)).alloc (.cells #[.int .u64 0, .int .u64 0] 94)) w.heap.size 94 #[.int .u64 0, .int .u64 0] := .alloc (.new rfl) _
  have X0 : Ext w ((w.alloc (.cells #[.int .u64 0, .int .u64 0] 94)).alloc (.cells #[.int .u64 0, .int .u64 0] 94)) := ((Ext.rf w).alloc _).alloc _
  go_enter Tryd.func122, Tryd.ntmps122
  go_wp2_with (fail)
  go_loopw [6] (fun v wr => ∃ k : Nat, v = .int .i64 k ∧ k ≤ 2 ∧ Hid (Ext w wr) ∧ Hid (Blk wr w.heap.size 94 #[.int .u64 0, .int .u64 0]) ∧ Hid (Blk wr (w.heap.size + 1) 94 #[.int .u64 (if k = 0 then 0 else (fm : Int)), .int .u64 0])) (fun v _ => 2 - (intOf v).toNat)
  case atStart => exact ⟨0, rfl, by omega, X0, B1, B2⟩
  case round =>
    obtain ⟨k, rfl, hk, Y, C1, C2⟩ := hrel
    have h3 : k = 0 ∨ k = 1 ∨ k = 2 := by omega
    rcases h3 with rfl | rfl | rfl
    · have c0 : wr.cell? ⟨w.heap.size + 1, 0, none⟩ = some (.int .u64 0) := C2.out.cell 0
      have f0 := C2.out.free 0
      by_cases hn0 : n = 0
      · obtain rfl : fm = 0 := F0.out hn0
        subst hn0
        go_wp2_with (fail)
        go_roundw
        case rel => exact ⟨1, rfl, by omega, Y, C1, C2⟩
        case measure => simp [intOf]
      · have hn1 : 0 < n := by omega
        have C3 := Lib.hid (C2.out.set 0 (.int .u64 (fm : Int)))
        have C4 := Lib.hid (C1.out.far (p := ⟨w.heap.size + 1, 0, none⟩) (by simp) (.int .u64 (fm : Int)))
        have Y4 := Lib.hid (Y.out.setNew (p := ⟨w.heap.size + 1, 0, none⟩) (by simp) (.int .u64 (fm : Int)))
        go_wp2_with (fail)
        go_roundw
        case rel => exact ⟨1, rfl, by omega, Y4, C4, C3⟩
        case measure => simp [intOf]
    · go_wp2_with (fail)
      go_roundw
      case rel => exact ⟨2, rfl, by omega, Y, C1, C2⟩
      case measure => simp [intOf]
    · have c0 : wr.cell? ⟨w.heap.size + 1, 0, none⟩ = some (.int .u64 (fm : Int)) := C2.out.cell 0
      have c1 : wr.cell? ⟨w.heap.size + 1, 1, none⟩ = some (.int .u64 0) := C2.out.cell 1
      have r0 : wr.cell? ⟨w.heap.size, 0, none⟩ = some (.int .u64 0) := C1.out.cell 0
      have r1 : wr.cell? ⟨w.heap.size, 1, none⟩ = some (.int .u64 0) := C1.out.cell 1
      have f0 := C1.out.free 0
      have f1 := C1.out.free 1
      go_wp2_with (fail)
      refine bodyPost_ret (v := .agg #[.int .u64 (fm : Int), .int .u64 0]) (by simp [results, Tryd.results122, go_sem, *]) rfl ⟨rfl, ?_⟩
      exact (Y.out.setNew (p := ⟨w.heap.size, 0, none⟩) (by simp) _).setNew (p := ⟨w.heap.size, 1, none⟩) (by simp) _
end Go.Proofs.YtleckhbmciiooaaDoor
namespace Go.Proofs.YtleckhbmciiooaaDoor
open Go.RowKit Go.ChangeShapes Go.WideShapes Go.ChangeAt Go.Deep Go.Shelf
attribute [local go_sem] Oper.semAt_some

set_option maxRecDepth 100000 in
set_option maxHeartbeats 1000000 in
theorem next_any (m x : Nat) (hm : m < 18446744073709551616) (hx : x < 63) (w : World) (hT : Tab w) :
    Calls Tryd.prog 97 #[setV m, .int .i64 x] w fun e w' => e = .returned (.int .i64 (headI (memsM (andNotN m (2 ^ (x + 1) - 1))))) ∧ Ext w w' := by
  have FU : Hid (∀ W : World, Calls Tryd.prog 122 #[.int .i64 ((x : Int) + 1)] W fun e w' => e = .returned (setV (2 ^ (x + 1) - 1)) ∧ Ext W w') := fun W => by
    have h := full_any (x + 1) (by omega) W
    have e : ((x + 1 : Nat) : Int) = (x : Int) + 1 := by omega
    rw [e] at h
    exact h
  have hf : 2 ^ (x + 1) - 1 < 18446744073709551616 := by
    have : 2 ^ (x + 1) < 2 ^ 64 := Nat.pow_lt_pow_right (by omega) (by omega)
    omega
  have MI := Lib.hid (fun (W : World) => minus_any m (2 ^ (x + 1) - 1) hm hf W)
  have FI := Lib.hid (fun (W : World) (y : Ext w W) => first_any (andNotN m (2 ^ (x + 1) - 1)) (andNotN_lt _ _) W (hT.ext y))
  clear hT hf hm
  generalize headI (memsM (andNotN m (2 ^ (x + 1) - 1))) = r at *
  generalize andNotN m (2 ^ (x + 1) - 1) = z at *
  generalize 2 ^ (x + 1) - 1 = f at *
  unfold setV at *
  have hq1 : (if (x : Int) < -1 then (-1 : Int) else (x : Int)) = (x : Int) := if_neg (by omega)
  have hq2 : IntKind.i64.wrap ((x : Int) + 1) = (x : Int) + 1 := IntWalk.i64_in _ (by omega)
  have B1 : Blk (w.alloc (.cells #[.int .u64 m, .int .u64 0] 94)) w.heap.size 94 #[.int .u64 m, .int .u64 0] := .new rfl
  have X0 : Ext w (w.alloc (.cells #[.int .u64 m, .int .u64 0] 94)) := (Ext.rf w).alloc _
  go_enter Tryd.func97, Tryd.ntmps97
  go_upto_region 3 with (fail)
  generalize w.alloc (.cells #[.int .u64 m, .int .u64 0] 94) = w1 at *
  refine wp_region_any (by kernel_rfl) ?_
  change wpAny _ _ _ _ _ _ _ (World.drew _)
  refine wpAny_T (i := 1) (op := Op.move (Operand.tmp 1)) (t := 3) (d := some 8) (v := ?_) rfl (by decide +kernel) (by decide +kernel) (by decide +kernel) (fun _ _ _ h => h) ?_ ?_
  case refine_2 => (intro _; unfold exec2; go_simp; try with_reducible rfl)
  try simp only [Act.put, List.setIfInBounds_toArray, List.set_cons_zero, List.set_cons_succ]
  refine wpAny_T (i := 2) (op := Op.call { callee := Callee.builtin Builtin.max, args := #[Operand.tmp 8, Operand.const (Value.int IntKind.i64 (-1))], argTypes := #[3, 3] }) (t := 3) (d := some 9) (v := ?_) rfl (by decide +kernel) (by decide +kernel) (by decide +kernel) (fun _ _ _ h => h) ?_ ?_
  case refine_2 => (intro _; unfold exec2; go_simp; try with_reducible rfl)
  try simp only [Act.put, List.setIfInBounds_toArray, List.set_cons_zero, List.set_cons_succ]
  refine wpAny_T (i := 3) (op := Op.binOp BinOp.add 3 (Operand.tmp 9) (Operand.const (Value.int IntKind.i64 1)) 3) (t := 3) (d := some 10) (v := ?_) rfl (by decide +kernel) (by decide +kernel) (by decide +kernel) (fun _ _ _ h => h) ?_ ?_
  case refine_2 => (intro _; unfold exec2; go_simp; try with_reducible rfl)
  try simp only [Act.put, List.setIfInBounds_toArray, List.set_cons_zero, List.set_cons_succ]
  refine wpAny_core2 (n := 3) [(0, some 7), (4, some 11)] (Ext w1)
    (VF (fun | 0 => some (.agg #[.int .u64 m, .int .u64 0]) | 4 => some (.agg #[.int .u64 f, .int .u64 0]) | _ => none) (fun _ _ _ => True))
    Ext #[true, true, true, true, true, false, false, false] (by kernel_rfl) (VF.stab ?_) ?_ ?_ ((Ext.rf _).drew)
  · intro j v W W' _ h _
    exact h
  · intro pq hpm u W hRW hD K hK
    have c0 : W.cell? ⟨w.heap.size, 0, none⟩ = some (.int .u64 m) := (B1.ext hRW).cell 0
    have c1 : W.cell? ⟨w.heap.size, 1, none⟩ = some (.int .u64 0) := (B1.ext hRW).cell 1
    simp only [List.mem_cons, List.not_mem_nil, or_false] at hpm
    rcases hpm with rfl | rfl
    · exact op_ld (T := 94) rfl (.pointer (some ⟨w.heap.size, 0, none⟩)) (by kernel_rfl) (.agg #[.int .u64 m, .int .u64 0]) (by go_simp) (hK _ _ (VF.mk rfl) hRW (Ext.rf _))
    · refine op_call rfl #[.int .i64 ((x : Int) + 1)] (by go_simp) (by kernel_rfl) _ (FU.out W) ?_
      rintro e w3 ⟨rfl, x3⟩
      exact ⟨_, rfl, hK _ _ (VF.mk rfl) (hRW.tr x3) x3⟩
  · intro u W hRW hV
    have h0 := (hV (0, some 7) (by simp)).k rfl
    have h4 := (hV (4, some 11) (by simp)).k rfl
    simp only [putAll, h0, h4]
    have XW := X0.tr hRW
    try simp only [Act.put, List.setIfInBounds_toArray, List.set_cons_zero, List.set_cons_succ]
    refine wpAny_next 5 (by decide +kernel) (op_call (f := 121) (xs := #[Operand.tmp 7, Operand.tmp 11]) (ts := #[94, 94]) (t := 94) (d := some 12) rfl #[.agg #[.int .u64 m, .int .u64 0], .agg #[.int .u64 f, .int .u64 0]] (by go_simp) (by kernel_rfl) _ (MI.out W) ?_)
    rintro e w3 ⟨rfl, x3⟩
    refine ⟨_, rfl, ?_⟩
    try simp only [Act.put, List.setIfInBounds_toArray, List.set_cons_zero, List.set_cons_succ]
    refine wpAny_next 6 (by decide +kernel) (op_call (f := 96) (xs := #[Operand.tmp 12]) (ts := #[94]) (t := 3) (d := some 13) rfl #[.agg #[.int .u64 z, .int .u64 0]] (by go_simp) (by kernel_rfl) _ (FI.out w3 (XW.tr x3)) ?_)
    rintro e w4 ⟨rfl, x4⟩
    refine ⟨_, rfl, ?_⟩
    try simp only [Act.put, List.setIfInBounds_toArray, List.set_cons_zero, List.set_cons_succ]
    refine wpAny_T (i := 7) (op := Op.assign (Operand.tmp 13)) (t := 3) (d := some 4) (v := ?_) rfl (by decide +kernel) (by decide +kernel) (by decide +kernel) (fun _ _ _ h => h) ?_ ?_
    case refine_2 => (intro _; unfold exec2; go_simp; try with_reducible rfl)
    try simp only [Act.put, List.setIfInBounds_toArray, List.set_cons_zero, List.set_cons_succ]
    refine wpAny_done (by kernel_rfl) ?_ _
    have X4 := Lib.hid ((XW.tr x3).tr x4)
    clear XW x3 x4 hRW hV h0 h4
    go_simp
    go_wp2_with (fail)
    go_ret
    exact ⟨rfl, X4.out⟩
set_option maxRecDepth 100000 in
theorem all_any (m : Nat) (w : World) : Calls Tryd.prog 65 #[setV m] w fun e w' => e = .returned (.func (.func 95) #[] #[.pointer (some ⟨w.heap.size, 0, none⟩)]) ∧ w' = w.alloc (.cells #[.int .u64 m, .int .u64 0] 94) := by
  unfold setV
  go_enter Tryd.func65, Tryd.ntmps65
  go_wp2_with (fail)
  go_ret
  exact ⟨rfl, rfl⟩
/-- one of a set -/
abbrev In (m : Nat) : Type := { x : Nat // x ∈ memsM m }
theorem In.lt {m : Nat} (x : In m) : x.1 < 64 := (memsM_mem.1 x.2).1
/-- what a round keeps: what lay ahead, and the set itself -/
def SetKp (n₀ Bn : Nat) (W W' : World) : Prop := Below n₀ W W' ∧ W'.heap[Bn]? = W.heap[Bn]?
theorem SetKp.tr {n₀ Bn : Nat} {A B C : World} (h : SetKp n₀ Bn A B) (k : SetKp n₀ Bn B C) : SetKp n₀ Bn A C := ⟨h.1.trans k.1, k.2.trans h.2⟩
theorem grown_of_ext {W W' : World} (x : Ext W W') : W.grownBy W' none := ⟨x.os, x.tape, x.output, x.size, fun k hk _ => x.block k hk⟩
theorem headI_cons (x : Nat) (l : List Nat) : headI (x :: l) = (x : Int) := rfl
set_option maxRecDepth 100000 in
set_option maxHeartbeats 2000000 in
theorem all1_in (n : Nat) (m : Nat) (hm : m < 18446744073709551616) (l Bn n₀ : Nat) (J Jx : List (In m) → World → Prop) (W : World) (hJ : AbidesFrom W.heap.size J)
    (hY : ∀ pre x W1, J pre W1 → pre.length < (memsM m).length → YieldAt Fence.wide (n - 1) Tryd.prog l #[.int .i64 ((x : In m).1 : Nat)] W1 fun e W' =>
      (e = .returned (.bool true) ∧ J (pre ++ [x]) W' ∧ SetKp n₀ Bn W1 W') ∨ (e = .returned (.bool false) ∧ Jx (pre ++ [x]) W'))
    (hB : Blk W Bn 94 #[.int .u64 m, .int .u64 0]) (hT : Tab W) (hT0 : ∀ j, j < Lib.deBruijn64tab.length → 1 < n₀) (hn₀ : n₀ ≤ W.heap.size) (h0 : J [] W) (h63 : ∀ x ∈ memsM m, x < 63) :
    CallsIn Fence.wide n Tryd.prog 95 #[.func (.yield l) #[] #[], .pointer (some ⟨Bn, 0, none⟩)] W fun e W' => (∃ v, e = .returned v) ∧
      ((∃ ys, ys = (memsM m).attach ∧ J ys W') ∨ (∃ pre, pre <+: (memsM m).attach ∧ Jx pre W')) := by
  have key : ∀ (W1 : World), Below n₀ W W1 → Tab W1 := fun W1 hb j hj => by
    rw [hb.cell (p := ⟨1, j, none⟩) (hT0 j hj)]
    exact hT j hj
  refine callsIn_of_wp Tryd.func95 rfl trivial ?_ rfl
  simp only [Tryd.ntmps95, List.size_toArray, List.length_cons, List.length_nil, Nat.reduceAdd, Nat.reduceSub, Array.replicate_succ, Array.replicate_zero, List.push_toArray, List.append_toArray, List.nil_append, List.cons_append]
  have c0 : W.cell? ⟨Bn, 0, none⟩ = some (.int .u64 m) := hB.cell 0
  have c1 : W.cell? ⟨Bn, 1, none⟩ = some (.int .u64 0) := hB.cell 1
  have FI := Lib.hid (first_any m hm W hT)
  unfold setV at FI
  gi_wp2
  refine ⟨trivial, fun h => (by cases h), ?_⟩
  refine (callsIn_wide.2 FI.out).mono ?_
  rintro e w1 ⟨rfl, x1⟩
  have h1 : J [] w1 := hJ [] W w1 none h0 (grown_of_ext x1) (fun r h => by cases h)
  have b1 := hB.ext x1
  have k1 : Below n₀ W w1 := x1.mono hn₀
  gi_wp2
  gi_loopw [3] (fun p wr => ∃ (pre rest : List (In m)), p = .int .i64 (headI (rest.map (·.1))) ∧ Hid ((memsM m).attach = pre ++ rest) ∧ Hid (J pre wr) ∧ Hid (Blk wr Bn 94 #[.int .u64 m, .int .u64 0]) ∧ Hid (Below n₀ W wr) ∧ Hid (W.heap.size ≤ wr.heap.size)) (fun p _ => ((65 - intOf p) % 66).toNat)
  case atStart => exact ⟨[], (memsM m).attach, by rw [List.attach_map_subtype_val], rfl, h1, b1, k1, x1.size⟩
  case round =>
    obtain ⟨pre, rest, rfl, hx, hJ1, hB1, hk, hz⟩ := hrel
    have hval : memsM m = (pre ++ rest).map (·.1) := by rw [← hx.out, List.attach_map_subtype_val]
    cases rest with
    | nil =>
      gi_wp2
      go_end0
      exact ⟨⟨_, rfl⟩, .inl ⟨pre, by rw [hx.out, List.append_nil], hJ1.out⟩⟩
    | cons x rest =>
      have hlen : pre.length < (memsM m).length := by rw [hval]; simp
      obtain ⟨fn, tmps, assign, body, hy, hR⟩ := hY pre x wr hJ1.out hlen
      have hx64 := h63 x.1 x.2
      have hnx : memsM m = pre.map (·.1) ++ x.1 :: rest.map (·.1) := hval.trans (by simp)
      have NX := fun (V : World) (hT' : Tab V) => next_any m x.1 hm hx64 V hT'
      rw [memsM_next hm hnx] at NX
      have hpre : pre ++ [x] <+: (memsM m).attach := ⟨rest, by rw [hx.out]; simp⟩
      have hx2 : Hid ((memsM m).attach = (pre ++ [x]) ++ rest) := by
        have h : (memsM m).attach = (pre ++ [x]) ++ rest := by rw [hx.out]; simp
        exact h
      have hsort := memsM_sorted m
      rw [hnx] at hsort
      have hlt : ∀ y ∈ rest.map (·.1), x.1 < y := (List.pairwise_cons.1 (List.pairwise_append.1 hsort).2.1).1
      obtain ⟨nx, hnxt⟩ : ∃ nx, Hid (headI (rest.map (·.1)) = nx) := ⟨_, rfl⟩
      have hms : nx = -1 ∨ ((x.1 : Int) < nx ∧ nx ≤ 63) := by
        rw [← hnxt.out]
        cases rest with
        | nil => left; rfl
        | cons y l => right; have h1 := hlt y.1 (by simp); have h2 := y.lt; simp only [List.map_cons, headI_cons]; omega
      rw [hnxt.out] at NX
      replace NX := Lib.hid NX
      unfold setV at NX
      simp only [List.map_cons, headI_cons]
      replace hpre := Lib.hid hpre
      clear hval hnx hsort hlt hlen
      have B1' := hB1.out
      gi_wp2
      refine ⟨fun h => (by cases h), ?_⟩
      refine hR.mono ?_
      rintro e W3 (⟨rfl, hJ3, hk3⟩ | ⟨rfl, hJx3⟩)
      · have b3 : Blk W3 Bn 94 #[.int .u64 m, .int .u64 0] := hk3.2.trans B1'
        have kb3 := hk.out.trans hk3.1
        have c0' : W3.cell? ⟨Bn, 0, none⟩ = some (.int .u64 m) := b3.cell 0
        have c1' : W3.cell? ⟨Bn, 1, none⟩ = some (.int .u64 0) := b3.cell 1
        have NX3 := Lib.hid (NX.out W3 (key W3 kb3))
        gi_wp2
        refine ⟨trivial, fun h => (by cases h), ?_⟩
        refine (callsIn_wide.2 NX3.out).mono ?_
        rintro e w4 ⟨rfl, x4⟩
        have z3 := hk3.1.size
        have hJ4 := hJ (pre ++ [x]) W3 w4 none hJ3 (grown_of_ext x4) (fun r h => by cases h)
        gi_wp2
        go_roundw
        case rel => exact ⟨pre ++ [x], rest, by rw [hnxt.out], hx2, hJ4, b3.ext x4, kb3.trans (x4.mono (by have := hz.out; omega)), by have := hz.out; have := x4.size; exact (by omega : W.heap.size ≤ w4.heap.size)⟩
        case measure =>
          simp only [intOf]
          have q1 := hms
          have q2 := hx64
          omega
      · gi_wp2
        refine bodyPost_ret (results_none rfl _ _ _) rfl ?_
        exact ⟨⟨_, rfl⟩, .inr ⟨pre ++ [x], hpre.out, hJx3⟩⟩
theorem tab_low {w : World} (h : Tab w) : 1 < w.heap.size := World.block_lt_of_cell? w _ (h 0 (by decide))
/-- All's value gives the set's numbers, one by one, rising -/
theorem all_stops (n : Nat) (m : Nat) (hm : m < 18446744073709551616) (h63 : ∀ x ∈ memsM m, x < 63) (Bn n₀ : Nat) (w : World) (hB : Blk w Bn 94 #[.int .u64 m, .int .u64 0]) (hT : Tab w) (hn₀ : n₀ ≤ w.heap.size) (hg : 1 < n₀) :
    SeqStopsK Fence.wide n Tryd.prog 95 #[.pointer (some ⟨Bn, 0, none⟩)] (fun x : In m => #[Value.int .i64 ((x.1 : Nat) : Int)]) (SetKp n₀ Bn) (fun ys => ys = (memsM m).attach) (fun pre => pre <+: (memsM m).attach) (memsM m).length w := fun l J Jx W hW hJ _ hY h0 =>
  all1_in n m hm l Bn n₀ J Jx W hJ hY (hB.ext hW) (hT.ext hW) (fun _ _ => hg) (Nat.le_trans hn₀ hW.size) h0 h63
theorem setKp_b {n₀ Bn : Nat} {w : World} {cs : Array Value} (hn : n₀ ≤ w.heap.size) (hB : Blk w Bn 94 cs) (W : World) (l : Nat) (o o' : Obj) (hl : w.heap.size ≤ l) (h : W.heap[l]? = some o) (h1 : o.isCells = false) (h2 : o.isWalk = false) : SetKp n₀ Bn W (W.putObj l o') :=
  ⟨belowK_b hn W l o o' hl h h1 h2, World.putObj_heap_other (by have := hB.lt; omega)⟩
end Go.Proofs.YtleckhbmciiooaaDoor
namespace Go.Proofs.YtleckhbmciiooaaDoor
open Go.RowKit Go.ChangeShapes Go.WideShapes Go.ChangeAt Go.Deep Go.Shelf
attribute [local go_sem] Oper.semAt_some

def inL {m : Nat} (pre : List (In m)) : List Nat := pre.map (·.1)
theorem inL_snoc {m : Nat} (pre : List (In m)) (x : In m) : inL (pre ++ [x]) = inL pre ++ [x.1] := by simp [inL]
theorem inL_attach (m : Nat) : inL (memsM m).attach = memsM m := List.attach_map_subtype_val _
end Go.Proofs.YtleckhbmciiooaaDoor
namespace Go.Proofs.YtleckhbmciiooaaDoor

/-- no cost -/
def farT : Int := 1152921504606846976
section
variable {rows : List (List Int)} {n G : Nat} {T : Nat → Nat → Int} {Bk : Nat → Nat → Nat}
/-- what is known of the cost of one set and one of its cities -/
structure WayAt (rows : List (List Int)) (n : Nat) (T : Nat → Nat → Int) (Bk : Nat → Nat → Nat) (g l : Nat) : Prop where
  one : clrM g l = 0 → T g l = costAt rows 0 (l + 1)
  le : clrM g l ≠ 0 → ∀ a, a < n → (clrM g l).testBit a = true → T g l ≤ T (clrM g l) a + costAt rows (a + 1) (l + 1)
  eq : clrM g l ≠ 0 → Bk g l < n ∧ (clrM g l).testBit (Bk g l) = true ∧ T g l = T (clrM g l) (Bk g l) + costAt rows (Bk g l + 1) (l + 1)
/-- .. of all sets below G -/
def WayOk (rows : List (List Int)) (n : Nat) (T : Nat → Nat → Int) (Bk : Nat → Nat → Nat) (G : Nat) : Prop := ∀ g l, g < G → l < n → g.testBit l = true → WayAt rows n T Bk g l
theorem lt64_of {n g : Nat} (hn : n ≤ 24) (h : g < 2 ^ n) : g < 18446744073709551616 := by
  have : 2 ^ n ≤ 2 ^ 24 := Nat.pow_le_pow_right (by omega) hn
  omega
theorem clr_bit {n g l j : Nat} (hn : n ≤ 24) (h : g < 2 ^ n) : (clrM g l).testBit j = (g.testBit j && decide (l ≠ j)) := clrM_bit (lt64_of hn h)
/-- without one of its own it is less -/
theorem clr_less {n g l : Nat} (hn : n ≤ 24) (h : g < 2 ^ n) (hl : g.testBit l = true) : clrM g l < g := by
  have e : g &&& clrM g l = clrM g l := Nat.eq_of_testBit_eq fun j => by
    rw [Nat.testBit_and, clr_bit hn h]
    cases g.testBit j <;> simp
  have h1 : clrM g l ≤ g := by
    rw [← e]
    exact Nat.and_le_left
  have h2 : clrM g l ≠ g := fun e2 => by
    have h3 := clr_bit (l := l) (j := l) hn h
    rw [e2, hl] at h3
    simp at h3
  omega
theorem clr_or {n g l : Nat} (hn : n ≤ 24) (h : g < 2 ^ n) (hl : l < n) (hb : g.testBit l = false) : clrM (g ||| 2 ^ l) l = g ∧ g ||| 2 ^ l < 2 ^ n := by
  have h2 : g ||| 2 ^ l < 2 ^ n := Nat.or_lt_two_pow h (Nat.pow_lt_pow_right (by omega) hl)
  refine ⟨Nat.eq_of_testBit_eq fun j => ?_, h2⟩
  rw [clr_bit hn h2, Nat.testBit_or]
  by_cases e : l = j
  · subst e
    simp [hb]
  · rw [Nat.testBit_two_pow_of_ne e]
    simp [e]
/-- the costs are no great numbers -/
theorem WayOk.bd (hn : n ≤ 24) (hG : G ≤ 2 ^ n) (h : WayOk rows n T Bk G) (num : ∀ a b, a < n + 1 → b < n + 1 → 0 ≤ costAt rows a b ∧ costAt rows a b ≤ 2147483647) : ∀ (g l : Nat), g < G → l < n → g.testBit l = true → 0 ≤ T g l ∧ T g l ≤ g * 2147483647 := by
  intro g
  induction g using Nat.strongRecOn with
  | ind g ih =>
    intro l hg hl hb
    have w := h g l hg hl hb
    have g0 : 0 < g := Nat.pos_of_ne_zero fun e => by rw [e] at hb; simp at hb
    by_cases e : clrM g l = 0
    · rw [w.one e]
      have := num 0 (l + 1) (by omega) (by omega)
      omega
    · obtain ⟨h1, h2, h3⟩ := w.eq e
      have h4 := clr_less hn (by omega : g < 2 ^ n) hb
      have h5 := ih (clrM g l) h4 (Bk g l) (by omega) h1 h2
      have h6 := num (Bk g l + 1) (l + 1) (by omega) (by omega)
      rw [h3]
      have h7 : ((clrM g l : Nat) : Int) + 1 ≤ (g : Int) := by omega
      generalize ((clrM g l : Nat) : Int) = z at *
      omega
/-- from a set and a city on: no way is less -/
theorem way_on (hn : n ≤ 24) (h : WayOk rows n T Bk (2 ^ n)) : ∀ (r : List Nat) (g a : Nat), g < 2 ^ n → a < n → g.testBit a = true → r.Nodup → (∀ y ∈ r, 1 ≤ y ∧ y ≤ n ∧ g.testBit (y - 1) = false) →
    ∃ g' l', g' < 2 ^ n ∧ l' < n ∧ g'.testBit l' = true ∧ (∀ j, g'.testBit j = true ↔ g.testBit j = true ∨ j + 1 ∈ r) ∧ T g' l' + costAt rows (l' + 1) 0 ≤ T g a + pathT rows (a + 1) r
  | [], g, a, hg, ha, hb, _, _ => ⟨g, a, hg, ha, hb, (fun j => by simp), Int.le_refl _⟩
  | y :: r, g, a, hg, ha, hb, hd, hr => by
    obtain ⟨y1, y2, y3⟩ := hr y (by simp)
    obtain ⟨hd1, hd2⟩ := List.nodup_cons.1 hd
    obtain ⟨e1, e2⟩ := clr_or hn hg (l := y - 1) (by omega) y3
    have hyb : (g ||| 2 ^ (y - 1)).testBit (y - 1) = true := by rw [Nat.testBit_or, Nat.testBit_two_pow_self, Bool.or_true]
    have w := h _ _ e2 (by omega) hyb
    have hg0 : g ≠ 0 := fun e => by rw [e] at hb; simp at hb
    have hle := w.le (by rw [e1]; exact hg0) a ha (by rw [e1]; exact hb)
    rw [e1, show y - 1 + 1 = y by omega] at hle
    obtain ⟨g', l', k1, k2, k3, k4, k5⟩ := way_on hn h r (g ||| 2 ^ (y - 1)) (y - 1) e2 (by omega) hyb hd2 (fun z hz => by
      obtain ⟨z1, z2, z3⟩ := hr z (by simp [hz])
      refine ⟨z1, z2, ?_⟩
      have hne : y ≠ z := fun e => hd1 (e ▸ hz)
      rw [Nat.testBit_or, z3, Nat.testBit_two_pow_of_ne (by omega)]
      rfl)
    rw [show y - 1 + 1 = y by omega] at k5
    refine ⟨g', l', k1, k2, k3, fun j => ?_, ?_⟩
    · rw [k4, Nat.testBit_or, Bool.or_eq_true, List.mem_cons, or_assoc]
      refine or_congr Iff.rfl (or_congr ?_ Iff.rfl)
      rw [Nat.testBit_two_pow, decide_eq_true_iff]
      omega
    · show _ ≤ T g a + (costAt rows (a + 1) y + pathT rows y r)
      omega
theorem full_bit {n j : Nat} : (2 ^ n - 1).testBit j = decide (j < n) := Nat.testBit_two_pow_sub_one n j
/-- no tour costs less than the least of the full set's costs and the ways home -/
theorem way_below (hn : n ≤ 24) (h : WayOk rows n T Bk (2 ^ n)) {q : List Nat} (hq : (0 :: q).Perm (List.range (n + 1))) (n1 : 1 ≤ n) : ∃ l, l < n ∧ T (2 ^ n - 1) l + costAt rows (l + 1) 0 ≤ pathT rows 0 q := by
  have hmem : ∀ y, y ∈ 0 :: q ↔ y < n + 1 := fun y => by rw [hq.mem_iff, List.mem_range]
  have hnd : (0 :: q).Nodup := hq.nodup_iff.2 List.nodup_range
  obtain ⟨h0, hd⟩ := List.nodup_cons.1 hnd
  match q, hq, hmem, h0, hd with
  | [], hq, _, _, _ =>
    have := hq.length_eq
    simp at this
    omega
  | x :: r, hq, hmem, h0, hd =>
    have hx : x < n + 1 := (hmem x).1 (by simp)
    have hx0 : x ≠ 0 := fun e => h0 (by simp [e])
    have hg : 2 ^ (x - 1) < 2 ^ n := Nat.pow_lt_pow_right (by omega) (by omega)
    have hb : (2 ^ (x - 1)).testBit (x - 1) = true := Nat.testBit_two_pow_self
    obtain ⟨hd1, hd2⟩ := List.nodup_cons.1 hd
    have e0 : clrM (2 ^ (x - 1)) (x - 1) = 0 := Nat.eq_of_testBit_eq fun j => by
      rw [clr_bit hn hg, Nat.testBit_two_pow]
      by_cases e : x - 1 = j <;> simp [e]
    have e1 := (h _ _ hg (by omega : x - 1 < n) hb).one e0
    rw [show x - 1 + 1 = x by omega] at e1
    obtain ⟨g', l', k1, k2, k3, k4, k5⟩ := way_on hn h r (2 ^ (x - 1)) (x - 1) hg (by omega) hb hd2 (fun z hz => by
      have hz2 : z < n + 1 := (hmem z).1 (by simp [hz])
      have hz0 : z ≠ 0 := fun e => h0 (by simp [← e, hz])
      have hne : x ≠ z := fun e => hd1 (e ▸ hz)
      exact ⟨by omega, by omega, Nat.testBit_two_pow_of_ne (by omega)⟩)
    have eg : g' = 2 ^ n - 1 := Nat.eq_of_testBit_eq fun j => by
      rw [full_bit, Bool.eq_iff_iff, k4, decide_eq_true_iff, Nat.testBit_two_pow, decide_eq_true_iff]
      constructor
      · rintro (h1 | h1)
        · omega
        · have := (hmem (j + 1)).1 (by simp [h1])
          omega
      · intro hj
        have h1 := (hmem (j + 1)).2 (by omega)
        simp only [List.mem_cons] at h1
        rcases h1 with h1 | h1 | h1
        · omega
        · left; omega
        · exact .inr h1
    rw [eg] at k5
    rw [show x - 1 + 1 = x by omega, e1] at k5
    exact ⟨l', k2, k5⟩
/-- the way back: from where one stands, what was gone to behind it -/
structure Trail (rows : List (List Int)) (n : Nat) (T : Nat → Nat → Int) (C : Int) (g l : Nat) (ys : List Nat) : Prop where
  nod : ys.Nodup
  mem : ∀ y, y ∈ ys ↔ 1 ≤ y ∧ y ≤ n ∧ g.testBit (y - 1) = false
  lt : g < 2 ^ n
  go : g ≠ 0 → l < n ∧ g.testBit l = true ∧ C = T g l + pathT rows (l + 1) ys
  fin : g = 0 → C = pathT rows 0 ys
theorem Trail.start {l : Nat} (n1 : 1 ≤ n) (hl : l < n) : Trail rows n T (T (2 ^ n - 1) l + costAt rows (l + 1) 0) (2 ^ n - 1) l [] where
  nod := List.nodup_nil
  mem := fun y => by
    rw [full_bit, decide_eq_false_iff_not]
    simp
    omega
  lt := by have := Nat.two_pow_pos n; omega
  go := fun _ => ⟨hl, by rw [full_bit]; simpa using hl, rfl⟩
  fin := fun e => by
    have : 2 ^ 1 ≤ 2 ^ n := Nat.pow_le_pow_right (by omega) n1
    omega
theorem Trail.step {C : Int} {g l : Nat} {ys : List Nat} (hn : n ≤ 24) (h : WayOk rows n T Bk (2 ^ n)) (t : Trail rows n T C g l ys) (hg : g ≠ 0) : Trail rows n T C (clrM g l) (Bk g l) ((l + 1) :: ys) ∧ clrM g l < g := by
  obtain ⟨h1, h2, h3⟩ := t.go hg
  have w := h g l t.lt h1 h2
  have hless := clr_less hn t.lt h2
  have hlt := t.lt
  refine ⟨⟨List.nodup_cons.2 ⟨fun hm => ?_, t.nod⟩, fun y => ?_, by omega, fun e => ?_, fun e => ?_⟩, hless⟩
  · have := ((t.mem (l + 1)).1 hm).2.2
    rw [Nat.add_sub_cancel, h2] at this
    cases this
  · rw [List.mem_cons, t.mem, clr_bit hn t.lt]
    by_cases e : y = l + 1
    · subst e
      simp
      omega
    · by_cases e2 : l = y - 1
      · have : y = 0 := by omega
        subst this
        simp
      · simp [e, e2]
  · obtain ⟨k1, k2, k3⟩ := w.eq e
    refine ⟨k1, k2, ?_⟩
    show C = T (clrM g l) (Bk g l) + (costAt rows (Bk g l + 1) (l + 1) + pathT rows (l + 1) ys)
    rw [h3, k3]
    omega
  · show C = costAt rows 0 (l + 1) + pathT rows (l + 1) ys
    rw [h3, w.one e]
theorem Trail.end {C : Int} {l : Nat} {ys : List Nat} (t : Trail rows n T C 0 l ys) : (0 :: ys).Perm (List.range (n + 1)) ∧ C = pathT rows 0 ys := by
  refine ⟨(List.perm_ext_iff_of_nodup (List.nodup_cons.2 ⟨fun hm => ?_, t.nod⟩) List.nodup_range).2 fun y => ?_, t.fin rfl⟩
  · have := ((t.mem 0).1 hm).1
    omega
  · rw [List.mem_cons, t.mem, List.mem_range]
    simp
    omega
end
end Go.Proofs.YtleckhbmciiooaaDoor
namespace Go.Proofs.YtleckhbmciiooaaDoor
open Go.RowKit Go.ChangeShapes Go.WideShapes Go.ChangeAt Go.Deep

/-- the slice with head A: each element lies in so many cells, which read as R says -/
def RdE {α : Type} (size : Nat) (R : World → List Value → α → Prop) (w : World) (A : Option Addr) (xs : List α) : Prop :=
  xs = [] ∨ ∃ b off, A = some ⟨b, off, none⟩ ∧ b < w.heap.size ∧ ∀ i x, xs[i]? = some x → ∃ cs : List Value, R w cs x ∧ cs.length = size ∧ ∀ j v, cs[j]? = some v → w.cell? ⟨b, off + i * size + j, none⟩ = some v
section
variable {α : Type} {size : Nat} {R : World → List Value → α → Prop} {w w' : World} {A : Option Addr} {xs : List α}
theorem RdE.ext (h : RdE size R w A xs) (hb : Ext w w') (hR : ∀ cs x, R w cs x → R w' cs x) : RdE size R w' A xs := by
  rcases h with rfl | ⟨b, off, rfl, hlt, hc⟩
  · exact .inl rfl
  · refine .inr ⟨b, off, rfl, Nat.lt_of_lt_of_le hlt hb.size, fun i x hi => ?_⟩
    obtain ⟨cs, h1, h2, h3⟩ := hc i x hi
    exact ⟨cs, hR _ _ h1, h2, fun j v hj => by rw [hb.cell hlt]; exact h3 j v hj⟩
theorem RdE.at (h : RdE size R w A xs) {i : Nat} (hi : i < xs.length) : ∃ b off cs x, A = some ⟨b, off, none⟩ ∧ b < w.heap.size ∧ R w cs x ∧ cs.length = size ∧ (∀ j v, cs[j]? = some v → w.cell? ⟨b, off + i * size + j, none⟩ = some v) ∧ Hid (xs[i]? = some x) := by
  rcases h with rfl | ⟨b, off, rfl, hlt, hc⟩
  · simp at hi
  · obtain ⟨cs, h1, h2, h3⟩ := hc i xs[i] (List.getElem?_eq_getElem hi)
    exact ⟨b, off, cs, xs[i], rfl, hlt, h1, h2, h3, List.getElem?_eq_getElem hi⟩
end

section
variable {H : Type} {enc : TypeId × Value → H} {W : World}
/-- what the cells of a value say, for the opener of its slices -/
def OpensAs {α : Type} (enc : TypeId × Value → H) (W : World) (e : TypeId) (R : World → List Value → α → Prop) : Prop :=
  ∀ (fuel : Nat) (cs : List Value) (x : DataW H × List MemPlace), DataW.trod enc Tryd.prog W 0 (fun _ => true) true fuel e cs = some x → ∃ a : α, R W cs a
theorem choose_R {α : Type} {n : Nat} {P : Nat → α → Prop} (h : ∀ i, i < n → ∃ a, P i a) : ∃ xs : List α, xs.length = n ∧ ∀ i x, xs[i]? = some x → P i x := by
  induction n with
  | zero => exact ⟨[], rfl, fun i x hx => by simp at hx⟩
  | succ n ih =>
    obtain ⟨xs, h1, h2⟩ := ih fun i hi => h i (by omega)
    obtain ⟨a, ha⟩ := h n (by omega)
    refine ⟨xs ++ [a], by simp [h1], fun i x hx => ?_⟩
    by_cases hi : i < xs.length
    · rw [List.getElem?_append_left hi] at hx
      exact h2 i x hx
    · rw [List.getElem?_append_right (by omega)] at hx
      obtain ⟨h0, hx⟩ := List.getElem?_eq_some_iff.1 hx
      have : i = n := by simp at h0; omega
      subst this
      simp at hx
      subst hx
      exact ha
theorem open_E {α : Type} {t e : TypeId} {size : Nat} {R : World → List Value → α → Prop} (ht : Tryd.prog.underlying t = some (.slice e)) (hsz : Tryd.prog.cellsOf e = size) (h0 : 0 < size) (hR : OpensAs enc W e R)
    {fuel : Nat} {cs : List Value} {x : DataW H × List MemPlace} (h : DataW.trod enc Tryd.prog W 0 (fun _ => true) true fuel t cs = some x) :
    ∃ (A : Option Addr) (xs : List α) (c : Nat), cs = [.slice A xs.length c] ∧ RdE size R W A xs ∧ xs.length ≤ c ∧ c ≤ maxLen := by
  rcases open_slice ht h with ⟨rfl, _⟩ | ⟨a, len, cap, m, n, D, Pl, rfl, _, hl, hm, hmm, _, hi⟩
  · exact ⟨none, [], 0, rfl, .inl rfl, Nat.le_refl 0, zero_le_maxLen⟩
  · simp only [if_true] at hmm
    subst hmm
    have each : ∀ i, i < len → ∃ y : α, ∃ cs' : List Value, R W cs' y ∧ cs'.length = size ∧ ∀ j v, cs'[j]? = some v → W.cell? (a.add (i * size + j)) = some v := by
      intro i hil
      obtain ⟨cs', hc, ht'⟩ := hi i (by omega)
      obtain ⟨y, hy⟩ := hR _ _ _ ht'
      obtain ⟨_, hcl, hat⟩ := World.cells?_some hc
      refine ⟨y, cs', hy, by rw [hcl, hsz], fun j v hj => ?_⟩
      have hjl : j < Tryd.prog.cellsOf e := by rw [← hcl]; exact (List.getElem?_eq_some_iff.1 hj).1
      have := hat j hjl
      rw [hj, hsz, Go.Deep.add_add] at this
      exact this
    obtain ⟨xs, hx1, hx2⟩ := choose_R each
    subst hx1
    refine ⟨some a, xs, _, rfl, ?_, hl, hm⟩
    by_cases hx0 : xs = []
    · exact .inl hx0
    · obtain ⟨y0, hy0⟩ : ∃ y, xs[0]? = some y := by
        cases xs with
        | nil => exact absurd rfl hx0
        | cons y ys => exact ⟨y, rfl⟩
      obtain ⟨cs0, _, hl0, hc0⟩ := hx2 0 y0 hy0
      have hv : cs0[0]? = some (cs0[0]'(by omega)) := List.getElem?_eq_getElem (by omega)
      have hcell := hc0 0 _ hv
      obtain ⟨b, off, spot⟩ := a
      have hspot : spot = none := by simpa [Addr.add] using World.cell?_spot hcell
      subst hspot
      refine .inr ⟨b, off, rfl, by simpa [Addr.add] using World.block_lt_of_cell? W _ hcell, fun i y hy => ?_⟩
      obtain ⟨cs', h1, h2, h3⟩ := hx2 i y hy
      exact ⟨cs', h1, h2, fun j v hj => by rw [Nat.add_assoc, ← add_plain]; exact h3 j v hj⟩
/-- an int -/
def RInt (_ : World) (cs : List Value) (x : Int) : Prop := cs = [.int .i64 x] ∧ -9223372036854775808 ≤ x ∧ x ≤ 9223372036854775807
theorem opens_int : OpensAs enc W 3 RInt := fun fuel cs x h => by
  obtain ⟨n, rfl, _, hw⟩ := DataW.trod_int Tryd.underlying3 h
  exact ⟨n, rfl, int_bd hw⟩
/-- a slice of ints -/
def RInts (w : World) (cs : List Value) (l : List Int) : Prop := ∃ A c, cs = [.slice A l.length c] ∧ RdI w A l ∧ Ints l ∧ l.length ≤ c ∧ c ≤ maxLen
theorem RInts.ext {w w' : World} {cs : List Value} {l : List Int} (h : RInts w cs l) (hb : Ext w w') : RInts w' cs l := by
  obtain ⟨A, c, h1, h2, h3⟩ := h
  exact ⟨A, c, h1, h2.ext hb, h3⟩
theorem opens_ints : OpensAs enc W 22 RInts := fun fuel cs x h => by
  obtain ⟨A, xs, c, rfl, h1, h2, h3⟩ := open_E Tryd.underlying22 cells_int (by omega) opens_int h
  refine ⟨xs, A, c, rfl, ?_, ?_, h2, h3⟩
  · rcases h1 with rfl | ⟨b, off, rfl, hb, hc⟩
    · exact .inl rfl
    · refine .inr ⟨b, off, rfl, hb, fun j x hj => ?_⟩
      obtain ⟨cs, ⟨rfl, _⟩, _, hcell⟩ := hc j x hj
      have := hcell 0 _ rfl
      simpa using this
  · intro x hx
    rcases h1 with rfl | ⟨b, off, rfl, hb, hc⟩
    · cases hx
    · obtain ⟨i, hi, rfl⟩ := List.mem_iff_getElem.1 hx
      obtain ⟨cs, ⟨_, hbd⟩, _⟩ := hc i xs[i] (List.getElem?_eq_getElem hi)
      exact hbd
/-- a field of a struct, by itself -/
theorem field_of {t : TypeId} {fs : Array Field} {fuel : Nat} {cs : List Value} {x : DataW H × List MemPlace} (ht : Tryd.prog.underlying t = some (.struct fs)) (h : DataW.trod enc Tryd.prog W 0 (fun _ => true) true fuel t cs = some x) :
    cs.length = Tryd.prog.cellsOf t ∧ ∀ (i : Nat) (f : Field), fs[i]? = some f → ∃ n y, DataW.trod enc Tryd.prog W 0 (fun _ => true) true n f.type ((cs.drop f.offset).take (Tryd.prog.cellsOf f.type)) = some y := by
  obtain ⟨xs, n, _, _, hlen, hl, hf⟩ := DataW.trod_struct ht h
  refine ⟨hlen, fun i f hi => ?_⟩
  have hlt : i < xs.length := by rw [hl]; exact (Array.getElem?_eq_some_iff.1 hi).1
  exact ⟨n, xs[i], by rw [hf i f hi]; exact List.getElem?_eq_getElem hlt⟩
theorem field_at {t : TypeId} {fs : Array Field} {fuel : Nat} {cs : List Value} {x : DataW H × List MemPlace} (ht : Tryd.prog.underlying t = some (.struct fs)) (h : DataW.trod enc Tryd.prog W 0 (fun _ => true) true fuel t cs = some x)
    (i : Nat) (ft : TypeId) (o s : Nat) (hf : (fs[i]?).map (fun f => (f.type, f.offset)) = some (ft, o)) (hs : Tryd.prog.cellsOf ft = s) : ∃ n y, DataW.trod enc Tryd.prog W 0 (fun _ => true) true n ft ((cs.drop o).take s) = some y := by
  obtain ⟨f, hf1, hf2⟩ := Option.map_eq_some_iff.1 hf
  simp only [Prod.mk.injEq] at hf2
  obtain ⟨rfl, rfl⟩ := hf2
  subst hs
  exact (field_of ht h).2 i f hf1
end
end Go.Proofs.YtleckhbmciiooaaDoor
namespace Go.Proofs.YtleckhbmciiooaaDoor
open Go.RowKit Go.ChangeShapes Go.WideShapes Go.ChangeAt

def ofT (w : World) (base : Nat) (ts : List TypeId) (k : Nat) : Prop := base ≤ k ∧ ∃ cs t, w.heap[k]? = some (.cells cs t (0, 0)) ∧ t ∈ ts
/-- what was there is as it was, but for blocks from base on of these element types -/
def ModT (base : Nat) (ts : List TypeId) (w w' : World) : Prop := Mod (ofT w base ts) w w'
section
variable {base : Nat} {ts : List TypeId} {w w' w2 : World}
theorem ModT.rf (w : World) : ModT base ts w w := Mod.rf w
theorem ModT.of_ext (h : Ext w w') : ModT base ts w w' := Mod.of_ext h
theorem ModT.tr (h : ModT base ts w w') (k : ModT base ts w' w2) : ModT base ts w w2 := by
  refine Mod.tr' h k fun i hi hs => ?_
  by_cases ho : ofT w base ts i
  · exact ho
  · obtain ⟨hb, cs, t, hc, ht⟩ := hs
    exact ⟨hb, cs, t, (h.block i hi ho).symm.trans hc, ht⟩
theorem ModT.ext (h : ModT base ts w w') (k : Ext w' w2) : ModT base ts w w2 := h.tr (.of_ext k)
theorem ModT.set (w : World) {g : Nat} {t : TypeId} {cs : Array Value} (hg : Blk w g t cs) (ht : t ∈ ts) (hb : base ≤ g) (i : Nat) (u : Value) : ModT base ts w (w.setCell ⟨g, i, none⟩ u) :=
  Mod.set (p := ⟨g, i, none⟩) (Mod.rf w) (.inl ⟨hb, cs, t, hg, ht⟩) u
theorem ModT.size (h : ModT base ts w w') : w.heap.size ≤ w'.heap.size := Mod.size h
theorem ModT.more {ts' : List TypeId} {base' : Nat} (h : ModT base ts w w') (hb : base' ≤ base) (ht : ∀ t ∈ ts, t ∈ ts') : ModT base' ts' w w' :=
  Mod.mono h fun _ _ ⟨h1, cs, t, h2, h3⟩ => ⟨Nat.le_trans hb h1, cs, t, h2, ht t h3⟩
theorem Ext.modT {w0 : World} (h : Ext w0 w) (k : ModT base ts w w') (hb : w0.heap.size ≤ base) : Ext w0 w' := h.mod k fun _ hk hs => by have := hs.1; omega
theorem Blk.modT {g : Nat} {t : TypeId} {cs : Array Value} (h : Blk w g t cs) (k : ModT base ts w w') (ht : t ∉ ts) : Blk w' g t cs :=
  h.mod k fun hs => by
    obtain ⟨_, cs', t', h1, h2⟩ := hs
    rw [h] at h1
    injection h1 with h1
    injection h1 with _ h1
    subst h1
    exact ht h2
theorem RdV.modT {e : TypeId} {A : Option Addr} {vs : List Value} (h : RdV w e A vs) (k : ModT base ts w w') (ht : e ∉ ts) : RdV w' e A vs :=
  h.mod k fun b cur hb hs => by
    obtain ⟨_, cs', t', h1, h2⟩ := hs
    rw [hb] at h1
    injection h1 with h1
    injection h1 with _ h1
    subst h1
    exact ht h2
theorem OwI.modT {base' : Nat} {A : Option Addr} {c : Nat} {xs : List Int} (h : OwI w base' A c xs) (k : ModT base ts w w') (ht : 3 ∉ ts) : OwI w' base' A c xs :=
  h.keep fun g hg => by
    rcases h.cases with ⟨rfl, rfl, rfl⟩ | ⟨g', cur, rfl, hb', hh, _⟩
    · simp [bl] at hg
    · simp [bl] at hg
      subst hg
      exact k.block g' (Array.getElem?_eq_some_iff.1 hh).1 fun hs => by
        obtain ⟨_, cs', t', h1, h2⟩ := hs
        rw [hh] at h1
        injection h1 with h1
        injection h1 with _ h1
        subst h1
        exact ht h2
theorem OwV.modT {base' : Nat} {e : TypeId} {size n c : Nat} {A : Option Addr} {vs : List Value} (h : OwV w base' e size A n c vs) (k : ModT base ts w w') (ht : e ∉ ts) : OwV w' base' e size A n c vs :=
  h.keep fun g hg => by
    rcases h.cases with ⟨rfl, rfl, rfl, rfl⟩ | ⟨g', cur, rfl, hb', hh, _⟩
    · simp [bl] at hg
    · simp [bl] at hg
      subst hg
      exact k.block g' (Array.getElem?_eq_some_iff.1 hh).1 fun hs => by
        obtain ⟨_, cs', t', h1, h2⟩ := hs
        rw [hh] at h1
        injection h1 with h1
        injection h1 with _ h1
        subst h1
        exact ht h2
theorem RdI.modT {A : Option Addr} {xs : List Int} (h : RdI w A xs) (k : ModT base ts w w') (hb : ∀ b, bl A = some b → b < base) : RdI w' A xs := by
  rcases h with rfl | ⟨b, off, rfl, hlt, hc⟩
  · exact .inl rfl
  · refine .inr ⟨b, off, rfl, Nat.lt_of_lt_of_le hlt k.size, fun j x hj => ?_⟩
    have h1 := hb b rfl
    rw [← hc j x hj]
    exact World.cell?_of_block (k.block b hlt fun hs => by have := hs.1; omega)
end
end Go.Proofs.YtleckhbmciiooaaDoor
namespace Go.Proofs.YtleckhbmciiooaaDoor
open Go.RowKit Go.ChangeShapes Go.WideShapes Go.ChangeAt Go.Deep

/-- block g holds so many numbers -/
def Arr (w : World) (g n : Nat) (u : Nat → Int) : Prop := Blk w g 3 (List.toArray ((List.range n).map fun i => Value.int .i64 (u i)))
/-- block g holds so many truth values -/
def ArrB (w : World) (g n : Nat) (u : Nat → Bool) : Prop := Blk w g 4 (List.toArray ((List.range n).map fun i => Value.bool (u i)))
section
variable {w w' : World} {g n : Nat} {u v : Nat → Int} {p q : Nat → Bool}
theorem Arr.cell (h : Arr w g n u) {k : Nat} (hk : k < n) : w.cell? ⟨g, k, none⟩ = some (.int .i64 (u k)) := by
  rw [Blk.cell h]
  simp [hk]
theorem Arr.free (h : Arr w g n u) (k : Nat) : w.frozen? ⟨g, k, none⟩ = false := Blk.free h k
theorem Arr.lt (h : Arr w g n u) : g < w.heap.size := Blk.lt h
theorem Arr.ext (h : Arr w g n u) (x : Ext w w') : Arr w' g n u := Blk.ext h x
theorem Arr.mod {S : Nat → Prop} (h : Arr w g n u) (hm : Mod S w w') (hg : ¬ S g) : Arr w' g n u := Blk.mod h hm hg
theorem Arr.far (h : Arr w g n u) {a : Addr} (hp : g ≠ a.block) (x : Value) : Arr (w.setCell a x) g n u := Blk.far h hp x
theorem range_set {α : Type} (f : Nat → α) (n k : Nat) (x : α) : ((List.range n).map f).set k x = (List.range n).map fun i => if i = k then x else f i := by
  refine List.ext_getElem? fun i => ?_
  rw [List.getElem?_set]
  by_cases hi : i < n
  · by_cases e : k = i
    · subst e; simp [hi]
    · have e' : ¬ i = k := fun h => e h.symm
      simp [e, e', hi]
  · by_cases e : k = i
    · subst e; simp [hi]
    · simp [e, hi]
theorem Arr.set (h : Arr w g n u) (k : Nat) (x : Int) : Arr (w.setCell ⟨g, k, none⟩ (.int .i64 x)) g n (fun i => if i = k then x else u i) := by
  have h1 := Blk.set h k (.int .i64 x)
  have e : (List.toArray ((List.range n).map fun i => Value.int .i64 (u i))).setIfInBounds k (.int .i64 x) = List.toArray ((List.range n).map fun i => Value.int .i64 (if i = k then x else u i)) := by
    rw [List.setIfInBounds_toArray, range_set]
    congr 1
    refine List.map_congr_left fun i _ => ?_
    split <;> rfl
  rw [e] at h1
  exact h1
theorem Arr.congr (h : Arr w g n u) (e : ∀ i, i < n → u i = v i) : Arr w g n v := by
  unfold Arr at h ⊢
  have : ((List.range n).map fun i => Value.int .i64 (u i)) = (List.range n).map fun i => Value.int .i64 (v i) := List.map_congr_left fun i hi => by rw [e i (List.mem_range.1 hi)]
  rwa [this] at h
theorem Arr.rdI (h : Arr w g n u) : RdI w (some ⟨g, 0, none⟩) ((List.range n).map u) := RdI.blk h (by simp [Function.comp_def])
theorem Arr.ne {g' : Nat} {t' : TypeId} {cs' : Array Value} (h : Arr w g n u) (h' : Blk w g' t' cs') (hne : 3 ≠ t') : g ≠ g' := Blk.ne h h' hne
theorem Arr.of_own {base : Nat} {x : Int} (h : OwI w base (some ⟨g, 0, none⟩) n (List.replicate n x)) : Arr w g n (fun _ => x) := by
  rcases h.cases with ⟨e, _⟩ | ⟨g', cur, e, _, hg, _, _, hs, ht⟩
  · cases e
  · obtain rfl : g = g' := by simpa using e
    have hl : cur.toList.length = n := by simpa using hs
    have h2 : cur.toList = (List.replicate n x).map (Value.int .i64) := by
      rw [← ht, List.length_replicate, Nat.mul_one, List.take_of_length_le (by omega)]
    have h3 : cur = List.toArray ((List.range n).map fun _ => Value.int .i64 x) := Array.ext' (by rw [h2]; simp [List.map_const'])
    unfold Arr Blk
    rw [hg, h3]
theorem ArrB.cell (h : ArrB w g n p) {k : Nat} (hk : k < n) : w.cell? ⟨g, k, none⟩ = some (.bool (p k)) := by
  rw [Blk.cell h]
  simp [hk]
theorem ArrB.free (h : ArrB w g n p) (k : Nat) : w.frozen? ⟨g, k, none⟩ = false := Blk.free h k
theorem ArrB.lt (h : ArrB w g n p) : g < w.heap.size := Blk.lt h
theorem ArrB.ext (h : ArrB w g n p) (x : Ext w w') : ArrB w' g n p := Blk.ext h x
theorem ArrB.mod {S : Nat → Prop} (h : ArrB w g n p) (hm : Mod S w w') (hg : ¬ S g) : ArrB w' g n p := Blk.mod h hm hg
theorem ArrB.far (h : ArrB w g n p) {a : Addr} (hp : g ≠ a.block) (x : Value) : ArrB (w.setCell a x) g n p := Blk.far h hp x
theorem ArrB.set (h : ArrB w g n p) (k : Nat) (x : Bool) : ArrB (w.setCell ⟨g, k, none⟩ (.bool x)) g n (fun i => if i = k then x else p i) := by
  have h1 := Blk.set h k (.bool x)
  have e : (List.toArray ((List.range n).map fun i => Value.bool (p i))).setIfInBounds k (.bool x) = List.toArray ((List.range n).map fun i => Value.bool (if i = k then x else p i)) := by
    rw [List.setIfInBounds_toArray, range_set]
    congr 1
    refine List.map_congr_left fun i _ => ?_
    split <;> rfl
  rw [e] at h1
  exact h1
theorem ArrB.congr (h : ArrB w g n p) (e : ∀ i, i < n → p i = q i) : ArrB w g n q := by
  unfold ArrB at h ⊢
  have : ((List.range n).map fun i => Value.bool (p i)) = (List.range n).map fun i => Value.bool (q i) := List.map_congr_left fun i hi => by rw [e i (List.mem_range.1 hi)]
  rwa [this] at h
end
theorem bool_info : (Tryd.prog.info? 4).map (fun i => (i.zero, i.size, i.bytes)) = some (some (.bool false), 1, 1) := by kernel_rfl
/-- make([]bool, n) -/
theorem wpl_make_b (w : World) {ops : Array Oper} {rest : List Oper} {o : Oper} {a : Act} {Q : Exit → Act → World → Prop} (hgd : o.guard = none) (l c : Operand) (hop : o.op = Op.makeSlice 133 l c)
    (L C : Int) (n : Nat) (hl : a.eval l = .int .i64 L) (hc : a.eval c = .int .i64 C) (hL : L = (n : Int)) (hC : C = (n : Int)) (hn : n ≤ 2 ^ 44)
    (hK : ∀ w', ArrB w' w.heap.size n (fun _ => false) → w.grownBy w' none → wpList Tryd.prog ops Q rest (a.put o.dst (.slice (some ⟨w.heap.size, 0, none⟩) n n)) w') :
    wpList Tryd.prog ops Q (o :: rest) a w := by
  obtain ⟨i0, hi, hz0, hz1, hz2⟩ := info_parts bool_info
  refine wpList_make_full w hgd l c _ hop w.heap.size 4 i0 _ 1 Tryd.underlying133 hi hz0 hz1 .i64 .i64 L C n hl hc hL hC (by rw [hz2]; omega) (by simp only [maxLen]; omega) (Nat.le_refl _) (fun w' h2 h3 => hK w' ?_ h3)
  have e : (madeCells (Value.bool false).cells (n * 1)).toList = (List.range n).map fun _ => Value.bool false := by
    simp [madeCells, Value.cells, List.map_const', Nat.mod_one]
  rw [e] at h2
  rcases (OwV.cases (e := 4) (size := 1) h2) with ⟨e1, _⟩ | ⟨g', cur, e1, _, hg, _, _, hs, ht⟩
  · cases e1
  · obtain rfl : w.heap.size = g' := by simpa using e1
    have hl : cur.toList.length = n := by simpa using hs
    have h3 : cur = List.toArray ((List.range n).map fun _ => Value.bool false) := Array.ext' (by rw [← ht, Nat.mul_one, List.take_of_length_le (by omega)])
    unfold ArrB Blk
    rw [hg, h3]
/-- one of several rows that are made, in whatever order -/
theorem op_make_a {ops : Array Oper} {i : Nat} {t : TypeId} {d : Option Tmp} {a : Act} {w : World} {K : Act → World → Prop} {Q : Exit → Act → World → Prop} {x y : Operand} (hi : opAt ops i = some (none, .makeSlice 22 x y, t, d)) (n : Nat) (L : Int) (hx : a.eval x = .int .i64 L) (hy : a.eval y = .int .i64 L) (hL : L = (n : Int)) (hn : n ≤ 2 ^ 44)
    (hK : ∀ w', Arr w' w.heap.size n (fun _ => 0) → Ext w w' → K (a.put d (.slice (some ⟨w.heap.size, 0, none⟩) n n)) w') : wpOp Tryd.prog ops Q i K a w := by
  obtain ⟨i0, hi0, hz0, hz1, hz2⟩ := info_parts int_info
  subst hL
  obtain ⟨w', hrun, h2, h3⟩ := run_make_full (P := Tryd.prog) w w.heap.size 22 3 i0 _ 1 Tryd.underlying22 hi0 hz0 hz1 .i64 .i64 n (by rw [hz2]; omega) (by simp only [maxLen]; omega) (Nat.le_refl _)
  have e : (madeCells (Value.int .i64 0).cells (n * 1)).toList = (List.replicate n (0 : Int)).map (Value.int .i64) := by
    simp [madeCells, Value.cells, List.map_const', Nat.mod_one]
  rw [e] at h2
  refine op_run hi _ (by simp [exec2, execOp, hx, hy, hrun]) (hK w' (Arr.of_own (base := w.heap.size) (by simpa [OwI] using h2)) ((Ext.rf _).grownNone h3))
end Go.Proofs.YtleckhbmciiooaaDoor
namespace Go.Proofs.YtleckhbmciiooaaDoor
open Go.RowKit Go.ChangeShapes Go.WideShapes Go.ChangeAt Go.Deep

/-- a table: of each set below G a row of n numbers -/
structure WayM (w : World) (base tc N n G : Nat) (r : Nat → Nat) (T : Nat → Nat → Int) : Prop where
  tab : ∃ cs, Blk w tc 22 cs ∧ cs.size = N ∧ ∀ g, 1 ≤ g → g < G → cs[g]? = some (.slice (some ⟨r g, 0, none⟩) n n)
  row : ∀ g, 1 ≤ g → g < G → Arr w (r g) n (T g) ∧ base ≤ r g
section
variable {w w' : World} {base tc N n G : Nat} {r : Nat → Nat} {T : Nat → Nat → Int}
theorem WayM.cell (h : WayM w base tc N n G r T) {g : Nat} (h1 : 1 ≤ g) (h2 : g < G) : w.cell? ⟨tc, g, none⟩ = some (.slice (some ⟨r g, 0, none⟩) n n) := by
  obtain ⟨cs, hb, _, hc⟩ := h.tab
  rw [hb.cell]
  exact hc g h1 h2
theorem WayM.any (h : WayM w base tc N n G r T) {g : Nat} (hg : g < N) : (∃ v, w.cell? ⟨tc, g, none⟩ = some v) ∧ w.frozen? ⟨tc, g, none⟩ = false ∧ tc < w.heap.size := by
  obtain ⟨cs, hb, hs, _⟩ := h.tab
  exact ⟨⟨cs[g], by rw [hb.cell]; exact Array.getElem?_eq_getElem (by omega)⟩, hb.free g, hb.lt⟩
theorem WayM.num (h : WayM w base tc N n G r T) {g l : Nat} (h1 : 1 ≤ g) (h2 : g < G) (hl : l < n) : w.cell? ⟨r g, l, none⟩ = some (.int .i64 (T g l)) ∧ r g < w.heap.size := ⟨(h.row g h1 h2).1.cell hl, (h.row g h1 h2).1.lt⟩
theorem WayM.mod {S : Nat → Prop} (h : WayM w base tc N n G r T) (m : Mod S w w') (hc : ¬ S tc) (hr : ∀ g, 1 ≤ g → g < G → ¬ S (r g)) : WayM w' base tc N n G r T := by
  obtain ⟨cs, hb, hs, hcs⟩ := h.tab
  exact ⟨⟨cs, hb.mod m hc, hs, hcs⟩, fun g h1 h2 => ⟨(h.row g h1 h2).1.mod m (hr g h1 h2), (h.row g h1 h2).2⟩⟩
theorem WayM.ext (h : WayM w base tc N n G r T) (x : Ext w w') : WayM w' base tc N n G r T := h.mod (S := fun _ => False) (Mod.of_ext x) (fun h => h) (fun _ _ _ h => h)
theorem WayM.congr {T' : Nat → Nat → Int} (h : WayM w base tc N n G r T) (e : ∀ g l, 1 ≤ g → g < G → l < n → T g l = T' g l) : WayM w base tc N n G r T' :=
  ⟨h.tab, fun g h1 h2 => ⟨(h.row g h1 h2).1.congr fun l hl => e g l h1 h2 hl, (h.row g h1 h2).2⟩⟩
/-- one more row is put into the table -/
theorem WayM.put (h : WayM w base tc N n G r T) (hG : G < N) {q : Nat} {u : Nat → Int} (hq : Arr w q n u) (hb : base ≤ q) : WayM (w.setCell ⟨tc, G, none⟩ (.slice (some ⟨q, 0, none⟩) n n)) base tc N n (G + 1) (fun g => if g = G then q else r g) (fun g => if g = G then u else T g) := by
  obtain ⟨cs, hB, hs, hcs⟩ := h.tab
  refine ⟨⟨cs.setIfInBounds G (.slice (some ⟨q, 0, none⟩) n n), hB.set G _, by simpa using hs, fun g h1 h2 => ?_⟩, fun g h1 h2 => ?_⟩
  · by_cases e : g = G
    · subst e
      simp [Array.getElem?_setIfInBounds, hs, hG]
    · rw [if_neg e, Array.getElem?_setIfInBounds, if_neg (fun h => e h.symm)]
      exact hcs g h1 (by omega)
  · by_cases e : g = G
    · simp only [if_pos e]
      exact ⟨hq.far (hq.ne hB (by decide)) _, hb⟩
    · simp only [if_neg e]
      have h3 := h.row g h1 (by omega)
      exact ⟨h3.1.far (h3.1.ne hB (by decide)) _, h3.2⟩
/-- the last row is written into -/
theorem WayM.last {u : Nat → Int} {S : Nat → Prop} (h : WayM w base tc N n (G + 1) r T) (m : Mod S w w') (hc : ¬ S tc) (hr : ∀ g, 1 ≤ g → g < G → ¬ S (r g)) (hu : Arr w' (r G) n u) (h1 : 1 ≤ G) : WayM w' base tc N n (G + 1) r (fun g => if g = G then u else T g) := by
  obtain ⟨cs, hB, hs, hcs⟩ := h.tab
  refine ⟨⟨cs, hB.mod m hc, hs, hcs⟩, fun g h2 h3 => ?_⟩
  by_cases e : g = G
  · subst e
    simp only [if_true]
    exact ⟨hu, (h.row g h2 h3).2⟩
  · simp only [if_neg e]
    exact ⟨(h.row g h2 h3).1.mod m (hr g h2 (by omega)), (h.row g h2 h3).2⟩
end
/-- the costs of one set, city by city: what is known ahead of the cities that are tried -/
def leastW (f : Nat → Int) (m : Nat) : Nat → Int × Nat
  | 0 => (farT, 0)
  | k + 1 => if m.testBit k = true then (if f k < (leastW f m k).1 then (f k, k) else leastW f m k) else leastW f m k
theorem leastW_law {f : Nat → Int} {m : Nat} : ∀ {k : Nat}, (∀ a, a < k → m.testBit a = true → f a < farT) → (∀ a, a < k → m.testBit a = true → (leastW f m k).1 ≤ f a) ∧ (leastW f m k = (farT, 0) ∨ ((leastW f m k).2 < k ∧ m.testBit (leastW f m k).2 = true ∧ (leastW f m k).1 = f (leastW f m k).2)) ∧ ((∃ a, a < k ∧ m.testBit a = true) → (leastW f m k).1 < farT)
  | 0, _ => ⟨(fun a h => by omega), Or.inl rfl, fun ⟨a, h, _⟩ => by omega⟩
  | k + 1, hf => by
    obtain ⟨i1, i2, i3⟩ := leastW_law (f := f) (m := m) (k := k) fun a h1 h2 => hf a (by omega) h2
    unfold leastW
    by_cases hb : m.testBit k = true
    · rw [if_pos hb]
      have h9 := hf k (by omega) hb
      by_cases hl : f k < (leastW f m k).1
      · rw [if_pos hl]
        refine ⟨fun a h1 h2 => ?_, .inr ⟨by simp, hb, rfl⟩, fun _ => h9⟩
        by_cases e : a = k
        · subst e
          exact Int.le_refl _
        · have := i1 a (by omega) h2
          simp only
          omega
      · rw [if_neg hl]
        refine ⟨fun a h1 h2 => ?_, ?_, fun _ => by omega⟩
        · by_cases e : a = k
          · subst e
            omega
          · exact i1 a (by omega) h2
        · rcases i2 with h | ⟨h1, h2, h3⟩
          · exact .inl h
          · exact .inr ⟨by omega, h2, h3⟩
    · rw [if_neg hb]
      have hne : ∀ a, a < k + 1 → m.testBit a = true → a < k := fun a h1 h2 => by
        by_cases e : a = k
        · subst e
          exact absurd h2 hb
        · omega
      refine ⟨fun a h1 h2 => i1 a (hne a h1 h2) h2, ?_, fun ⟨a, h1, h2⟩ => i3 ⟨a, hne a h1 h2, h2⟩⟩
      rcases i2 with h | ⟨h1, h2, h3⟩
      · exact .inl h
      · exact .inr ⟨by omega, h2, h3⟩
/-- what the program writes at a set and a city -/
def wayN (rows : List (List Int)) (n : Nat) (T : Nat → Nat → Int) (g l : Nat) : Int × Nat :=
  if g.testBit l = true then (if clrM g l = 0 then (costAt rows 0 (l + 1), 0) else leastW (fun a => T (clrM g l) a + costAt rows (a + 1) (l + 1)) (clrM g l) n) else (farT, 0)
theorem wayN_at {rows : List (List Int)} {n : Nat} {T : Nat → Nat → Int} {Bk : Nat → Nat → Nat} {g l : Nat} (hn : n ≤ 24) (hg : g < 2 ^ n) (hl : g.testBit l = true)
    (hf : ∀ a, a < n → (clrM g l).testBit a = true → T (clrM g l) a + costAt rows (a + 1) (l + 1) < farT) (hT : T g l = (wayN rows n T g l).1) (hB : Bk g l = (wayN rows n T g l).2) : WayAt rows n T Bk g l := by
  unfold wayN at hT hB
  rw [if_pos hl] at hT hB
  have hless := clr_less hn hg hl
  refine ⟨fun e => ?_, fun e => ?_, fun e => ?_⟩
  · rw [if_pos e] at hT
    exact hT
  · rw [if_neg e] at hT
    obtain ⟨h1, _, _⟩ := leastW_law (f := fun a => T (clrM g l) a + costAt rows (a + 1) (l + 1)) (m := clrM g l) (k := n) hf
    intro a ha hb
    rw [hT]
    exact h1 a ha hb
  · rw [if_neg e] at hT hB
    obtain ⟨_, h2, h3⟩ := leastW_law (f := fun a => T (clrM g l) a + costAt rows (a + 1) (l + 1)) (m := clrM g l) (k := n) hf
    have hex : ∃ a, a < n ∧ (clrM g l).testBit a = true := by
      obtain ⟨a, ha⟩ := Nat.exists_testBit_of_ne_zero e
      refine ⟨a, ?_, ha⟩
      by_cases h : a < n
      · exact h
      · rw [Nat.testBit_lt_two_pow (Nat.lt_of_lt_of_le (by omega : clrM g l < 2 ^ n) (Nat.pow_le_pow_right (by omega) (by omega)))] at ha
        cases ha
    have h4 := h3 hex
    rcases h2 with h2 | ⟨k1, k2, k3⟩
    · rw [h2] at h4
      simp at h4
    · rw [hB, hT]
      exact ⟨k1, k2, k3⟩
end Go.Proofs.YtleckhbmciiooaaDoor
namespace Go.Proofs.YtleckhbmciiooaaDoor

theorem WayOk.next {rows : List (List Int)} {n g : Nat} {T : Nat → Nat → Int} {Bk : Nat → Nat → Nat} (hn : n ≤ 11) (hg : g < 2 ^ n) (h : WayOk rows n T Bk g) (num : ∀ a b, a < n + 1 → b < n + 1 → 0 ≤ costAt rows a b ∧ costAt rows a b ≤ 2147483647) :
    WayOk rows n (fun x j => if x = g then (wayN rows n T g j).1 else T x j) (fun x j => if x = g then (wayN rows n T g j).2 else Bk x j) (g + 1) := by
  intro x l hx hl hb
  have hx2 : x < 2 ^ n := by omega
  have hless := clr_less (n := n) (by omega) hx2 hb
  have p11 : 2 ^ n ≤ 2 ^ 11 := Nat.pow_le_pow_right (by omega) hn
  by_cases e : x = g
  · subst e
    have ew : wayN rows n (fun y j => if y = x then (wayN rows n T x j).1 else T y j) x l = wayN rows n T x l := by
      unfold wayN
      simp only [if_neg (show ¬ clrM x l = x by omega)]
    refine wayN_at (by omega) hx2 hb (fun a ha hab => ?_) (by rw [ew]; simp) (by rw [ew]; simp)
    simp only [if_neg (show ¬ clrM x l = x by omega)]
    have h1 := WayOk.bd (n := n) (by omega) (by omega) h num (clrM x l) a hless ha hab
    have h2 := num (a + 1) (l + 1) (by omega) (by omega)
    unfold farT
    have h3 : ((clrM x l : Nat) : Int) ≤ 2048 := by omega
    generalize ((clrM x l : Nat) : Int) = z at *
    omega
  · have w := h x l (by omega) hl hb
    refine ⟨fun h0 => ?_, fun h0 a ha hab => ?_, fun h0 => ?_⟩
    · simp only [if_neg e]
      exact w.one h0
    · simp only [if_neg e, if_neg (show ¬ clrM x l = g by omega)]
      exact w.le h0 a ha hab
    · obtain ⟨k1, k2, k3⟩ := w.eq h0
      simp only [if_neg e, if_neg (show ¬ clrM x l = g by omega)]
      exact ⟨k1, k2, k3⟩
end Go.Proofs.YtleckhbmciiooaaDoor
namespace Go.Proofs.YtleckhbmciiooaaDoor
open Go

theorem andNotN_le (a b : Nat) (ha : a < 18446744073709551616) : andNotN a b ≤ a := by
  have e : a &&& andNotN a b = andNotN a b := Nat.eq_of_testBit_eq fun j => by
    rw [Nat.testBit_and, andNotN_bit ha]
    cases a.testBit j <;> simp
  rw [← e]
  exact Nat.and_le_left
theorem bits_andNot_i64 (a b : Nat) (ha : a < 9223372036854775808) (hb : b < 9223372036854775808) : bits .andNot .i64 (a : Int) (b : Int) = ((andNotN a b : Nat) : Int) := by
  have h1 : BitVec.ofInt 64 (a : Int) = BitVec.ofNat 64 a := BitVec.ofInt_natCast ..
  have h2 : BitVec.ofInt 64 (b : Int) = BitVec.ofNat 64 b := BitVec.ofInt_natCast ..
  show IntKind.i64.wrap ((BitVec.ofInt 64 (a : Int) &&& ~~~ BitVec.ofInt 64 (b : Int)).toNat : Int) = _
  rw [h1, h2]
  have := andNotN_le a b (by omega)
  unfold andNotN at this ⊢
  exact IntWalk.i64_in _ (by omega)
theorem bits_and_i64 (a b : Nat) (ha : a < 9223372036854775808) (hb : b < 9223372036854775808) : bits .and .i64 (a : Int) (b : Int) = ((a &&& b : Nat) : Int) := by
  have h1 : BitVec.ofInt 64 (a : Int) = BitVec.ofNat 64 a := BitVec.ofInt_natCast ..
  have h2 : BitVec.ofInt 64 (b : Int) = BitVec.ofNat 64 b := BitVec.ofInt_natCast ..
  show IntKind.i64.wrap ((BitVec.ofInt 64 (a : Int) &&& BitVec.ofInt 64 (b : Int)).toNat : Int) = _
  rw [h1, h2, BitVec.toNat_and, BitVec.toNat_ofNat, BitVec.toNat_ofNat, Nat.mod_eq_of_lt (by omega), Nat.mod_eq_of_lt (by omega)]
  have := Nat.and_le_left (n := a) (m := b)
  exact IntWalk.i64_in _ (by omega)
/-- (m >> n) & 1 == 0 -/
theorem bit_zero_i64 (m n : Nat) (hm : m < 9223372036854775808) : (bits BinOp.and IntKind.i64 ((m : Int) / 2 ^ n) 1 == 0) = !m.testBit n := by
  have e : ((m : Int) / 2 ^ n) = ((m / 2 ^ n : Nat) : Int) := by rw [Int.natCast_ediv, Int.natCast_pow]; rfl
  have hlt : m / 2 ^ n < 9223372036854775808 := Nat.lt_of_le_of_lt (Nat.div_le_self _ _) hm
  have h := bits_and_i64 (m / 2 ^ n) 1 hlt (by omega)
  rw [e, show ((1 : Int)) = ((1 : Nat) : Int) from rfl, h, Nat.and_one_is_mod, shr_bit]
  split <;> rename_i hb
  · rw [hb]; rfl
  · simp at hb; rw [hb]; rfl
/-- 1 << n -/
theorem shl_wrap_i64 (n : Nat) (hn : n < 62) : IntKind.i64.wrap ((2 : Int) ^ n) = ((2 ^ n : Nat) : Int) := by
  have h1 : 2 ^ n < 2 ^ 62 := Nat.pow_lt_pow_right (by omega) hn
  have e2 : ((2 : Int) ^ n) = ((2 ^ n : Nat) : Int) := by rw [Int.natCast_pow]; rfl
  rw [e2]
  generalize 2 ^ n = p at *
  exact IntWalk.i64_in _ (by omega)
/-- g &^ (1 << l) -/
theorem clr_i64 (g l : Nat) (hg : g < 9223372036854775808) (hl : l < 62) : bits .andNot .i64 (g : Int) ((2 ^ l : Nat) : Int) = ((clrM g l : Nat) : Int) := by
  have h1 : 2 ^ l < 2 ^ 62 := Nat.pow_lt_pow_right (by omega) hl
  exact bits_andNot_i64 g (2 ^ l) hg (by omega)
end Go.Proofs.YtleckhbmciiooaaDoor
namespace Go.Proofs.YtleckhbmciiooaaDoor
open Go.RowKit Go.ChangeShapes Go.WideShapes Go.ChangeAt Go.Deep

structure InstP where
  kind : Int
  n : Int
  cap : Int
  weight : List Int
  value : List Int
  cost : List (List Int)
/-- the six cells of a problem -/
def RInst (w : World) (vs : List Value) (i : InstP) : Prop := ∃ (A : Option Addr) (a : Nat) (B : Option Addr) (b : Nat) (C : Option Addr) (c : Nat),
  vs = [.int .i64 i.kind, .int .i64 i.n, .int .i64 i.cap, .slice A i.weight.length a, .slice B i.value.length b, .slice C i.cost.length c] ∧
  (RdI w A i.weight ∧ Ints i.weight ∧ i.weight.length ≤ a ∧ a ≤ maxLen) ∧ (RdI w B i.value ∧ Ints i.value ∧ i.value.length ≤ b ∧ b ≤ maxLen) ∧ (RdE 1 RInts w C i.cost ∧ i.cost.length ≤ c ∧ c ≤ maxLen)
theorem RInst.ext {w w' : World} {vs : List Value} {i : InstP} (h : RInst w vs i) (x : Ext w w') : RInst w' vs i := by
  obtain ⟨A, a, B, b, C, c, rfl, ⟨h1, h2⟩, ⟨h3, h4⟩, ⟨h5, h6⟩⟩ := h
  exact ⟨A, a, B, b, C, c, rfl, ⟨h1.ext x, h2⟩, ⟨h3.ext x, h4⟩, ⟨h5.ext x fun _ _ h => h.ext x, h6⟩⟩
def InstOk (i : InstP) : Prop := (-9223372036854775808 ≤ i.kind ∧ i.kind ≤ 9223372036854775807) ∧ (-9223372036854775808 ≤ i.n ∧ i.n ≤ 9223372036854775807) ∧ (-9223372036854775808 ≤ i.cap ∧ i.cap ≤ 9223372036854775807)
section
variable {H : Type} {enc : TypeId × Value → H} {W : World}
theorem cells_inst : Tryd.prog.cellsOf 25 = 6 := by kernel_rfl
theorem cells_is : Tryd.prog.cellsOf 22 = 1 := by kernel_rfl
theorem cells_iss : Tryd.prog.cellsOf 23 = 1 := by kernel_rfl
end
end Go.Proofs.YtleckhbmciiooaaDoor
namespace Go.Proofs.YtleckhbmciiooaaDoor
open Go.RowKit Go.ChangeShapes Go.WideShapes Go.ChangeAt Go.Deep

end Go.Proofs.YtleckhbmciiooaaDoor
namespace Go.Proofs.YtleckhbmciiooaaDoor
open Go.RowKit Go.ChangeShapes Go.WideShapes Go.ChangeAt Go.Deep

/-- the cells us are these rows, each of the call's own -/
def RowsO (w : World) (base : Nat) (us : List Value) (rows : List (List Int)) : Prop :=
  us.length = rows.length ∧ ∀ (i : Nat) (r : List Int), rows[i]? = some r → ∃ (A : Option Addr) (c : Nat), us[i]? = some (.slice A r.length c) ∧ OwI w base A c r
section
variable {w w' : World} {base : Nat} {us : List Value} {rows : List (List Int)}
theorem RowsO.nil (w : World) (base : Nat) : RowsO w base [] [] := ⟨rfl, fun i r h => by simp at h⟩
theorem RowsO.ext (h : RowsO w base us rows) (hx : Ext w w') : RowsO w' base us rows :=
  ⟨h.1, fun i r hr => by obtain ⟨A, c, h1, h3⟩ := h.2 i r hr; exact ⟨A, c, h1, h3.ext hx⟩⟩
theorem RowsO.more {base' : Nat} (h : RowsO w base us rows) (hb : base' ≤ base) : RowsO w base' us rows :=
  ⟨h.1, fun i r hr => by obtain ⟨A, c, h1, h3⟩ := h.2 i r hr; exact ⟨A, c, h1, h3.more hb⟩⟩
theorem RowsO.modT {base' : Nat} {ts : List TypeId} (h : RowsO w base us rows) (k : ModT base' ts w w') (ht : 3 ∉ ts) : RowsO w' base us rows :=
  ⟨h.1, fun i r hr => by obtain ⟨A, c, h1, h3⟩ := h.2 i r hr; exact ⟨A, c, h1, h3.modT k ht⟩⟩
theorem RowsO.snoc (h : RowsO w base us rows) {r : List Int} {A : Option Addr} {c : Nat} (ho : OwI w base A c r) : RowsO w base (us ++ [.slice A r.length c]) (rows ++ [r]) := by
  obtain ⟨h1, h2⟩ := h
  refine ⟨by simp [h1], fun i q hq => ?_⟩
  by_cases hi : i < rows.length
  · rw [List.getElem?_append_left hi] at hq
    obtain ⟨A', c', q1, q3⟩ := h2 i q hq
    exact ⟨A', c', by rw [List.getElem?_append_left (by omega)]; exact q1, q3⟩
  · rw [List.getElem?_append_right (by omega)] at hq
    obtain ⟨h0, hq⟩ := List.getElem?_eq_some_iff.1 hq
    have : i = rows.length := by simp at h0; omega
    subst this
    simp at hq
    subst hq
    exact ⟨A, c, by rw [List.getElem?_append_right (by omega), h1]; simp, ho⟩
end
/-- no two of these cells are rows of the same block -/
def RowsD (us : List Value) : Prop := ∀ (i j : Nat) (vi vj : Value), i < j → us[i]? = some vi → us[j]? = some vj → ∀ b, vi.ownBlock = some b → vj.ownBlock ≠ some b
theorem RowsD.nil : RowsD [] := fun i j vi vj _ h => by simp at h
theorem RowsD.snoc {w W : World} {base : Nat} {us : List Value} {rows : List (List Int)} {A : Option Addr} {c : Nat} {r : List Int} (h : RowsD us) (hR : RowsO w base us rows) (ho : OwI W w.heap.size A c r) : RowsD (us ++ [.slice A r.length c]) := by
  intro i j vi vj hij hi hj b hb e
  by_cases hjl : j < us.length
  · rw [List.getElem?_append_left hjl] at hj
    rw [List.getElem?_append_left (by omega)] at hi
    exact h i j vi vj hij hi hj b hb e
  · rw [List.getElem?_append_right (by omega)] at hj
    obtain ⟨h0, hj⟩ := List.getElem?_eq_some_iff.1 hj
    have hj' : j = us.length := by simp at h0; omega
    subst hj'
    simp at hj
    subst hj
    rw [List.getElem?_append_left hij] at hi
    obtain ⟨r', hr'⟩ : ∃ r', rows[i]? = some r' := ⟨rows[i]'(by rw [← hR.1]; exact hij), List.getElem?_eq_getElem _⟩
    obtain ⟨A', c', q1, q2⟩ := hR.2 i r' hr'
    rw [hi] at q1
    obtain rfl := Option.some.inj q1
    rw [ownBlock_bl] at hb e
    have h1 := (q2.lt b hb).2
    have h2 := (ho.lt b e).1
    omega
theorem OwV.grownT {w w' : World} {base size n c : Nat} {E : TypeId} {A : Option Addr} {xs : List Value} (h : OwV w base E size A n c xs) (hg : w.grownBy w' (bl A)) : ModT base [E] w w' := by
  refine Mod.grown hg fun g hA => ?_
  rcases h.cases with ⟨rfl, _⟩ | ⟨g', cur, rfl, hb, hh, _⟩
  · simp [bl] at hA
  · simp [bl] at hA
    subst hA
    exact ⟨hb, cur, _, hh, by simp⟩
theorem keepEL {W W' : World} (x : Ext W W') {b o : Nat} {v : Value} (hb : b < W.heap.size) (hc : W.cell? ⟨b, o, none⟩ = some v) : W'.cell? ⟨b, o, none⟩ = some v := (x.cells.1 _ o hb).trans hc
/-- a problem of the call's own -/
def InstO (w : World) (base : Nat) (vs : List Value) (i : InstP) : Prop := ∃ (A : Option Addr) (a : Nat) (B : Option Addr) (b : Nat) (C : Option Addr) (c : Nat) (us : List Value),
  vs = [.int .i64 i.kind, .int .i64 i.n, .int .i64 i.cap, .slice A i.weight.length a, .slice B i.value.length b, .slice C i.cost.length c] ∧
  OwI w base A a i.weight ∧ OwI w base B b i.value ∧ OwV w base 22 1 C i.cost.length c us ∧ RowsO w base us i.cost
section
variable {P : Program} {ops : Array Oper} {i : Nat} {op : Op} {t : TypeId} {d : Option Tmp} {a : Act} {w w' : World} {K : Act → World → Prop} {Q : Exit → Act → World → Prop}
end
/-- the six cells of a block, all stored -/
theorem set6 {w : World} {g base : Nat} {t : TypeId} {a0 a1 a2 a3 a4 a5 : Value} (h : Blk w g t #[a0, a1, a2, a3, a4, a5]) (hb : base ≤ g) (u0 u1 u2 u3 u4 u5 : Value) :
    Blk ((((((w.setCell ⟨g, 0, none⟩ u0).setCell ⟨g, 1, none⟩ u1).setCell ⟨g, 2, none⟩ u2).setCell ⟨g, 3, none⟩ u3).setCell ⟨g, 4, none⟩ u4).setCell ⟨g, 5, none⟩ u5) g t #[u0, u1, u2, u3, u4, u5] ∧
    ModT base [t] w ((((((w.setCell ⟨g, 0, none⟩ u0).setCell ⟨g, 1, none⟩ u1).setCell ⟨g, 2, none⟩ u2).setCell ⟨g, 3, none⟩ u3).setCell ⟨g, 4, none⟩ u4).setCell ⟨g, 5, none⟩ u5) := by
  have h0 := h.set 0 u0
  have h1 := h0.set 1 u1
  have h2 := h1.set 2 u2
  have h3 := h2.set 3 u3
  have h4 := h3.set 4 u4
  have h5 := h4.set 5 u5
  exact ⟨h5, (((((ModT.set w h (by simp) hb 0 u0).tr (ModT.set _ h0 (by simp) hb 1 u1)).tr (ModT.set _ h1 (by simp) hb 2 u2)).tr (ModT.set _ h2 (by simp) hb 3 u3)).tr (ModT.set _ h3 (by simp) hb 4 u4)).tr (ModT.set _ h4 (by simp) hb 5 u5)⟩
theorem row_info : (Tryd.prog.info? 22).map (fun i => (i.zero, i.size, i.bytes)) = some (some (.slice none 0 0), 1, 24) := by kernel_rfl
end Go.Proofs.YtleckhbmciiooaaDoor
