/-
  Common ground of this seat's proofs: extensions of a world, what a slice reads as, plain list lemmas, the frame of a law's proof. No function of the program is named here.
-/
import Derived.Test.YtleckhbmciiooaaRows
import Derived.WalkKit
import Derived.ProofKit
import Derived.OpenShut
import Derived.BigQuiet
import Derived.Deep.QuietTactic
import Derived.Deep.Slices
import Derived.Lib.Hide
import Derived.Lib.SmallJoins
import Derived.Deep.RegionHeld3
import Derived.StillTailTactics
import Derived.Deep.RegionLaw
import Derived.WalkSpells
import Derived.Deep.DeepFit
import Derived.JoinedCond
namespace Go.Proofs.Ytleckhbmciiooaa
open Go.RowKit Go.ChangeShapes Go.WideShapes Go.ChangeAt

/-- nothing that was there has turned -/
abbrev Ext (w w' : World) : Prop := Below w.heap.size w w'
theorem Ext.rf (w : World) : Ext w w := Below.refl _ _
theorem Ext.tr {a b c : World} (h : Ext a b) (k : Ext b c) : Ext a c := Below.trans h (Below.mono k h.size)
theorem Ext.drewN {a b : World} (h : Ext a b) (n : Nat) : Ext a (b.drewN n) := ⟨h.os, h.tape, h.output, h.size, h.block⟩
theorem Ext.drew {a b : World} (h : Ext a b) : Ext a b.drew := Below.drew h
theorem Ext.alloc {a b : World} (h : Ext a b) (o : Obj) : Ext a (b.alloc o) := Below.alloc h h.size o
theorem Ext.setNew {a b : World} (h : Ext a b) {p : Addr} (hp : a.heap.size ≤ p.block) (u : Value) : Ext a (b.setCell p u) := Below.setCell h hp u
theorem Ext.cells {W w1 : World} (hb : Ext W w1) : (∀ b o, b < W.heap.size → w1.cell? ⟨b, o, none⟩ = W.cell? ⟨b, o, none⟩) ∧ (∀ b o, b < W.heap.size → w1.frozen? ⟨b, o, none⟩ = W.frozen? ⟨b, o, none⟩) :=
  ⟨fun b o h => hb.cell (p := ⟨b, o, none⟩) h, fun b o h => hb.frozen (p := ⟨b, o, none⟩) h⟩

/-- the slice with head A reads as the ints xs -/
def RdI (w : World) (A : Option Addr) (xs : List Int) : Prop :=
  xs = [] ∨ ∃ b off, A = some ⟨b, off, none⟩ ∧ b < w.heap.size ∧ ∀ j x, xs[j]? = some x → w.cell? ⟨b, off + j, none⟩ = some (.int .i64 x)
theorem RdI.at {w : World} {A : Option Addr} {xs : List Int} (h : RdI w A xs) {k : Nat} (hk : k < xs.length) :
    ∃ b off x, A = some ⟨b, off, none⟩ ∧ b < w.heap.size ∧ w.cell? ⟨b, off + k, none⟩ = some (.int .i64 x) ∧ Hid (xs[k]? = some x) ∧ Hid (xs.drop k = x :: xs.drop (k + 1)) := by
  rcases h with rfl | ⟨b, off, rfl, hb, hc⟩
  · simp at hk
  · have e : xs[k]? = some xs[k] := List.getElem?_eq_getElem hk
    exact ⟨b, off, xs[k], rfl, hb, hc k _ e, e, List.drop_eq_getElem_cons hk⟩
theorem RdI.ext {w w' : World} {A : Option Addr} {xs : List Int} (h : RdI w A xs) (hb : Ext w w') : RdI w' A xs := by
  rcases h with rfl | ⟨b, off, rfl, hb', hc⟩
  · exact .inl rfl
  · exact .inr ⟨b, off, rfl, by have := hb.size; omega, fun j x hj => by rw [hb.cell hb']; exact hc j x hj⟩
theorem RdI.take {w : World} {A : Option Addr} {xs : List Int} (h : RdI w A xs) (n : Nat) : RdI w A (xs.take n) := by
  rcases h with rfl | ⟨b, off, rfl, hb', hc⟩
  · exact .inl (by simp)
  · exact .inr ⟨b, off, rfl, hb', fun j x hj => hc j x (by rw [List.getElem?_take] at hj; split at hj <;> simp_all)⟩

/-- block g is just these cells -/
def Blk (w : World) (g : Nat) (t : TypeId) (cs : Array Value) : Prop := w.heap[g]? = some (.cells cs t (0, 0))
section
variable {w w' : World} {g : Nat} {t : TypeId} {cs : Array Value}
theorem Blk.lt (h : Blk w g t cs) : g < w.heap.size := (Array.getElem?_eq_some_iff.1 h).1
theorem Blk.cell (h : Blk w g t cs) (i : Nat) : w.cell? ⟨g, i, none⟩ = cs[i]? := cell_of_row w g i cs t (0, 0) h
theorem Blk.free (h : Blk w g t cs) (i : Nat) : w.frozen? ⟨g, i, none⟩ = false := by
  unfold Blk at h
  simp [World.frozen?, h]
theorem Blk.new (h : g = w.heap.size) : Blk (w.alloc (.cells cs t)) g t cs := by subst h; exact heap_alloc_new w _
theorem Blk.drew (h : Blk w g t cs) : Blk w.drew g t cs := h
theorem Blk.drewN (h : Blk w g t cs) (n : Nat) : Blk (w.drewN n) g t cs := h
theorem Blk.alloc (h : Blk w g t cs) (o : Obj) : Blk (w.alloc o) g t cs := (Below.heap_alloc w o g h.lt).trans h
theorem Blk.set (h : Blk w g t cs) (i : Nat) (u : Value) : Blk (w.setCell ⟨g, i, none⟩ u) g t (cs.setIfInBounds i u) := by
  unfold Blk at h ⊢
  simp [World.setCell, Array.getElem?_modify, h]
theorem Blk.far (h : Blk w g t cs) {p : Addr} (hp : g ≠ p.block) (u : Value) : Blk (w.setCell p u) g t cs := (Below.heap_setCell w p u g hp).trans h
theorem Blk.ext (h : Blk w g t cs) (hb : Ext w w') : Blk w' g t cs := (hb.block g h.lt).trans h
theorem Blk.below {B : Nat} (h : Blk w g t cs) (hb : Below B w w') (hg : g < B) : Blk w' g t cs := (hb.block g hg).trans h
theorem Blk.ne {g' : Nat} {t' : TypeId} {cs' : Array Value} (h : Blk w g t cs) (h' : Blk w g' t' cs') (hne : t ≠ t') : g ≠ g' := by
  rintro rfl
  unfold Blk at h h'
  rw [h] at h'
  injection h' with h'
  injection h' with _ ht
  exact hne ht
theorem Blk.same {cs' : Array Value} {t' : TypeId} (h : Blk w g t cs) (h' : Blk w g t' cs') : cs = cs' := by
  unfold Blk at h h'
  rw [h] at h'
  injection h' with h'
  injection h' with hc
end
theorem RdI.blk {w : World} {b : Nat} {cs : Array Value} {t : TypeId} {xs : List Int} (h : Blk w b t cs) (hx : cs.toList = xs.map (Value.int .i64)) : RdI w (some ⟨b, 0, none⟩) xs := by
  refine .inr ⟨_, _, rfl, h.lt, fun j x hj => ?_⟩
  rw [h.cell]
  have : cs.toList[0 + j]? = some (.int .i64 x) := by rw [hx]; simp [hj]
  simpa using this
/-- each is an int -/
def Ints (xs : List Int) : Prop := ∀ x ∈ xs, -9223372036854775808 ≤ x ∧ x ≤ 9223372036854775807
theorem zero_le_maxLen : 0 ≤ maxLen := by simp only [maxLen]; omega
theorem Ints.nil : Ints [] := fun x hx => absurd hx List.not_mem_nil
theorem Ints.of_wf {xs : List Int} (h : ∀ n ∈ xs, (Lit.int .i64 n).wf = true) : Ints xs := fun n hn => by
  simpa [Lit.wf, IntKind.min, IntKind.max, IntKind.signed, IntKind.bits] using h n hn
theorem Ints.take {xs : List Int} (h : Ints xs) (n : Nat) : Ints (xs.take n) := fun x hx => h x (List.mem_of_mem_take hx)
theorem Ints.get {xs : List Int} (h : Ints xs) {k : Nat} {x : Int} (hk : xs[k]? = some x) : -9223372036854775808 ≤ x ∧ x ≤ 9223372036854775807 := h x (List.mem_of_getElem? hk)

theorem drop_nil {α : Type} {xs : List α} {k : Nat} (h : xs.length ≤ k) : Hid (xs.drop k = []) := List.drop_of_length_le h
theorem drop_cons {α : Type} {xs : List α} {k : Nat} (h : k < xs.length) : ∃ x, Hid (xs[k]? = some x) ∧ Hid (xs.drop k = x :: xs.drop (k + 1)) :=
  ⟨xs[k], List.getElem?_eq_getElem h, List.drop_eq_getElem_cons h⟩

/-- x[:min(len(x), m)]: the walk's own spelling of the length -/
theorem cut_min {w : World} {A : Option Addr} {xs : List Int} (m : Nat) (h : RdI w A xs) (hi : Ints xs) : ∃ ps : List Int, RdI w A ps ∧ Ints ps ∧ ps.length ≤ m ∧ ps.length ≤ xs.length ∧ Hid (ps = xs.take m) ∧ (if (m : Int) < (xs.length : Int) then (m : Int) else (xs.length : Int)) = (ps.length : Int) := by
  refine ⟨xs.take m, h.take m, hi.take m, List.length_take_le _ _, by simp only [List.length_take]; omega, rfl, ?_⟩
  simp only [List.length_take]
  split <;> omega
theorem getD_some {α : Type} {xs : List α} {k : Nat} {x d : α} (h : xs[k]? = some x) : xs.getD k d = x := by simp [List.getD, h]
theorem ret_i {k : IntKind} {a b : Int} (h : a = b) : Ending.returned (.int k a) = .returned (.int k b) := by rw [h]
theorem ret_b {a b : Bool} (h : a = b) : Ending.returned (.bool a) = .returned (.bool b) := by rw [h]

/-! the frame of a law's proof -/
theorem own : ownKnob Try.prog.godebug = none := by kernel_rfl
theorem laidOut : laidOutB Try.prog = true := by kernel_rfl
theorem u_bool : Try.prog.underlying 4 = some .bool := Try.underlying4
theorem cells_int : Try.prog.cellsOf 3 = 1 := by kernel_rfl

theorem readable_of {ts : List TypeId} (h : ts.all (fun t => Try.prog.readableRec t && decide (t < Try.prog.types.size)) = true) : ∀ t ∈ ts, Try.prog.readableRec t = true ∧ t < Try.prog.types.size := fun t ht => by
  have := List.all_eq_true.1 h t ht
  simpa using this
theorem int_bd {x : Int} (h : (Lit.int .i64 x).wf = true) : -9223372036854775808 ≤ x ∧ x ≤ 9223372036854775807 := by
  simpa [Lit.wf, IntKind.min, IntKind.max, IntKind.signed, IntKind.bits] using h
section
variable {H : Type} {enc : TypeId × Value → H}
theorem trodAll_ext {W W' : World} (hb : Ext W W') : ∀ {ts : List TypeId} {vs : List Value} {ds : List (DataW H)} {p : List MemPlace}, (∀ t ∈ ts, Try.prog.readableRec t = true ∧ t < Try.prog.types.size) →
    DataW.TrodAll enc Try.prog W 0 (fun _ => true) true ts vs ds p → (∀ x ∈ p, x.block < W.heap.size) → DataW.TrodAll enc Try.prog W' 0 (fun b => decide (b < W.heap.size)) true ts vs ds p
  | [], [], [], _, _, h, _ => by simpa [DataW.TrodAll] using h
  | t :: ts, v :: vs, d :: ds, _, hr, h, hlt => by
    obtain ⟨p, q, h0, h1, rfl⟩ := h
    exact ⟨p, q, Below.trod laidOut (hr t (by simp)).1 (hr t (by simp)).2 h0 hb (fun x hx => hlt x (by simp [hx])), trodAll_ext hb (fun t ht => hr t (by simp [ht])) h1 (fun x hx => hlt x (by simp [hx])), rfl⟩
  | [], _ :: _, _, _, _, h, _ => by simp [DataW.TrodAll] at h
  | [], [], _ :: _, _, _, h, _ => by simp [DataW.TrodAll] at h
  | _ :: _, [], _, _, _, h, _ => by simp [DataW.TrodAll] at h
  | _ :: _, _ :: _, [], _, _, h, _ => by simp [DataW.TrodAll] at h
theorem post_law {f : Func} {s : ChangeSpec} {W W' : World} {args : Array Value} {ds gs : List (DataW H)} {before : List MemPlace}
    (hW : DataW.Whole enc Try.prog f.params.toList s.vars false W args.toList ds gs before) (hvars : s.vars = []) (hr : f.resultTypes = #[4])
    (hs : (s.fn H (ds ++ gs)).results = [.lit (.bool true)]) (ha : (s.fn H (ds ++ gs)).args = ds) (hv : (s.fn H (ds ++ gs)).vars = [])
    (hp : ∀ t ∈ f.params.toList, Try.prog.readableRec t = true ∧ t < Try.prog.types.size) (hb : Ext W W') :
    s.post enc Try.prog f false true false false W args (.bool true) W' := by
  have hW' := hW
  obtain ⟨p, q, hA, hV, rfl, hz, hn⟩ := hW
  rw [hvars] at hV
  obtain ⟨rfl, rfl⟩ := trodVars_none hV
  have hlt : ∀ x ∈ p, x.block < W.heap.size := fun x hx => by simpa using hW'.lt x (by simp [hx])
  refine ⟨ds, [], p ++ [], [], p, [], hW', ?_, ?_, ?_, hb.frame _, fun h => by cases h⟩
  · rw [hs, hr]
    exact trodAll_cons_mk (shut_bool u_bool _) trodAll_mk0
  · rw [ha]
    exact trodAll_ext hb hp hA hlt
  · rw [hv, hvars]
    simp [DataW.TrodVars]


set_option maxRecDepth 100000 in
theorem open_RdI {W : World} {base : Nat} {v : Value} {d : DataW H} {p : List MemPlace} (hd : DataW.Trod enc Try.prog W 0 (fun _ => true) true 22 v d p) (hv : Value.okWide Try.prog W .any base 22 v) :
    ∃ A xs c, v = .slice A xs.length c ∧ RdI W A xs ∧ Ints xs ∧ xs.length ≤ c ∧ c ≤ maxLen := by
  obtain ⟨a0, len, cap, rfl⟩ := okWide_slice Try.underlying22 hv
  obtain ⟨fuel, hf⟩ := hd
  rcases open_ints Try.underlying22 Try.underlying3 cells_int hf with ⟨hcs, hx⟩ | ⟨a, len', cap', zs, hcs, _, hl, hm, hz, hx, hcell, hwz⟩
  · simp [Value.cells] at hcs
    obtain ⟨rfl, rfl, rfl⟩ := hcs
    refine ⟨none, [], 0, rfl, .inl rfl, Ints.nil, Nat.le_refl 0, zero_le_maxLen⟩
  · simp [Value.cells] at hcs
    obtain ⟨rfl, rfl, rfl⟩ := hcs
    simp only [if_true] at hz
    have hlen : (zs.take len).length = len := by simp; omega
    refine ⟨some a, zs.take len, cap, by rw [hlen], ?_, fun x hx => (Ints.of_wf hwz) x (List.mem_of_mem_take hx), by omega, hm⟩
    by_cases h0 : len = 0
    · subst h0
      exact .inl (by simp)
    · obtain ⟨b, off, spot⟩ := a
      have hspot : spot = none := by simpa [Addr.add] using World.cell?_spot (hcell 0 (by omega))
      subst hspot
      refine .inr ⟨b, off, rfl, World.block_lt_of_cell? W _ (hcell 0 (by omega)), fun j x hj => ?_⟩
      have hj' : j < len := by
        have := (List.getElem?_eq_some_iff.1 hj).1
        omega
      rw [← add_plain, hcell j (by omega)]
      rw [List.getElem?_take, if_pos hj'] at hj
      simp [List.getD, hj]
end
end Go.Proofs.Ytleckhbmciiooaa
