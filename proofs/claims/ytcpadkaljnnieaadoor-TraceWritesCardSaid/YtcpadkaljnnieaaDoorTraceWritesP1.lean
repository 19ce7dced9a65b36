/-
  Common ground of this seat's proofs: extensions of a world, what a slice reads as, plain list lemmas, the frame of a law's proof. No function of the program is named here.
  Texts as lists of bytes, and their joining.
  Numbers at the beginning of a text, plainly (layer 3).
  Cutting at a byte, plainly.
  Entries of a trace, their lines, and back (layer 33), plainly.
  digit.Kind, run, Read at a text of plain signs (below 128).
  digit.Read at the beginning of a text of plain signs.
  The library function lies in this program: its bodies, its types, number by number.
  The library function lies in this program: its bodies, its types, number by number.
  The library function lies in this program: its bodies, its types, number by number.
  The library function lies in this program: its bodies, its types, number by number.
  The library function lies in this program: its bodies, its types, number by number.
  Slices of ints that a call itself makes: what they own, how append and make turn them.
  Slices of whatever element type, cell by cell: what they read as, what a call owns, how append and make turn them.
  What a call turns, told by the element types of the blocks that it may write.
  strings.Join of a slice of the call's own.
  strings.Cut, Split, CutPrefix, TrimPrefix at a text of one byte.
  Arguments opened: slices of whatever elements, each of so many cells, that read as a word says.
  A statement whose order Go leaves open, by an invariant: what each operation yields, whenever it comes; nothing that another one makes is undone.
  Steps of a region that draws its order, each operation by itself: loads, indexes, literals; values known ahead, and values told by a word.
  A region of which some operations are walked in whatever order, all that is left waiting for them, through whatever chain.
  The document's cut: a list of its own, no longer than some.
    The document's Copy of a problem: lists of its own, no longer than some.
  The document's number, alone.
    The program's number and size, alone.
    Problems in form, plainly: the first bad one of a list of numbers.
    The program's items.
    The program's rows: each number of a square by itself, and none from a city to itself.
    slices.IndexFunc and ContainsFunc, at a list of ints and at a list of rows, with whatever predicate that turns nothing.
    The program's shape of a problem, and Check whole.
  trace: kind, number, short.
  The library function lies in this program: its bodies, its types, number by number.
  Numbers as digits: strconv.Itoa, digit.Write.
  The document's entries as an argument: six cells each; copied; as a list of the program's own entries.
  trace: an entry's line.
  What is written of entries can be read: their lines, plainly.
  The methods of strings.Builder lie in this program: their bodies, their types, number by number.
  strings.Builder, as a text that grows: WriteString, WriteByte, String.
  trace.Write: entries as lines.
  The document's Write of a number (kurganref03), digit by digit.
-/
import Derived.Test.YtcpadkaljnnieaaDoorRows
import Derived.WalkKit
import Derived.ProofKit
import Derived.OpenShut
import Derived.BigQuiet
import Derived.Deep.QuietTactic
import Derived.Deep.Slices
import Derived.Lib.Hide
import Derived.Lib.SmallJoins
import Derived.Deep.RegionHeld3
import Derived.StillTailTactics
import Derived.Deep.RegionLaw
import Derived.WalkSpells
import Derived.Deep.DeepFit
import Derived.JoinedCond
import Derived.Lib.ItoaNum
import Derived.Lib.Join
import Derived.Lib.SplitLaws
import Derived.Lib.IndexBytes
import Derived.Lib.OthersKept
import Derived.Shelf.Lays
import Derived.Shelf.Strings.Split
import Derived.Shelf.Strings.OnBuilder
import Derived.Maps.AppendAt
import Derived.Shelf.Strings.Cut
import Derived.Shelf.Small.Wraps
import Derived.Shelf.Strings.Prefix
import Derived.RegionTactic
import Derived.Deep.DeepCutAuto
import Derived.Shelf.Abstract
import Derived.Shelf.LaysM
import Derived.Shelf.Strconv.Itoa3
import Derived.Lib.AppendIntMem
import Derived.Lib.ItoaLen
import Derived.Shelf.Strings.BuilderK
import Derived.Laws.BytesArg
namespace Go.Proofs.YtcpadkaljnnieaaDoor
open Go.RowKit Go.ChangeShapes Go.WideShapes Go.ChangeAt

/-- nothing that was there has turned -/
abbrev Ext (w w' : World) : Prop := Below w.heap.size w w'
theorem Ext.rf (w : World) : Ext w w := Below.refl _ _
theorem Ext.tr {a b c : World} (h : Ext a b) (k : Ext b c) : Ext a c := Below.trans h (Below.mono k h.size)
theorem Ext.drewN {a b : World} (h : Ext a b) (n : Nat) : Ext a (b.drewN n) := ⟨h.os, h.tape, h.output, h.size, h.block⟩
theorem Ext.drew {a b : World} (h : Ext a b) : Ext a b.drew := Below.drew h
theorem Ext.alloc {a b : World} (h : Ext a b) (o : Obj) : Ext a (b.alloc o) := Below.alloc h h.size o
theorem Ext.setNew {a b : World} (h : Ext a b) {p : Addr} (hp : a.heap.size ≤ p.block) (u : Value) : Ext a (b.setCell p u) := Below.setCell h hp u
theorem Ext.cells {W w1 : World} (hb : Ext W w1) : (∀ b o, b < W.heap.size → w1.cell? ⟨b, o, none⟩ = W.cell? ⟨b, o, none⟩) ∧ (∀ b o, b < W.heap.size → w1.frozen? ⟨b, o, none⟩ = W.frozen? ⟨b, o, none⟩) :=
  ⟨fun b o h => hb.cell (p := ⟨b, o, none⟩) h, fun b o h => hb.frozen (p := ⟨b, o, none⟩) h⟩
/-- block g is just these cells -/
def Blk (w : World) (g : Nat) (t : TypeId) (cs : Array Value) : Prop := w.heap[g]? = some (.cells cs t (0, 0))
section
variable {w w' : World} {g : Nat} {t : TypeId} {cs : Array Value}
theorem Blk.lt (h : Blk w g t cs) : g < w.heap.size := (Array.getElem?_eq_some_iff.1 h).1
theorem Blk.cell (h : Blk w g t cs) (i : Nat) : w.cell? ⟨g, i, none⟩ = cs[i]? := cell_of_row w g i cs t (0, 0) h
theorem Blk.free (h : Blk w g t cs) (i : Nat) : w.frozen? ⟨g, i, none⟩ = false := by
  unfold Blk at h
  simp [World.frozen?, h]
theorem Blk.new (h : g = w.heap.size) : Blk (w.alloc (.cells cs t)) g t cs := by subst h; exact heap_alloc_new w _
theorem Blk.drew (h : Blk w g t cs) : Blk w.drew g t cs := h
theorem Blk.drewN (h : Blk w g t cs) (n : Nat) : Blk (w.drewN n) g t cs := h
theorem Blk.alloc (h : Blk w g t cs) (o : Obj) : Blk (w.alloc o) g t cs := (Below.heap_alloc w o g h.lt).trans h
theorem Blk.set (h : Blk w g t cs) (i : Nat) (u : Value) : Blk (w.setCell ⟨g, i, none⟩ u) g t (cs.setIfInBounds i u) := by
  unfold Blk at h ⊢
  simp [World.setCell, Array.getElem?_modify, h]
theorem Blk.far (h : Blk w g t cs) {p : Addr} (hp : g ≠ p.block) (u : Value) : Blk (w.setCell p u) g t cs := (Below.heap_setCell w p u g hp).trans h
theorem Blk.ext (h : Blk w g t cs) (hb : Ext w w') : Blk w' g t cs := (hb.block g h.lt).trans h
theorem Blk.below {B : Nat} (h : Blk w g t cs) (hb : Below B w w') (hg : g < B) : Blk w' g t cs := (hb.block g hg).trans h
theorem Blk.same {cs' : Array Value} {t' : TypeId} (h : Blk w g t cs) (h' : Blk w g t' cs') : cs = cs' := by
  unfold Blk at h h'
  rw [h] at h'
  injection h' with h'
  injection h' with hc
end
theorem zero_le_maxLen : 0 ≤ maxLen := by simp only [maxLen]; omega
theorem drop_nil {α : Type} {xs : List α} {k : Nat} (h : xs.length ≤ k) : Hid (xs.drop k = []) := List.drop_of_length_le h
theorem getD_some {α : Type} {xs : List α} {k : Nat} {x d : α} (h : xs[k]? = some x) : xs.getD k d = x := by simp [List.getD, h]
theorem ret_i {k : IntKind} {a b : Int} (h : a = b) : Ending.returned (.int k a) = .returned (.int k b) := by rw [h]
theorem ret_b {a b : Bool} (h : a = b) : Ending.returned (.bool a) = .returned (.bool b) := by rw [h]

/-! the frame of a law's proof -/
theorem own : ownKnob Tryd.prog.godebug = none := by kernel_rfl
theorem laidOut : laidOutB Tryd.prog = true := by kernel_rfl
theorem u_bool : Tryd.prog.underlying 4 = some .bool := Tryd.underlying4
theorem cells_int : Tryd.prog.cellsOf 3 = 1 := by kernel_rfl
theorem readable_of {ts : List TypeId} (h : ts.all (fun t => Tryd.prog.readableRec t && decide (t < Tryd.prog.types.size)) = true) : ∀ t ∈ ts, Tryd.prog.readableRec t = true ∧ t < Tryd.prog.types.size := fun t ht => by
  have := List.all_eq_true.1 h t ht
  simpa using this
theorem int_bd {x : Int} (h : (Lit.int .i64 x).wf = true) : -9223372036854775808 ≤ x ∧ x ≤ 9223372036854775807 := by
  simpa [Lit.wf, IntKind.min, IntKind.max, IntKind.signed, IntKind.bits] using h
section
variable {H : Type} {enc : TypeId × Value → H}
theorem trodAll_ext {W W' : World} (hb : Ext W W') : ∀ {ts : List TypeId} {vs : List Value} {ds : List (DataW H)} {p : List MemPlace}, (∀ t ∈ ts, Tryd.prog.readableRec t = true ∧ t < Tryd.prog.types.size) →
    DataW.TrodAll enc Tryd.prog W 0 (fun _ => true) true ts vs ds p → (∀ x ∈ p, x.block < W.heap.size) → DataW.TrodAll enc Tryd.prog W' 0 (fun b => decide (b < W.heap.size)) true ts vs ds p
  | [], [], [], _, _, h, _ => by simpa [DataW.TrodAll] using h
  | t :: ts, v :: vs, d :: ds, _, hr, h, hlt => by
    obtain ⟨p, q, h0, h1, rfl⟩ := h
    exact ⟨p, q, Below.trod laidOut (hr t (by simp)).1 (hr t (by simp)).2 h0 hb (fun x hx => hlt x (by simp [hx])), trodAll_ext hb (fun t ht => hr t (by simp [ht])) h1 (fun x hx => hlt x (by simp [hx])), rfl⟩
  | [], _ :: _, _, _, _, h, _ => by simp [DataW.TrodAll] at h
  | [], [], _ :: _, _, _, h, _ => by simp [DataW.TrodAll] at h
  | _ :: _, [], _, _, _, h, _ => by simp [DataW.TrodAll] at h
  | _ :: _, _ :: _, [], _, _, h, _ => by simp [DataW.TrodAll] at h
theorem post_law {f : Func} {s : ChangeSpec} {W W' : World} {args : Array Value} {ds gs : List (DataW H)} {before : List MemPlace}
    (hW : DataW.Whole enc Tryd.prog f.params.toList s.vars false W args.toList ds gs before) (hvars : s.vars = []) (hr : f.resultTypes = #[4])
    (hs : (s.fn H (ds ++ gs)).results = [.lit (.bool true)]) (ha : (s.fn H (ds ++ gs)).args = ds) (hv : (s.fn H (ds ++ gs)).vars = [])
    (hp : ∀ t ∈ f.params.toList, Tryd.prog.readableRec t = true ∧ t < Tryd.prog.types.size) (hb : Ext W W') :
    s.post enc Tryd.prog f false true false false W args (.bool true) W' := by
  have hW' := hW
  obtain ⟨p, q, hA, hV, rfl, hz, hn⟩ := hW
  rw [hvars] at hV
  obtain ⟨rfl, rfl⟩ := trodVars_none hV
  have hlt : ∀ x ∈ p, x.block < W.heap.size := fun x hx => by simpa using hW'.lt x (by simp [hx])
  refine ⟨ds, [], p ++ [], [], p, [], hW', ?_, ?_, ?_, hb.frame _, fun h => by cases h⟩
  · rw [hs, hr]
    exact trodAll_cons_mk (shut_bool u_bool _) trodAll_mk0
  · rw [ha]
    exact trodAll_ext hb hp hA hlt
  · rw [hv, hvars]
    simp [DataW.TrodVars]
end
end Go.Proofs.YtcpadkaljnnieaaDoor
namespace Go.Proofs.YtcpadkaljnnieaaDoor
open Go.RowKit Go.ChangeShapes Go.WideShapes Go.ChangeAt Go.Deep

abbrev Txt := List UInt8
def txS (l : Txt) : Value := .string ⟨l.toArray⟩
theorem join_cons2 (a b : Txt) (l : List Txt) (s : Txt) : Lib.join (a :: b :: l) s = a ++ s ++ Lib.join (b :: l) s := by
  unfold Lib.join
  rw [List.intercalate_cons_cons]
end Go.Proofs.YtcpadkaljnnieaaDoor
namespace Go.Proofs.YtcpadkaljnnieaaDoor

def isD (b : UInt8) : Bool := decide (48 ≤ b.toNat) && decide (b.toNat ≤ 57)
def runD (s : Txt) : Txt := s.takeWhile isD
def valD (s : Txt) : Int := s.foldl (fun n b => n * 10 + ((b.toNat : Int) - 48)) 0
/-- the number of these digits, where it ends, the error -/
def readR (d : Txt) : Int × Int × Int :=
  if d = [] ∨ (1 < d.length ∧ d.head? = some 48) then (0, 0, 4)
  else if 18 < d.length then (0, 0, 5)
  else (valD d, d.length, 0)
def readD (s : Txt) : Int × Int × Int := readR (runD s)
/-- the kind of a sign -/
def kindC (r : Int) : Int :=
  if r = 32 ∨ r = 9 ∨ r = 10 ∨ r = 13 then 1 else if 48 ≤ r ∧ r ≤ 57 then 2
  else if (65 ≤ r ∧ r ≤ 90) ∨ (97 ≤ r ∧ r ≤ 122) then 3 else if r = 35 then 4 else 0
theorem kindC_dig (b : UInt8) : (kindC (b.toNat : Int) = 2) ↔ isD b = true := by
  unfold kindC isD
  simp only [Bool.and_eq_true, decide_eq_true_eq]
  constructor
  · intro h
    split at h
    · omega
    split at h
    · omega
    split at h
    · omega
    split at h <;> omega
  · intro h
    rw [if_neg (by omega), if_pos (by omega)]
theorem runD_len (s : Txt) : (runD s).length ≤ s.length := (List.takeWhile_prefix _).length_le
theorem runD_all {s : Txt} (h : ∀ b ∈ s, isD b = true) : runD s = s := by
  unfold runD
  induction s with
  | nil => rfl
  | cons b s ih => rw [List.takeWhile_cons, h b (by simp)]; simp [ih fun c hc => h c (by simp [hc])]
theorem runD_stop {s : Txt} {k : Nat} {b : UInt8} (h : ∀ j, j < k → ∀ c, s[j]? = some c → isD c = true) (hb : s[k]? = some b) (hn : isD b = false) : (runD s).length = k ∧ runD s = s.take k := by
  induction s generalizing k with
  | nil => simp at hb
  | cons a s ih =>
    cases k with
    | zero =>
      simp at hb
      subst hb
      simp [runD, hn]
    | succ k =>
      have ha := h 0 (by omega) a (by simp)
      obtain ⟨h1, h2⟩ := ih (k := k) (fun j hj c hc => h (j + 1) (by omega) c (by simpa using hc)) (by simpa using hb)
      unfold runD at h1 h2 ⊢
      rw [List.takeWhile_cons, ha]
      have hk := (List.getElem?_eq_some_iff.1 (show s[k]? = some b by simpa using hb)).1
      simp [h1, h2]
      omega
theorem runD_mem (s : Txt) : ∀ b ∈ runD s, isD b = true := by
  unfold runD
  induction s with
  | nil => intro b hb; simp at hb
  | cons a s ih =>
    intro b hb
    rw [List.takeWhile_cons] at hb
    cases ha : isD a with
    | false => rw [ha] at hb; simp at hb
    | true =>
      rw [ha] at hb
      rcases List.mem_cons.1 hb with rfl | h
      · exact ha
      · exact ih b h
theorem readR_cons (b : UInt8) (r : Txt) : readR (b :: r) = if 0 < r.length ∧ b = 48 then (0, 0, 4) else if 17 < r.length then (0, 0, 5) else (valD (b :: r), ((r.length + 1 : Nat) : Int), 0) := by
  unfold readR
  by_cases h : 0 < r.length ∧ b = 48
  · rw [if_pos h, if_pos (.inr ⟨by simpa using h.1, by simp [h.2]⟩)]
  · rw [if_neg h, if_neg (by
      rintro (e | ⟨h1, h2⟩)
      · cases e
      · exact h ⟨by simpa using h1, by simpa using h2⟩)]
    by_cases h3 : 17 < r.length
    · rw [if_pos h3, if_pos (by rw [List.length_cons]; omega)]
    · rw [if_neg h3, if_neg (by rw [List.length_cons]; omega)]
      rfl
theorem runD_take (s : Txt) : s.take (runD s).length = runD s := by
  unfold runD
  exact (List.prefix_iff_eq_take.1 (List.takeWhile_prefix _)).symm
theorem valD_snoc (s : Txt) (b : UInt8) : valD (s ++ [b]) = valD s * 10 + ((b.toNat : Int) - 48) := by unfold valD; rw [List.foldl_append]; rfl
theorem valD_range (s : Txt) (h : ∀ b ∈ s, isD b = true) : 0 ≤ valD s ∧ valD s < 10 ^ s.length := by
  have key : ∀ (l : Txt) (n : Int), (∀ b ∈ l, isD b = true) → 0 ≤ n → 0 ≤ l.foldl (fun n b => n * 10 + ((b.toNat : Int) - 48)) n ∧ l.foldl (fun n b => n * 10 + ((b.toNat : Int) - 48)) n < (n + 1) * 10 ^ l.length := by
    intro l
    induction l with
    | nil => intro n _ hn; simp; omega
    | cons b l ih =>
      intro n hb hn
      have h1 := hb b (by simp)
      unfold isD at h1
      simp only [Bool.and_eq_true, decide_eq_true_eq] at h1
      obtain ⟨h2, h3⟩ := ih (n * 10 + ((b.toNat : Int) - 48)) (fun c hc => hb c (by simp [hc])) (by omega)
      refine ⟨h2, Int.lt_of_lt_of_le h3 ?_⟩
      have hp : (0 : Int) ≤ 10 ^ l.length := Int.pow_nonneg (by decide)
      have : (n * 10 + ((b.toNat : Int) - 48) + 1) ≤ (n + 1) * 10 := by omega
      calc (n * 10 + ((b.toNat : Int) - 48) + 1) * 10 ^ l.length ≤ ((n + 1) * 10) * 10 ^ l.length := Int.mul_le_mul_of_nonneg_right this hp
        _ = (n + 1) * 10 ^ (l.length + 1) := by rw [Int.pow_succ, Int.mul_assoc, Int.mul_comm 10]
  have := key s 0 h (Int.le_refl _)
  simpa [valD] using this
end Go.Proofs.YtcpadkaljnnieaaDoor
namespace Go.Proofs.YtcpadkaljnnieaaDoor

def splitC (c : UInt8) : Txt → List Txt
  | [] => [[]]
  | b :: l => if b = c then [] :: splitC c l else
    match splitC c l with
    | [] => [[b]]
    | p :: r => (b :: p) :: r
def cutC (c : UInt8) : Txt → Txt × Txt × Bool
  | [] => ([], [], false)
  | b :: l => if b = c then ([], l, true) else (b :: (cutC c l).1, (cutC c l).2.1, (cutC c l).2.2)
theorem idx_cons_eq (c : UInt8) (l : Txt) : Lib.index (c :: l) [c] = 0 := by rw [Lib.index_one]; simp [Lib.indexByte]
theorem idx_cons_ne {b c : UInt8} (h : b ≠ c) (l : Txt) : Lib.index (b :: l) [c] = if Lib.index l [c] == -1 then -1 else Lib.index l [c] + 1 := by
  rw [Lib.index_one, Lib.index_one, Lib.indexByte]
  simp [h]
theorem idx_ge (c : UInt8) (l : Txt) : -1 ≤ Lib.index l [c] := by rw [Lib.index_one]; exact Lib.indexByte_ge l c
theorem split_k (c : UInt8) : ∀ s : Txt, Lib.splitK [c] 0 (s.count c) s = splitC c s
  | [] => rfl
  | b :: l => by
    have ih := split_k c l
    by_cases h : b = c
    · subst h
      rw [List.count_cons_self, Lib.splitK, idx_cons_eq, splitC, if_pos rfl, if_neg (by decide), ← ih]
      rfl
    · rw [List.count_cons_of_ne (by simpa using h), splitC, if_neg h, ← ih]
      cases hk : l.count c with
      | zero => simp [Lib.splitK]
      | succ k =>
        have hi := idx_ge c l
        rw [Lib.splitK, Lib.splitK, idx_cons_ne h]
        by_cases hm : Lib.index l [c] = -1
        · simp [hm]
        · obtain ⟨j, hj⟩ : ∃ j : Nat, Lib.index l [c] = j := ⟨(Lib.index l [c]).toNat, by omega⟩
          have e1 : (Lib.index l [c] == -1) = false := by simpa using hm
          have e2 : (((j : Int) + 1) == -1) = false := beq_eq_false_iff_ne.2 (by omega)
          rw [e1, hj]
          simp only [Bool.false_eq_true, if_false, e2]
          have e3 : ((j : Int) + 1).toNat = j + 1 := by omega
          have e4 : (j : Int).toNat = j := by omega
          rw [e3, e4]
          have e5 : ((j : Int) == -1) = false := beq_eq_false_iff_ne.2 (by omega)
          simp [e5]
theorem cut_c (c : UInt8) : ∀ s : Txt, Lib.cut s [c] = cutC c s
  | [] => by
    have : Lib.index [] [c] = -1 := by rw [Lib.index_one]; rfl
    simp [Lib.cut, this, cutC]
  | b :: l => by
    have ih := cut_c c l
    by_cases h : b = c
    · subst h
      unfold Lib.cut
      rw [idx_cons_eq]
      simp [cutC]
    · unfold Lib.cut at ih ⊢
      rw [idx_cons_ne h, cutC, if_neg h, ← ih]
      have hi := idx_ge c l
      by_cases hm : Lib.index l [c] = -1
      · simp [hm]
      · obtain ⟨j, hj⟩ : ∃ j : Nat, Lib.index l [c] = j := ⟨(Lib.index l [c]).toNat, by omega⟩
        rw [hj]
        have e5 : ((j : Int) == -1) = false := beq_eq_false_iff_ne.2 (by omega)
        have e3 : ((j : Int) + 1).toNat = j + 1 := by omega
        simp only [e5, Bool.false_eq_true, if_false]
        rw [if_pos (show (0 : Int) ≤ (j : Int) + 1 by omega), if_pos (show (0 : Int) ≤ (j : Int) by omega), e3]
        simp
end Go.Proofs.YtcpadkaljnnieaaDoor
namespace Go.Proofs.YtcpadkaljnnieaaDoor

structure Ent where
  worker : Int
  kind : Int
  cell : Int
  old : Int
  new : Int
  done : Bool
deriving DecidableEq
def tRead : Txt := [114, 101, 97, 100]
def tWrite : Txt := [119, 114, 105, 116, 101]
def tSwap : Txt := [115, 119, 97, 112]
def tAdd : Txt := [97, 100, 100]
def kindT (n : Int) : Txt := if n = 1 then tRead else if n = 2 then tWrite else if n = 3 then tSwap else if n = 4 then tAdd else []
def yesT (b : Bool) : Txt := if b then [121, 101, 115] else [110, 111]
/-- a pick that made no step -/
def Ent.quiet (e : Ent) : Bool := e.kind == 0 && e.cell == 0 && e.old == 0 && e.new == 0 && !e.done
/-- the words of an entry's line -/
def Ent.words (e : Ent) : List Txt :=
  if e.quiet then [Lib.itoa e.worker, [45]] else [Lib.itoa e.worker, kindT e.kind, Lib.itoa e.cell, Lib.itoa e.old, Lib.itoa e.new, yesT e.done]
/-- has it a line? -/
def Ent.fine (e : Ent) : Bool := decide (0 ≤ e.worker) && decide (e.worker < 16) && (e.quiet || (decide (1 ≤ e.kind) && decide (e.kind ≤ 4) && decide (0 ≤ e.cell)))
def Ent.line (e : Ent) : Txt × Bool := if e.fine then (Lib.join e.words [32], true) else ([], false)
/-- a whole word as a number; a word that is none: nought -/
def numT (w : Txt) : Int :=
  let r := readD (Lib.trimPrefix w [45])
  if r.2.2 ≠ 0 then 0 else if Lib.hasPrefix w [45] then -r.1 else r.1
def longT (w : Txt) : Bool := decide ((readD (Lib.trimPrefix w [45])).2.2 = 5)
def shortT (l : List Txt) : Bool := !(l.any longT)
def kindN (w : Txt) : Int := if w = tRead then 1 else if w = tWrite then 2 else if w = tSwap then 3 else if w = tAdd then 4 else 0
def entryE (w : List Txt) : Ent :=
  if w.length = 6 then ⟨numT (w.getD 0 []), kindN (w.getD 1 []), numT (w.getD 2 []), numT (w.getD 3 []), numT (w.getD 4 []), decide (w.getD 5 [] = [121, 101, 115])⟩
  else ⟨numT (w.getD 0 []), 0, 0, 0, 0, false⟩
/-- what the program reads in a line -/
def entryT (s : Txt) : Ent × Bool := let w := splitC 32 s; let e := entryE w; (e, e.line.2 && decide (e.line.1 = s) && shortT w)
theorem readR_zero {d : Txt} (h : ∀ b ∈ d, isD b = true) : 0 ≤ (readR d).1 ∧ (readR d).1 < 1000000000000000000 := by
  unfold readR
  split
  · exact ⟨Int.le_refl _, by decide⟩
  split
  · exact ⟨Int.le_refl _, by decide⟩
  · rename_i h2
    obtain ⟨a, b⟩ := valD_range d h
    refine ⟨a, Int.lt_of_lt_of_le b ?_⟩
    have t18 : ∀ m : Fin 19, (10 : Int) ^ (m : Nat) ≤ 1000000000000000000 := by decide
    exact t18 ⟨d.length, by omega⟩
theorem readD_range (s : Txt) : 0 ≤ (readD s).1 ∧ (readD s).1 < 1000000000000000000 := readR_zero (runD_mem s)
theorem trimP_mem (s p : Txt) : ∀ b ∈ Lib.trimPrefix s p, b ∈ s := by
  intro b hb
  unfold Lib.trimPrefix at hb
  split at hb
  · exact List.mem_of_mem_drop hb
  · exact hb
theorem trimP_len (s p : Txt) : (Lib.trimPrefix s p).length ≤ s.length := by
  unfold Lib.trimPrefix
  split
  · rw [List.length_drop]; omega
  · exact Nat.le_refl _
end Go.Proofs.YtcpadkaljnnieaaDoor
namespace Go.Proofs.YtcpadkaljnnieaaDoor
open Go.RowKit Go.ChangeShapes Go.WideShapes Go.ChangeAt Go.Deep Go.Lib

set_option maxRecDepth 100000 in
set_option maxHeartbeats 1000000 in
theorem kind_any (r : Int) (w : World) (h0 : 0 ≤ r) (h1 : r < 128) :
    Calls Tryd.prog 88 #[.int .i32 r] w fun e w' => e = .returned (.int .i64 (kindC r)) ∧ Ext w w' := by
  go_enter Tryd.func88, Tryd.ntmps88
  go_wp2_with (fail)
  all_goals (go_ret; refine ⟨?_, by (repeat (first | assumption | exact Ext.rf _ | apply Ext.drew | apply Ext.drewN | apply Ext.alloc))⟩; show Ending.returned (Value.int .i64 _) = _; refine congrArg (fun k => Ending.returned (Value.int .i64 k)) ?_; simp only [beq_iff_eq, beq_eq_false_iff_ne, decide_eq_true_eq, decide_eq_false_iff_not, ne_eq] at *; unfold kindC; repeat' (first | omega | split))
/-- a text of plain signs only -/
def Plain (s : Txt) : Prop := ∀ b ∈ s, b.toNat < 128
theorem Plain.at {s : Txt} (h : Plain s) (k : Nat) (hk : k < (⟨s.toArray⟩ : ByteArray).size) : ((⟨s.toArray⟩ : ByteArray)[k]'hk).toNat < 128 := h _ (by simp [ByteArray.getElem_eq_getElem_data])
theorem ext_iterAt {a w : World} (h : Ext a w) {k : Nat} (hk : a.heap.size ≤ k) (s : ByteArray) (pos : Nat) : Ext a (w.iterAt k s pos) := Lib.below_iterAt h hk s pos
theorem plain_at (s : Txt) (k : Nat) (hk : k < (⟨s.toArray⟩ : ByteArray).size) : s[k]? = some ((⟨s.toArray⟩ : ByteArray)[k]'hk) := by
  have h2 : k < s.length := by simpa [Lib.size_eq] using hk
  rw [List.getElem?_eq_getElem h2]
  simp [ByteArray.getElem_eq_getElem_data]
set_option maxRecDepth 100000 in
set_option maxHeartbeats 2000000 in
theorem run_any (l : Txt) (w : World) (hp : Plain l) (hl : l.length < 4294967281) :
    Calls Tryd.prog 70 #[.string ⟨l.toArray⟩] w fun e w' => e = .returned (.int .i64 ((runD l).length : Nat)) ∧ Ext w w' := by
  have hsz : (⟨l.toArray⟩ : ByteArray).size = l.length := by simp [Lib.size_eq]
  have hA : Hid (∀ (k : Nat) (hk : k < (⟨l.toArray⟩ : ByteArray).size), ((⟨l.toArray⟩ : ByteArray)[k]'hk).toNat < 128 ∧ l[k]? = some ((⟨l.toArray⟩ : ByteArray)[k]'hk)) := Lib.hid fun k hk => ⟨hp.at k hk, plain_at l k hk⟩
  have hH : Hid ((⟨l.toArray⟩ : ByteArray).size = l.length) := Lib.hid hsz
  have hr := Lib.hid (runD_all (s := l))
  generalize hs : (⟨l.toArray⟩ : ByteArray) = s at *
  have hK0 := World.iter_heap w s 0
  have hX0 : Ext w (w.iter s 0) := (Ext.rf w).alloc _
  go_enter Tryd.func70, Tryd.ntmps70
  go_wp2
  go_loopw [3, 4] (fun _ _ wr => ∃ pos : Nat, pos ≤ s.size ∧ wr.heap[w.heap.size]? = some (.stringIter s pos) ∧ Hid (∀ j, j < pos → ∀ c, l[j]? = some c → isD c = true) ∧ Ext w wr)
    (fun _ _ wr => s.size - wr.iterPos w.heap.size)
  case atStart => exact ⟨0, Nat.zero_le _, hK0, Lib.hid (fun j hj => absurd hj (Nat.not_lt_zero _)), hX0⟩
  case round =>
    obtain ⟨pos, hps, hk, hd, hx⟩ := hrel
    clear hK0 hX0
    by_cases hpl : pos < s.size
    · obtain ⟨h128, hc⟩ := hA.out pos hpl
      have hnext : ∀ ty, (Instr.next (.pointer (some ⟨w.heap.size, 0, none⟩)) true ty).run Tryd.prog wr = _ := fun ty => Lib.run_next_ascii_at wr w.heap.size s pos ty hk hpl h128
      have hk1 := Lib.iterAt_heap wr w.heap.size s pos (pos + 1) hk
      have hx1 : Ext w (wr.iterAt w.heap.size s (pos + 1)) := ext_iterAt hx (Nat.le_refl _) s (pos + 1)
      have hmu : wr.iterPos w.heap.size = pos := by simp [World.iterPos, hk]
      have KN := Lib.hid (fun (W : World) => kind_any ((s[pos]'hpl).toNat : Int) W (by omega) (by omega))
      have hkd := Lib.hid (kindC_dig (s[pos]'hpl))
      have hcH := Lib.hid hc
      clear hc
      generalize s[pos]'hpl = b at *
      generalize wr.iterAt w.heap.size s (pos + 1) = W1 at hnext hk1 hx1
      go_wp2_with (fail)
      refine (KN.out _).mono ?_
      rintro e W2 ⟨rfl, x2⟩
      have hk2 : W2.heap[w.heap.size]? = some (.stringIter s (pos + 1)) := (x2.block _ (Array.getElem?_eq_some_iff.1 hk1).1).trans hk1
      have hx2 : Ext w W2 := Ext.tr hx1 x2
      by_cases hD : kindC (b.toNat : Int) = 2
      · rw [hD]
        have hDH := Lib.hid (hkd.out.1 hD)
        clear hD
        go_wp2_with (fail)
        go_roundw
        case rel =>
          refine ⟨pos + 1, by omega, hk2, Lib.hid fun j hj c hc => ?_, hx2⟩
          by_cases he : j = pos
          · subst he
            have := hcH.out.symm.trans hc
            simp at this
            subst this
            exact hDH.out
          · exact hd.out j (by omega) c hc
        case measure =>
          have hmu2 : W2.iterPos w.heap.size = pos + 1 := by simp [World.iterPos, hk2]
          rw [hmu, hmu2]
          omega
      · have hne : (kindC (b.toNat : Int) == 2) = false := beq_eq_false_iff_ne.2 hD
        have hDH : Hid (isD b = false) := Lib.hid (Bool.eq_false_iff.2 fun h => hD (hkd.out.2 h))
        have hst := Lib.hid (runD_stop hd.out hcH.out hDH.out)
        generalize kindC (b.toNat : Int) = kc at *
        clear hD
        go_wp2_with (fail)
        go_ret
        rw [hst.out.1]
        exact ⟨rfl, hx2⟩
    · have hnext : ∀ ty, (Instr.next (.pointer (some ⟨w.heap.size, 0, none⟩)) true ty).run Tryd.prog wr = _ := fun ty => Lib.run_next_end_at wr w.heap.size s pos ty hk hpl
      have he : Hid (runD l = l) := Lib.hid (hr.out fun b hb => by
        obtain ⟨j, hj, rfl⟩ := List.mem_iff_getElem.1 hb
        exact hd.out j (by omega) _ (List.getElem?_eq_getElem hj))
      go_wp2_with (fail)
      go_ret
      rw [he.out]
      exact ⟨rfl, hx⟩
end Go.Proofs.YtcpadkaljnnieaaDoor
namespace Go.Proofs.YtcpadkaljnnieaaDoor
open Go.RowKit Go.ChangeShapes Go.WideShapes Go.ChangeAt Go.Deep Go.Lib

theorem extract_all (l : Txt) : (⟨l.toArray⟩ : ByteArray).extract 0 (⟨l.toArray⟩ : ByteArray).size = ⟨l.toArray⟩ := by
  apply ByteArray.ext
  simp [Lib.extract_data]
theorem extract_run (l : Txt) (n : Nat) : (⟨l.toArray⟩ : ByteArray).extract 0 n = ⟨(l.take n).toArray⟩ := by
  apply ByteArray.ext
  apply Array.ext'
  rw [Lib.extract_data]
  simp
theorem ten18 : ∀ m : Fin 19, (10 : Int) ^ (m : Nat) ≤ 1000000000000000000 := by decide
set_option maxRecDepth 100000 in
set_option maxHeartbeats 2000000 in
theorem readd_any (l : Txt) (w : World) (hp : Plain l) (hl : l.length < 4294967281) :
    Calls Tryd.prog 44 #[.string ⟨l.toArray⟩, .int .i64 0] w fun e w' => e = .returned (.tuple #[.int .i64 (readD l).1, .int .i64 (readD l).2.1, .int .i64 (readD l).2.2]) ∧ Ext w w' := by
  have hsz : (⟨l.toArray⟩ : ByteArray).size = l.length := by simp [Lib.size_eq]
  have RN := Lib.hid (fun (W : World) => run_any l W hp hl)
  have hE := extract_all l
  have hT := extract_run l (runD l).length
  rw [runD_take] at hT
  have hn1 := runD_len l
  have hD : Hid (∀ b ∈ runD l, isD b = true) := Lib.hid (runD_mem l)
  rw [hsz] at hE
  unfold readD
  generalize runD l = D at *
  cases D with
  | nil =>
    go_enter Tryd.func44, Tryd.ntmps44
    go_wp2_with (go_at_call 70; refine (RN.out _).mono ?_; rintro e w1 ⟨rfl, x1⟩)
    go_ret3
    exact ⟨rfl, by (repeat (first | assumption | exact Ext.rf _ | apply Ext.drew | apply Ext.drewN | apply Ext.alloc))⟩
  | cons b r =>
    rw [readR_cons]
    have hn : Hid ((b :: r).length = r.length + 1) := Lib.hid rfl
    generalize (b :: r).length = n at *
    have hidx : ∀ h, (⟨(b :: r).toArray⟩ : ByteArray)[0]'h = b := fun _ => rfl
    by_cases c2 : 0 < r.length ∧ b = 48
    · rw [if_pos c2]
      obtain ⟨h2, rfl⟩ := c2
      go_enter Tryd.func44, Tryd.ntmps44
      go_wp2_with (go_at_call 70; refine (RN.out _).mono ?_; rintro e w1 ⟨rfl, x1⟩)
      go_ret3
      exact ⟨rfl, by (repeat (first | assumption | exact Ext.rf _ | apply Ext.drew | apply Ext.drewN | apply Ext.alloc))⟩
    · rw [if_neg c2]
      by_cases c3 : 17 < r.length
      · rw [if_pos c3]
        have hb : Hid (b ≠ 48) := Lib.hid fun h => c2 ⟨by omega, h⟩
        have hb2 : ((b.toNat : Int) == 48) = false := beq_eq_false_iff_ne.2 fun h => hb.out (UInt8.toNat_inj.1 (by simp; omega))
        clear c2
        go_enter Tryd.func44, Tryd.ntmps44
        go_wp2_with (go_at_call 70; refine (RN.out _).mono ?_; rintro e w1 ⟨rfl, x1⟩)
        go_ret3
        exact ⟨rfl, by (repeat (first | assumption | exact Ext.rf _ | apply Ext.drew | apply Ext.drewN | apply Ext.alloc))⟩
      · rw [if_neg c3]
        have hv : Hid (∀ k, k ≤ r.length + 1 → 0 ≤ valD ((b :: r).take k) ∧ valD ((b :: r).take k) < 1000000000000000000) := Lib.hid fun k hk => by
          obtain ⟨v1, v2⟩ := valD_range ((b :: r).take k) (fun x hx => hD.out x (List.mem_of_mem_take hx))
          refine ⟨v1, Int.lt_of_lt_of_le v2 ?_⟩
          have h18 : ((b :: r).take k).length < 19 := by rw [List.length_take, List.length_cons]; omega
          exact ten18 ⟨_, h18⟩
        have hA : Hid (∀ (k : Nat) (hk : k < (⟨(b :: r).toArray⟩ : ByteArray).size), ((⟨(b :: r).toArray⟩ : ByteArray)[k]'hk).toNat < 128 ∧ (b :: r)[k]? = some ((⟨(b :: r).toArray⟩ : ByteArray)[k]'hk) ∧ isD ((⟨(b :: r).toArray⟩ : ByteArray)[k]'hk) = true) := Lib.hid fun k hk => by
          have h1 := plain_at (b :: r) k hk
          have h2 := hD.out _ (List.mem_of_getElem? h1)
          refine ⟨?_, h1, h2⟩
          unfold isD at h2
          simp only [Bool.and_eq_true, decide_eq_true_eq] at h2
          omega
        have hL : Hid ((⟨(b :: r).toArray⟩ : ByteArray).size = r.length + 1 ∧ (b :: r).length = r.length + 1) := Lib.hid ⟨by simp [Lib.size_eq], rfl⟩
        have hb : Hid (r.length ≠ 0 → b ≠ 48) := Lib.hid fun h1 h => c2 ⟨by omega, h⟩
        clear c2 hD
        generalize hDD : b :: r = D at *
        generalize hs : (⟨D.toArray⟩ : ByteArray) = s at *
        by_cases c4 : r.length = 0
        · have hsz1 : s.size = 1 := by rw [hL.out.1, c4]
          have hem : s.toList.isEmpty = false := by rw [← hs, ← hDD, Lib.toList_data]; rfl
          go_enter Tryd.func44, Tryd.ntmps44
          go_wp2_with (go_at_call 70; refine (RN.out _).mono ?_; rintro e w1 ⟨rfl, x1⟩)
          have hK0 := World.iter_heap w1 s 0
          have hX0 : Ext w (w1.iter s 0) := Ext.alloc (by (repeat (first | assumption | exact Ext.rf _ | apply Ext.drew | apply Ext.drewN | apply Ext.alloc))) _
          have hg : w.heap.size ≤ w1.heap.size := x1.size
          obtain ⟨g, hgw⟩ : ∃ g, w1.heap.size = g := ⟨_, rfl⟩
          rw [hgw] at hK0 hg ⊢
          go_loopw [4, 9] (fun a _ wr => ∃ pos : Nat, pos ≤ s.size ∧ a = .int .i64 (valD (D.take pos)) ∧ wr.heap[g]? = some (.stringIter s pos) ∧ Ext w wr)
            (fun _ _ wr => s.size - wr.iterPos g)
          case atStart => exact ⟨0, Nat.zero_le _, rfl, hK0, hX0⟩
          case round =>
            obtain ⟨pos, hps, rfl, hk, hx⟩ := hrel
            clear hK0 hX0
            by_cases hpl : pos < s.size
            · obtain ⟨h128, hc, hdig⟩ := hA.out pos hpl
              have hnext : ∀ ty, (Instr.next (.pointer (some ⟨g, 0, none⟩)) true ty).run Tryd.prog wr = _ := fun ty => Lib.run_next_ascii_at wr g s pos ty hk hpl h128
              have hk1 := Lib.iterAt_heap wr g s pos (pos + 1) hk
              have hx1 : Ext w (wr.iterAt g s (pos + 1)) := ext_iterAt hx hg s (pos + 1)
              have hmu : wr.iterPos g = pos := by simp [World.iterPos, hk]
              have hv1 := hv.out pos
              have hv2 := hv.out (pos + 1)
              have htk : D.take (pos + 1) = D.take pos ++ [s[pos]'hpl] := by rw [List.take_add_one, hc]; rfl
              rw [htk, valD_snoc] at hv2
              have hd1 : 48 ≤ (s[pos]'hpl).toNat ∧ (s[pos]'hpl).toNat ≤ 57 := by
                unfold isD at hdig
                simpa [Bool.and_eq_true, decide_eq_true_eq] using hdig
              have hvs := Lib.hid (show valD (D.take (pos + 1)) = valD (D.take pos) * 10 + (((s[pos]'hpl).toNat : Int) - 48) by rw [htk, valD_snoc])
              clear htk hc hdig
              generalize s[pos]'hpl = x at *
              generalize valD (D.take pos) = v at *
              generalize wr.iterAt g s (pos + 1) = W1 at hnext hk1 hx1
              obtain ⟨hv3, hv4⟩ := hv2 (by have := hL.out; omega)
              obtain ⟨hv5, hv6⟩ := hv1 (by have := hL.out; omega)
              clear hv1 hv2
              obtain ⟨hd2, hd3⟩ := hd1
              go_wp2_with (fail)
              have hmu2 : W1.iterPos g = pos + 1 := by simp [World.iterPos, hk1]
              exact ⟨⟨pos + 1, by omega, by rw [hvs.out], hk1, hx1⟩, by rw [hmu, hmu2]; omega⟩
            · have hnext : ∀ ty, (Instr.next (.pointer (some ⟨g, 0, none⟩)) true ty).run Tryd.prog wr = _ := fun ty => Lib.run_next_end_at wr g s pos ty hk hpl
              have hall : D.take pos = D := List.take_of_length_le (by have := hL.out; omega)
              rw [hall]
              go_wp2_with (fail)
              go_ret3
              refine ⟨?_, hx⟩
              rw [c4]
              rfl
        · have hb2 : ((b.toNat : Int) == 48) = false := beq_eq_false_iff_ne.2 fun h => hb.out c4 (UInt8.toNat_inj.1 (by simp; omega))
          have hsz1 : s.size = r.length + 1 := hL.out.1
          have hem : s.toList.isEmpty = false := by rw [← hs, ← hDD, Lib.toList_data]; rfl
          have hidx2 : ∀ h, s[0]'h = b := by subst hs; subst hDD; exact fun _ => rfl
          go_enter Tryd.func44, Tryd.ntmps44
          go_wp2_with (go_at_call 70; refine (RN.out _).mono ?_; rintro e w1 ⟨rfl, x1⟩)
          have hK0 := World.iter_heap w1 s 0
          have hX0 : Ext w (w1.iter s 0) := Ext.alloc (by (repeat (first | assumption | exact Ext.rf _ | apply Ext.drew | apply Ext.drewN | apply Ext.alloc))) _
          have hg : w.heap.size ≤ w1.heap.size := x1.size
          obtain ⟨g, hgw⟩ : ∃ g, w1.heap.size = g := ⟨_, rfl⟩
          rw [hgw] at hK0 hg ⊢
          go_loopw [4, 9] (fun a _ wr => ∃ pos : Nat, pos ≤ s.size ∧ a = .int .i64 (valD (D.take pos)) ∧ wr.heap[g]? = some (.stringIter s pos) ∧ Ext w wr)
            (fun _ _ wr => s.size - wr.iterPos g)
          case atStart => exact ⟨0, Nat.zero_le _, rfl, hK0, hX0⟩
          case round =>
            obtain ⟨pos, hps, rfl, hk, hx⟩ := hrel
            clear hK0 hX0
            by_cases hpl : pos < s.size
            · obtain ⟨h128, hc, hdig⟩ := hA.out pos hpl
              have hnext : ∀ ty, (Instr.next (.pointer (some ⟨g, 0, none⟩)) true ty).run Tryd.prog wr = _ := fun ty => Lib.run_next_ascii_at wr g s pos ty hk hpl h128
              have hk1 := Lib.iterAt_heap wr g s pos (pos + 1) hk
              have hx1 : Ext w (wr.iterAt g s (pos + 1)) := ext_iterAt hx hg s (pos + 1)
              have hmu : wr.iterPos g = pos := by simp [World.iterPos, hk]
              have hv1 := hv.out pos
              have hv2 := hv.out (pos + 1)
              have htk : D.take (pos + 1) = D.take pos ++ [s[pos]'hpl] := by rw [List.take_add_one, hc]; rfl
              rw [htk, valD_snoc] at hv2
              have hd1 : 48 ≤ (s[pos]'hpl).toNat ∧ (s[pos]'hpl).toNat ≤ 57 := by
                unfold isD at hdig
                simpa [Bool.and_eq_true, decide_eq_true_eq] using hdig
              have hvs := Lib.hid (show valD (D.take (pos + 1)) = valD (D.take pos) * 10 + (((s[pos]'hpl).toNat : Int) - 48) by rw [htk, valD_snoc])
              clear htk hc hdig
              generalize s[pos]'hpl = x at *
              generalize valD (D.take pos) = v at *
              generalize wr.iterAt g s (pos + 1) = W1 at hnext hk1 hx1
              obtain ⟨hv3, hv4⟩ := hv2 (by have := hL.out; omega)
              obtain ⟨hv5, hv6⟩ := hv1 (by have := hL.out; omega)
              clear hv1 hv2
              obtain ⟨hd2, hd3⟩ := hd1
              go_wp2_with (fail)
              have hmu2 : W1.iterPos g = pos + 1 := by simp [World.iterPos, hk1]
              exact ⟨⟨pos + 1, by omega, by rw [hvs.out], hk1, hx1⟩, by rw [hmu, hmu2]; omega⟩
            · have hnext : ∀ ty, (Instr.next (.pointer (some ⟨g, 0, none⟩)) true ty).run Tryd.prog wr = _ := fun ty => Lib.run_next_end_at wr g s pos ty hk hpl
              have hall : D.take pos = D := List.take_of_length_le (by have := hL.out; omega)
              rw [hall]
              go_wp2_with (fail)
              go_ret3
              exact ⟨rfl, hx⟩
end Go.Proofs.YtcpadkaljnnieaaDoor
namespace Go.Proofs.YtcpadkaljnnieaaDoor
open Go.Shelf

def split_ren : Go.Shelf.Ren := ⟨fun | 146 => 32 | 221 => 42 | 268 => 66 | 138 => 67 | 143 => 68 | 195 => 84 | 197 => 85 | 218 => 86 | 219 => 41 | 260 => 94 | 217 => 62 | 225 => 63 | 224 => 64 | 267 => 65 | 266 => 82 | 314 => 83 | n => n, fun | 9 => 9 | 31 => 64 | 3 => 3 | 4 => 4 | 0 => 0 | 105 => 123 | 21 => 21 | 5 => 5 | 46 => 83 | 119 => 137 | 139 => 140 | 138 => 139 | 146 => 121 | 51 => 104 | n => n, fun | 1 => 0 | 3 => 2 | 4 => 3 | n => n⟩
set_option maxRecDepth 100000 in
theorem split : Lays.n146 Tryd.prog split_ren where
  mixed := by kernel_rfl
  f138 := Tryd.func67.trans (congrArg some (by kernel_rfl))
  f143 := Tryd.func68.trans (congrArg some (by kernel_rfl))
  f146 := Tryd.func32.trans (congrArg some (by kernel_rfl))
  f195 := Tryd.func84.trans (congrArg some (by kernel_rfl))
  f197 := Tryd.func85.trans (congrArg some (by kernel_rfl))
  f217 := Tryd.func62.trans (congrArg some (by kernel_rfl))
  f218 := Tryd.func86.trans (congrArg some (by kernel_rfl))
  f219 := Tryd.func41.trans (congrArg some (by kernel_rfl))
  f221 := Tryd.func42.trans (congrArg some (by kernel_rfl))
  f224 := Tryd.func64.trans (congrArg some (by kernel_rfl))
  f225 := Tryd.func63.trans (congrArg some (by kernel_rfl))
  f260 := Tryd.func94.trans (congrArg some (by kernel_rfl))
  f266 := Tryd.func82.trans (congrArg some (by kernel_rfl))
  f267 := Tryd.func65.trans (congrArg some (by kernel_rfl))
  f268 := Tryd.func66.trans (congrArg some (by kernel_rfl))
  f314 := Tryd.func83.trans (congrArg some (by kernel_rfl))
  t0 := Tryd.underlying0
  a0 := Tryd.isAgg0
  z0 := Tryd.sizeOf0
  v0 := Tryd.zeroValue0
  t3 := Tryd.underlying3
  a3 := Tryd.isAgg3
  z3 := Tryd.sizeOf3
  v3 := Tryd.zeroValue3
  t4 := Tryd.underlying4
  a4 := Tryd.isAgg4
  z4 := Tryd.sizeOf4
  v4 := Tryd.zeroValue4
  t5 := Tryd.underlying5
  a5 := Tryd.isAgg5
  z5 := Tryd.sizeOf5
  v5 := Tryd.zeroValue5
  t9 := Tryd.underlying9
  a9 := Tryd.isAgg9
  z9 := Tryd.sizeOf9
  v9 := Tryd.zeroValue9
  t21 := Tryd.underlying21
  a21 := Tryd.isAgg21
  z21 := Tryd.sizeOf21
  v21 := Tryd.zeroValue21
  t31 := Tryd.underlying64
  a31 := Tryd.isAgg64
  z31 := Tryd.sizeOf64
  v31 := Tryd.zeroValue64
  t46 := Tryd.underlying83
  a46 := Tryd.isAgg83
  z46 := Tryd.sizeOf83
  v46 := Tryd.zeroValue83
  t51 := Tryd.underlying104
  a51 := Tryd.isAgg104
  z51 := Tryd.sizeOf104
  v51 := Tryd.zeroValue104
  t105 := Tryd.underlying123
  a105 := Tryd.isAgg123
  z105 := Tryd.sizeOf123
  v105 := Tryd.zeroValue123
  t119 := Tryd.underlying137
  a119 := Tryd.isAgg137
  z119 := Tryd.sizeOf137
  t138 := Tryd.underlying139
  a138 := Tryd.isAgg139
  z138 := Tryd.sizeOf139
  v138 := Tryd.zeroValue139
  t139 := Tryd.underlying140
  a139 := Tryd.isAgg140
  z139 := Tryd.sizeOf140
  v139 := Tryd.zeroValue140
  t146 := Tryd.underlying121
  a146 := Tryd.isAgg121
  z146 := Tryd.sizeOf121
  v146 := Tryd.zeroValue121
  g1 := by kernel_rfl
  g3 := by kernel_rfl
  g4 := by kernel_rfl
end Go.Proofs.YtcpadkaljnnieaaDoor
namespace Go.Proofs.YtcpadkaljnnieaaDoor
open Go.Shelf

def cutl_ren : Go.Shelf.Ren := ⟨fun | 145 => 19 | 220 => 31 | 219 => 41 | 217 => 62 | 225 => 63 | 224 => 64 | 267 => 65 | 266 => 82 | 314 => 83 | n => n, fun | 9 => 9 | 4 => 4 | 59 => 60 | 3 => 3 | 5 => 5 | 46 => 83 | 146 => 121 | 51 => 104 | n => n, fun | 1 => 0 | n => n⟩
set_option maxRecDepth 100000 in
theorem cutl : Lays.n145 Tryd.prog cutl_ren where
  mixed := by kernel_rfl
  f145 := Tryd.func19.trans (congrArg some (by kernel_rfl))
  f217 := Tryd.func62.trans (congrArg some (by kernel_rfl))
  f219 := Tryd.func41.trans (congrArg some (by kernel_rfl))
  f220 := Tryd.func31.trans (congrArg some (by kernel_rfl))
  f224 := Tryd.func64.trans (congrArg some (by kernel_rfl))
  f225 := Tryd.func63.trans (congrArg some (by kernel_rfl))
  f266 := Tryd.func82.trans (congrArg some (by kernel_rfl))
  f267 := Tryd.func65.trans (congrArg some (by kernel_rfl))
  f314 := Tryd.func83.trans (congrArg some (by kernel_rfl))
  t3 := Tryd.underlying3
  a3 := Tryd.isAgg3
  z3 := Tryd.sizeOf3
  v3 := Tryd.zeroValue3
  t4 := Tryd.underlying4
  a4 := Tryd.isAgg4
  z4 := Tryd.sizeOf4
  v4 := Tryd.zeroValue4
  t5 := Tryd.underlying5
  a5 := Tryd.isAgg5
  z5 := Tryd.sizeOf5
  v5 := Tryd.zeroValue5
  t9 := Tryd.underlying9
  a9 := Tryd.isAgg9
  z9 := Tryd.sizeOf9
  v9 := Tryd.zeroValue9
  t46 := Tryd.underlying83
  a46 := Tryd.isAgg83
  z46 := Tryd.sizeOf83
  v46 := Tryd.zeroValue83
  t51 := Tryd.underlying104
  a51 := Tryd.isAgg104
  z51 := Tryd.sizeOf104
  v51 := Tryd.zeroValue104
  t59 := Tryd.underlying60
  a59 := Tryd.isAgg60
  z59 := Tryd.sizeOf60
  v59 := Tryd.zeroValue60
  t146 := Tryd.underlying121
  a146 := Tryd.isAgg121
  z146 := Tryd.sizeOf121
  v146 := Tryd.zeroValue121
  g1 := by kernel_rfl
end Go.Proofs.YtcpadkaljnnieaaDoor
namespace Go.Proofs.YtcpadkaljnnieaaDoor
open Go.Shelf

def cutp_ren : Go.Shelf.Ren := ⟨fun | 103 => 43 | 210 => 69 | 206 => 87 | n => n, fun | 9 => 9 | 4 => 4 | 24 => 51 | 3 => 3 | n => n, fun n => n⟩
set_option maxRecDepth 100000 in
theorem cutp : Lays.n103 Tryd.prog cutp_ren where
  mixed := by kernel_rfl
  f103 := Tryd.func43.trans (congrArg some (by kernel_rfl))
  f206 := Tryd.func87.trans (congrArg some (by kernel_rfl))
  f210 := Tryd.func69.trans (congrArg some (by kernel_rfl))
  t3 := Tryd.underlying3
  a3 := Tryd.isAgg3
  z3 := Tryd.sizeOf3
  v3 := Tryd.zeroValue3
  t4 := Tryd.underlying4
  a4 := Tryd.isAgg4
  z4 := Tryd.sizeOf4
  v4 := Tryd.zeroValue4
  t9 := Tryd.underlying9
  a9 := Tryd.isAgg9
  z9 := Tryd.sizeOf9
  v9 := Tryd.zeroValue9
  t24 := Tryd.underlying51
  a24 := Tryd.isAgg51
  z24 := Tryd.sizeOf51
  v24 := Tryd.zeroValue51
end Go.Proofs.YtcpadkaljnnieaaDoor
namespace Go.Proofs.YtcpadkaljnnieaaDoor
open Go.Shelf

def trimp_ren : Go.Shelf.Ren := ⟨fun | 101 => 47 | 208 => 72 | 206 => 87 | n => n, fun | 9 => 9 | 4 => 4 | 3 => 3 | n => n, fun n => n⟩
set_option maxRecDepth 100000 in
theorem trimp : Lays.n101 Tryd.prog trimp_ren where
  mixed := by kernel_rfl
  f101 := Tryd.func47.trans (congrArg some (by kernel_rfl))
  f206 := Tryd.func87.trans (congrArg some (by kernel_rfl))
  f208 := Tryd.func72.trans (congrArg some (by kernel_rfl))
  t3 := Tryd.underlying3
  a3 := Tryd.isAgg3
  z3 := Tryd.sizeOf3
  v3 := Tryd.zeroValue3
  t4 := Tryd.underlying4
  a4 := Tryd.isAgg4
  z4 := Tryd.sizeOf4
  v4 := Tryd.zeroValue4
  t9 := Tryd.underlying9
  a9 := Tryd.isAgg9
  z9 := Tryd.sizeOf9
  v9 := Tryd.zeroValue9
end Go.Proofs.YtcpadkaljnnieaaDoor
namespace Go.Proofs.YtcpadkaljnnieaaDoor
open Go.Shelf

def joinLay_ren : Go.Shelf.Ren := ⟨fun | 156 => 26 | 165 => 39 | 166 => 15 | 169 => 17 | 240 => 28 | 241 => 61 | 276 => 40 | 277 => 81 | n => n, fun | 31 => 64 | 9 => 9 | 3 => 3 | 4 => 4 | 0 => 0 | 20 => 20 | 72 => 46 | 76 => 55 | 70 => 43 | 37 => 44 | 75 => 54 | 127 => 73 | 164 => 85 | 5 => 5 | 80 => 58 | n => n, fun n => n⟩
set_option maxRecDepth 100000 in
theorem joinLay : Lays.n156 Tryd.prog joinLay_ren where
  mixed := by kernel_rfl
  f156 := Tryd.func26.trans (congrArg some (by kernel_rfl))
  f165 := Tryd.func39.trans (congrArg some (by kernel_rfl))
  f166 := Tryd.func15.trans (congrArg some (by kernel_rfl))
  f169 := Tryd.func17.trans (congrArg some (by kernel_rfl))
  f240 := Tryd.func28.trans (congrArg some (by kernel_rfl))
  f241 := Tryd.func61.trans (congrArg some (by kernel_rfl))
  f276 := Tryd.func40.trans (congrArg some (by kernel_rfl))
  f277 := Tryd.func81.trans (congrArg some (by kernel_rfl))
  t0 := Tryd.underlying0
  a0 := Tryd.isAgg0
  z0 := Tryd.sizeOf0
  v0 := Tryd.zeroValue0
  t3 := Tryd.underlying3
  a3 := Tryd.isAgg3
  z3 := Tryd.sizeOf3
  v3 := Tryd.zeroValue3
  t4 := Tryd.underlying4
  a4 := Tryd.isAgg4
  z4 := Tryd.sizeOf4
  v4 := Tryd.zeroValue4
  t9 := Tryd.underlying9
  a9 := Tryd.isAgg9
  z9 := Tryd.sizeOf9
  v9 := Tryd.zeroValue9
  t20 := Tryd.underlying20
  a20 := Tryd.isAgg20
  z20 := Tryd.sizeOf20
  v20 := Tryd.zeroValue20
  t31 := Tryd.underlying64
  a31 := Tryd.isAgg64
  z31 := Tryd.sizeOf64
  v31 := Tryd.zeroValue64
  t37 := Tryd.underlying44
  a37 := Tryd.isAgg44
  z37 := Tryd.sizeOf44
  v37 := Tryd.zeroValue44
  t70 := Tryd.underlying43
  a70 := Tryd.isAgg43
  z70 := Tryd.sizeOf43
  v70 := Tryd.zeroValue43
  t72 := Tryd.underlying46
  a72 := Tryd.isAgg46
  z72 := Tryd.sizeOf46
  v72 := Tryd.zeroValue46
  t75 := Tryd.underlying54
  a75 := Tryd.isAgg54
  z75 := Tryd.sizeOf54
  v75 := Tryd.zeroValue54
  t76 := Tryd.underlying55
  a76 := Tryd.isAgg55
  z76 := Tryd.sizeOf55
  v76 := Tryd.zeroValue55
  t127 := Tryd.underlying73
  a127 := Tryd.isAgg73
  z127 := Tryd.sizeOf73
  v127 := Tryd.zeroValue73
  t164 := Tryd.underlying85
  a164 := Tryd.isAgg85
  z164 := Tryd.sizeOf85
  v164 := Tryd.zeroValue85
theorem joinExtra : Builder.Extra Tryd.prog joinLay_ren where
  sizeBuilder := by kernel_rfl
  liesBuilder := by kernel_rfl
  t5 := Tryd.underlying5
  a5 := Tryd.isAgg5
  z5 := Tryd.sizeOf5
  v5 := Tryd.zeroValue5
  infoByte := by kernel_rfl
  cellsByte := by kernel_rfl
  sizeByte := by kernel_rfl
  neB5 := by decide
/-- strings.Join -/
theorem join_any (bk o c : Nat) (xs : List ByteArray) (sep : ByteArray) (w : World)
    (hcells : ∀ (j : Nat) x, xs[j]? = some x → w.cell? ⟨bk, o + j, none⟩ = some (.string x))
    (hbk : bk < w.heap.size) (hN : xs.length ≤ 140737488355328) (hcap : xs.length ≤ c)
    (hlen : (Lib.join (xs.map (·.data.toList)) sep.data.toList).length ≤ 140737488355328) :
    Calls Tryd.prog 26 #[.slice (some ⟨bk, o, none⟩) xs.length c, .string sep] w fun e w' => e = .returned (.string ⟨(Lib.join (xs.map (·.data.toList)) sep.data.toList).toArray⟩) ∧ Ext w w' :=
  Any.strings_Join joinLay joinExtra bk o c xs sep w hcells hbk hN hcap hlen
end Go.Proofs.YtcpadkaljnnieaaDoor
namespace Go.Proofs.YtcpadkaljnnieaaDoor
open Go.RowKit Go.ChangeShapes Go.WideShapes Go.ChangeAt

/-- the block that a slice lies in -/
def bl (A : Option Addr) : Option Nat := A.map (·.block)
theorem ownBlock_bl (A : Option Addr) (n c : Nat) : (Value.slice A n c).ownBlock = bl A := by cases A <;> rfl
section
variable {w w' : World} {base : Nat} {A : Option Addr} {c : Nat} {xs : List Int}
end
theorem Ext.grow {a w w' : World} {row : Option Nat} (h : Ext a w) (hg : w.grownBy w' row) (hr : ∀ k, row = some k → a.heap.size ≤ k) : Ext a w' := Below.grown h hg h.size hr
/-- what was there is as it was, but for the blocks of S -/
structure Mod (S : Nat → Prop) (w w' : World) : Prop where
  os : w'.os = w.os
  tape : w'.tape = w.tape
  output : w'.output = w.output
  size : w.heap.size ≤ w'.heap.size
  block : ∀ k, k < w.heap.size → ¬ S k → w'.heap[k]? = w.heap[k]?
theorem Mod.of_ext {S : Nat → Prop} {w w' : World} (h : Ext w w') : Mod S w w' := ⟨h.os, h.tape, h.output, h.size, fun k hk _ => h.block k hk⟩
theorem Mod.rf {S : Nat → Prop} (w : World) : Mod S w w := ⟨rfl, rfl, rfl, Nat.le_refl _, fun _ _ _ => rfl⟩
theorem Mod.tr {S : Nat → Prop} {a b c : World} (h : Mod S a b) (k : Mod S b c) : Mod S a c :=
  ⟨k.os.trans h.os, k.tape.trans h.tape, k.output.trans h.output, Nat.le_trans h.size k.size, fun i hi hs => (k.block i (Nat.lt_of_lt_of_le hi h.size) hs).trans (h.block i hi hs)⟩
/-- blocks that are newer count for nothing -/
theorem Mod.tr' {S S' : Nat → Prop} {a b c : World} (h : Mod S a b) (k : Mod S' b c) (hS : ∀ i, i < a.heap.size → S' i → S i) : Mod S a c :=
  ⟨k.os.trans h.os, k.tape.trans h.tape, k.output.trans h.output, Nat.le_trans h.size k.size, fun i hi hs => (k.block i (Nat.lt_of_lt_of_le hi h.size) (fun h' => hs (hS i hi h'))).trans (h.block i hi hs)⟩
theorem Mod.mono {S S' : Nat → Prop} {a b : World} (h : Mod S a b) (hS : ∀ i, i < a.heap.size → S i → S' i) : Mod S' a b :=
  ⟨h.os, h.tape, h.output, h.size, fun i hi hs => h.block i hi (fun h' => hs (hS i hi h'))⟩
theorem Mod.drewN {S : Nat → Prop} {a b : World} (h : Mod S a b) (n : Nat) : Mod S a (b.drewN n) := ⟨h.os, h.tape, h.output, h.size, h.block⟩
theorem Mod.drew {S : Nat → Prop} {a b : World} (h : Mod S a b) : Mod S a b.drew := ⟨h.os, h.tape, h.output, h.size, h.block⟩
theorem Mod.alloc {S : Nat → Prop} {a b : World} (h : Mod S a b) (o : Obj) : Mod S a (b.alloc o) := h.tr (Mod.of_ext ((Ext.rf b).alloc o))
theorem Mod.set {S : Nat → Prop} {a b : World} (h : Mod S a b) {p : Addr} (hp : S p.block ∨ a.heap.size ≤ p.block) (u : Value) : Mod S a (b.setCell p u) :=
  ⟨h.os, h.tape, h.output, by simpa [World.setCell] using h.size, fun i hi hs => (Below.heap_setCell b p u i (by
    rintro rfl
    rcases hp with hp | hp
    · exact hs hp
    · omega)).trans (h.block i hi hs)⟩
theorem Mod.below {S : Nat → Prop} {w w' : World} (h : Mod S w w') {B : Nat} (hB : B ≤ w.heap.size) (hS : ∀ k, k < B → ¬ S k) : Below B w w' := ⟨h.os, h.tape, h.output, h.size, fun k hk => h.block k (by omega) (hS k hk)⟩
theorem Ext.mod {S : Nat → Prop} {a w w' : World} (h : Ext a w) (hm : Mod S w w') (hS : ∀ k, k < a.heap.size → ¬ S k) : Ext a w' := Below.trans h (hm.below h.size hS)
theorem Mod.ext {S : Nat → Prop} {a w w' : World} (h : Mod S a w) (hm : Ext w w') : Mod S a w' := h.tr (Mod.of_ext hm)
theorem Mod.grown {w w' : World} {row : Option Nat} {S : Nat → Prop} (h : w.grownBy w' row) (hS : ∀ g, row = some g → S g) : Mod S w w' :=
  ⟨h.os, h.tape, h.output, h.size, fun k hk hs => h.block k hk (fun e => hs (hS k e.symm))⟩
theorem Blk.mod {S : Nat → Prop} {w w' : World} {g : Nat} {t : TypeId} {cs : Array Value} (h : Blk w g t cs) (hm : Mod S w w') (hg : ¬ S g) : Blk w' g t cs := (hm.block g h.lt hg).trans h
section
variable (w : World)
end
theorem Blk.grown {w w' : World} {g : Nat} {t : TypeId} {cs : Array Value} {row : Option Nat} (h : Blk w g t cs) (hb : w.grownBy w' row) (hg : row ≠ some g) : Blk w' g t cs := (hb.block g h.lt (fun e => hg e.symm)).trans h
section
variable (w : World)
end
end Go.Proofs.YtcpadkaljnnieaaDoor
namespace Go.Proofs.YtcpadkaljnnieaaDoor
open Go.RowKit Go.ChangeShapes Go.WideShapes Go.ChangeAt

/-- the slice with head A (of elements of type e) reads as these cells -/
def RdV (w : World) (e : TypeId) (A : Option Addr) (vs : List Value) : Prop :=
  vs = [] ∨ ∃ b off cur, A = some ⟨b, off, none⟩ ∧ w.heap[b]? = some (.cells cur e (0, 0)) ∧ ∀ j v, vs[j]? = some v → cur[off + j]? = some v
/-- the same, of a block of whatever make -/
def RdC (w : World) (A : Option Addr) (vs : List Value) : Prop :=
  vs = [] ∨ ∃ b off, A = some ⟨b, off, none⟩ ∧ b < w.heap.size ∧ ∀ j v, vs[j]? = some v → w.cell? ⟨b, off + j, none⟩ = some v
section
variable {w w' : World} {e : TypeId} {A : Option Addr} {vs : List Value}
theorem RdV.nil (w : World) (e : TypeId) (A : Option Addr) : RdV w e A [] := .inl rfl
theorem RdV.rdC (h : RdV w e A vs) : RdC w A vs := by
  rcases h with rfl | ⟨b, off, cur, rfl, hb, hc⟩
  · exact .inl rfl
  · exact .inr ⟨b, off, rfl, (Array.getElem?_eq_some_iff.1 hb).1, fun j v hj => by rw [cell_of_row w b _ cur e (0, 0) hb]; exact hc j v hj⟩
theorem RdC.ext (h : RdC w A vs) (hb : Ext w w') : RdC w' A vs := by
  rcases h with rfl | ⟨b, off, rfl, hlt, hc⟩
  · exact .inl rfl
  · exact .inr ⟨b, off, rfl, Nat.lt_of_lt_of_le hlt hb.size, fun j v hj => by rw [hb.cell hlt]; exact hc j v hj⟩
theorem RdV.keep (h : RdV w e A vs) (hb : ∀ b, bl A = some b → w'.heap[b]? = w.heap[b]?) : RdV w' e A vs := by
  rcases h with rfl | ⟨b, off, cur, rfl, hh, hc⟩
  · exact .inl rfl
  · exact .inr ⟨b, off, cur, rfl, (hb b rfl).trans hh, hc⟩
theorem RdV.lt (h : RdV w e A vs) (hne : vs ≠ []) : ∀ b, bl A = some b → b < w.heap.size := by
  intro b hb
  rcases h with rfl | ⟨b', off, cur, rfl, hh, hc⟩
  · exact absurd rfl hne
  · simp [bl] at hb
    subst hb
    exact (Array.getElem?_eq_some_iff.1 hh).1
theorem RdV.ext (h : RdV w e A vs) (hx : Ext w w') : RdV w' e A vs := by
  rcases h with rfl | ⟨b, off, cur, rfl, hh, hc⟩
  · exact .inl rfl
  · exact .inr ⟨b, off, cur, rfl, (hx.block b (Array.getElem?_eq_some_iff.1 hh).1).trans hh, hc⟩
/-- blocks of other element types may turn -/
theorem RdV.mod {S : Nat → Prop} (h : RdV w e A vs) (hm : Mod S w w') (hS : ∀ k cur, w.heap[k]? = some (.cells cur e (0, 0)) → ¬ S k) : RdV w' e A vs := by
  rcases h with rfl | ⟨b, off, cur, rfl, hh, hc⟩
  · exact .inl rfl
  · exact .inr ⟨b, off, cur, rfl, (hm.block b (Array.getElem?_eq_some_iff.1 hh).1 (hS b cur hh)).trans hh, hc⟩
theorem RdV.blk {b : Nat} {cs : Array Value} (h : Blk w b e cs) : RdV w e (some ⟨b, 0, none⟩) cs.toList :=
  .inr ⟨b, 0, cs, rfl, h, fun j v hj => by simpa using hj⟩
theorem RdV.at (h : RdV w e A vs) {j : Nat} (hj : j < vs.length) : ∃ b off v, A = some ⟨b, off, none⟩ ∧ b < w.heap.size ∧ w.cell? ⟨b, off + j, none⟩ = some v ∧ Hid (vs[j]? = some v) := by
  rcases h.rdC with rfl | ⟨b, off, rfl, hlt, hc⟩
  · simp at hj
  · exact ⟨b, off, vs[j], rfl, hlt, hc j _ (List.getElem?_eq_getElem hj), List.getElem?_eq_getElem hj⟩
theorem RdV.form (h : RdV w e A vs) (hne : vs ≠ []) : ∃ b off, A = some ⟨b, off, none⟩ ∧ b < w.heap.size ∧ ∀ j v, vs[j]? = some v → w.cell? ⟨b, off + j, none⟩ = some v := by
  rcases h.rdC with rfl | ⟨b, off, rfl, hlt, hc⟩
  · exact absurd rfl hne
  · exact ⟨b, off, rfl, hlt, hc⟩
/-- x[k:] -/
theorem RdV.drop (h : RdV w e A vs) (k : Nat) : RdV w e (A.map (·.add k)) (vs.drop k) := by
  rcases h with rfl | ⟨b, off, cur, rfl, hh, hc⟩
  · exact .inl (by simp)
  · refine .inr ⟨b, off + k, cur, by simp [add_plain], hh, fun j v hj => ?_⟩
    rw [List.getElem?_drop] at hj
    rw [Nat.add_assoc]
    exact hc _ v hj
theorem RdV.take (h : RdV w e A vs) (k : Nat) : RdV w e A (vs.take k) := by
  rcases h with rfl | ⟨b, off, cur, rfl, hh, hc⟩
  · exact .inl (by simp)
  · refine .inr ⟨b, off, cur, rfl, hh, fun j v hj => ?_⟩
    rw [List.getElem?_take] at hj
    split at hj
    · exact hc j v hj
    · cases hj
end

/-- a slice of the call's own (blocks from base on): n elements of size cells each -/
def OwV (w : World) (base : Nat) (e : TypeId) (size : Nat) (A : Option Addr) (n c : Nat) (vs : List Value) : Prop := w.ownsRow base e size (.slice A n c) n vs
section
variable {w w' : World} {base : Nat} {e : TypeId} {size : Nat} {A : Option Addr} {n c : Nat} {vs : List Value}
theorem OwV.nil (w : World) (base : Nat) (e : TypeId) (size : Nat) : OwV w base e size none 0 0 [] := World.ownsRow_nil _ _ _ _
theorem OwV.cases (h : OwV w base e size A n c vs) : (A = none ∧ c = 0 ∧ n = 0 ∧ vs = []) ∨ ∃ g cur, A = some ⟨g, 0, none⟩ ∧ base ≤ g ∧ w.heap[g]? = some (.cells cur e (0, 0)) ∧ n ≤ c ∧ c ≤ maxLen ∧ cur.size = c * size ∧ cur.toList.take (n * size) = vs := by
  rcases h.2 with ⟨hv, h0⟩ | ⟨g, cap, cur, hv, hb, hg, hn, hm, hs, ht⟩
  · injection hv with h1 _ h3
    have := h.1
    rw [h0, Nat.zero_mul] at this
    exact .inl ⟨h1, h3, h0, List.eq_nil_of_length_eq_zero this⟩
  · injection hv with h1 _ h3
    subst h1 h3
    exact .inr ⟨g, cur, rfl, hb, hg, hn, hm, hs, ht⟩
theorem OwV.mk {g : Nat} {cur : Array Value} (hb : base ≤ g) (hg : w.heap[g]? = some (.cells cur e (0, 0))) (hn : n ≤ c) (hm : c ≤ maxLen) (hs : cur.size = c * size) (ht : cur.toList.take (n * size) = vs) : OwV w base e size (some ⟨g, 0, none⟩) n c vs :=
  ⟨by rw [← ht, List.length_take, Array.length_toList, hs]; exact Nat.min_eq_left (Nat.mul_le_mul_right _ hn), .inr ⟨g, c, cur, rfl, hb, hg, hn, hm, hs, ht⟩⟩
theorem OwV.le (h : OwV w base e size A n c vs) : n ≤ c ∧ c ≤ maxLen := by
  rcases h.cases with ⟨rfl, rfl, rfl, rfl⟩ | ⟨g, cur, rfl, hb, hg, hn, hm, _⟩
  · exact ⟨Nat.le_refl _, zero_le_maxLen⟩
  · exact ⟨hn, hm⟩
theorem OwV.len (h : OwV w base e size A n c vs) : vs.length = n * size := h.1
theorem OwV.read (h : OwV w base e size A n c vs) : RdV w e A vs := by
  rcases h.cases with ⟨rfl, rfl, rfl, rfl⟩ | ⟨g, cur, rfl, hb, hg, hn, hm, hs, ht⟩
  · exact .inl rfl
  · refine .inr ⟨g, 0, cur, rfl, hg, fun j v hj => ?_⟩
    rw [← ht, List.getElem?_take] at hj
    split at hj
    · simpa using hj
    · cases hj
theorem OwV.keep (h : OwV w base e size A n c vs) (hb : ∀ g, bl A = some g → w'.heap[g]? = w.heap[g]?) : OwV w' base e size A n c vs := by
  rcases h.cases with ⟨rfl, rfl, rfl, rfl⟩ | ⟨g, cur, rfl, hb', hg, hn, hm, hs, ht⟩
  · exact OwV.nil _ _ _ _
  · exact .mk hb' ((hb g rfl).trans hg) hn hm hs ht
theorem OwV.lt (h : OwV w base e size A n c vs) : ∀ k, bl A = some k → base ≤ k ∧ k < w.heap.size := by
  intro k hk
  rcases h.cases with ⟨rfl, rfl, rfl, rfl⟩ | ⟨g, cur, rfl, hb', hg, _⟩
  · simp [bl] at hk
  · simp [bl] at hk
    subst hk
    exact ⟨hb', (Array.getElem?_eq_some_iff.1 hg).1⟩
theorem OwV.ext (h : OwV w base e size A n c vs) (hb : Ext w w') : OwV w' base e size A n c vs := h.keep fun g hg => hb.block g (h.lt g hg).2
theorem OwV.mod {S : Nat → Prop} (h : OwV w base e size A n c vs) (hm : Mod S w w') (hg : ∀ g, bl A = some g → ¬ S g) : OwV w' base e size A n c vs :=
  h.keep fun g hA => hm.block g (h.lt g hA).2 (hg g hA)
theorem OwV.set {g : Nat} (h : OwV w base e size (some ⟨g, 0, none⟩) n c vs) {j : Nat} (hj : j < vs.length) (u : Value) :
    w.cell? ⟨g, j, none⟩ = vs[j]? ∧ w.frozen? ⟨g, j, none⟩ = false ∧ base ≤ g ∧ OwV (w.setCell ⟨g, j, none⟩ u) base e size (some ⟨g, 0, none⟩) n c (vs.set j u) := by
  rcases h.cases with ⟨h0, _⟩ | ⟨g', cur, hA, hb, hg, hn, hm, hs, ht⟩
  · cases h0
  · injection hA with hA
    injection hA with hA
    subst hA
    refine ⟨?_, by simp [World.frozen?, hg], hb, .mk (cur := cur.setIfInBounds j u) hb ?_ hn hm (by simpa using hs) ?_⟩
    · rw [cell_of_row w g _ cur _ (0, 0) hg, ← ht, List.getElem?_take, if_pos]
      · simp
      · rw [← ht, List.length_take] at hj
        omega
    · simp [World.setCell, Array.getElem?_modify, hg]
    · simp only [Array.toList_setIfInBounds, ← ht]
      rw [List.take_set]
/-- a block just made, full -/
theorem OwV.full {g : Nat} {cs : Array Value} (h : Blk w g e cs) (hb : base ≤ g) (hs : cs.size = n * size) (hm : n ≤ maxLen) : OwV w base e size (some ⟨g, 0, none⟩) n n cs.toList :=
  .mk hb h (Nat.le_refl _) hm hs (List.take_of_length_le (by rw [Array.length_toList, hs]; exact Nat.le_refl _))
end

section
variable (w : World) {t e : TypeId} {i : TypeInfo} {z : Value} {size bytes : Nat} (ht : Tryd.prog.underlying t = some (.slice e)) (hi : Tryd.prog.info? e = some i) (hz : i.zero = some z) (hsize : i.size = size) (hby : i.bytes = bytes) (hzs : z.cells.size = size) (hsz : 0 < size)
include ht hi hz hsize hby hzs hsz

set_option maxRecDepth 100000 in
theorem run_app_v (base : Nat) (ty : TypeId) (A : Option Addr) (n cA : Nat) (xs : List Value) (B : Option Addr) (m c : Nat) (ys : List Value) (hown : OwV w base e size A n cA xs) (hr : RdC w B ys) (hm : ys.length = m * size) (h1 : ∀ u ∈ ys, u.oneCell' = true)
    (h63 : n + m ≤ maxLen) (hbytes : (n + m) * bytes ≤ 140737488355328) (hbase : base ≤ w.heap.size) :
    ∃ A' c' w', (Builtin.append_ #[t, t] ty #[.slice A n cA, .slice B m c]).run Tryd.prog w = .ok (.slice A' (n + m) c') w' ∧ OwV w' base e size A' (n + m) c' (xs ++ ys) ∧ w.grownBy w' (bl A) ∧ (bl A' = bl A ∨ bl A' = some w.heap.size) := by
  rcases B with _ | ad
  · have hy : ys = [] := by
      rcases hr with h | ⟨b, off, h, _⟩
      · exact h
      · cases h
    subst hy
    have hm0 : m = 0 := by
      simp only [List.length_nil] at hm
      rcases Nat.eq_zero_or_pos m with h | h
      · exact h
      · have := Nat.mul_pos h hsz; omega
    subst hm0
    refine ⟨A, cA, w, ?_, by simpa using hown, ⟨rfl, rfl, rfl, Nat.le_refl _, fun _ _ _ => rfl⟩, .inl rfl⟩
    have hle := hown.le.1
    simp [Builtin.append_, run_underlying ht, sizeOf, typeInfo, hi, Builtin.lenOf, Builtin.firstCells, hle]
    cases A <;> simp [storeCells]
  · have hnews : ∀ j u, ys[j]? = some u → w.cell? (ad.add j) = some u := by
      intro j u hu
      rcases hr with rfl | ⟨b, off, h, _, hc⟩
      · simp at hu
      · injection h with h
        subst h
        rw [add_plain]
        exact hc j u hu
    obtain ⟨v', w', hrun, h2, h3, _, h5⟩ := run_append_own_at (P := Tryd.prog) w base t ty e i z size bytes ht hi hz hsize hby hzs hsz _ n _ hown ad m c ys hm hnews h1 h63 hbytes hbase
    rw [ownBlock_bl] at h3 h5
    have hv : ∃ A' c', v' = .slice A' (n + m) c' := by
      rcases h2.2 with ⟨rfl, h0⟩ | ⟨g, cap, cur, rfl, _⟩
      · exact ⟨none, 0, by rw [h0]⟩
      · exact ⟨some ⟨g, 0, none⟩, cap, rfl⟩
    obtain ⟨A', c', rfl⟩ := hv
    rw [ownBlock_bl] at h5
    exact ⟨A', c', w', hrun, h2, h3, h5⟩
set_option maxRecDepth 100000 in
/-- append to a slice literal that has just been made: what was there is as it was -/
theorem run_fresh_v (base : Nat) (ty : TypeId) (g n : Nat) (cs : Array Value) (B : Option Addr) (m c : Nat) (ys : List Value) (hg : Blk w g e cs) (hb : base ≤ g) (hn : cs.size = n * size) (hr : RdC w B ys) (hm : ys.length = m * size) (h1 : ∀ u ∈ ys, u.oneCell' = true)
    (h63 : n + m ≤ maxLen) (hbytes : (n + m) * bytes ≤ 140737488355328) :
    ∃ A' c' w', (Builtin.append_ #[t, t] ty #[.slice (some ⟨g, 0, none⟩) n n, .slice B m c]).run Tryd.prog w = .ok (.slice A' (n + m) c') w' ∧ OwV w' base e size A' (n + m) c' (cs.toList ++ ys) ∧ Ext w w' := by
  by_cases hy : ys = []
  · subst hy
    have hm0 : m = 0 := by
      simp only [List.length_nil] at hm
      rcases Nat.eq_zero_or_pos m with h | h
      · exact h
      · have := Nat.mul_pos h hsz; omega
    subst hm0
    refine ⟨some ⟨g, 0, none⟩, n, w, ?_, by simpa using OwV.full hg hb hn (by simpa using h63), Ext.rf _⟩
    rcases B with _ | ad
    · simp [Builtin.append_, run_underlying ht, sizeOf, typeInfo, hi, Builtin.lenOf, Builtin.firstCells, storeCells]
    · simp [Builtin.append_, run_underlying ht, sizeOf, typeInfo, hi, Builtin.lenOf, Builtin.firstCells, storeCells, loadCells, loadCellsFrom]
  · have hm0 : 0 < m := by
      rcases Nat.eq_zero_or_pos m with h | h
      · rw [h, Nat.zero_mul] at hm
        exact absurd (List.eq_nil_of_length_eq_zero hm) hy
      · exact h
    obtain ⟨b, off, rfl, hc⟩ : ∃ b off, B = some ⟨b, off, none⟩ ∧ ∀ j x, ys[j]? = some x → w.cell? ⟨b, off + j, none⟩ = some x := by
      rcases hr with h | ⟨b, off, h, _, hc⟩
      · exact absurd h hy
      · exact ⟨b, off, h, hc⟩
    have hnews : ∀ j u, ys[j]? = some u → w.cell? ((⟨b, off, none⟩ : Addr).add j) = some u := by
      intro j u hu
      rw [add_plain]
      exact hc j u hu
    have holds : ∀ j u, cs.toList[j]? = some u → w.cell? ((⟨g, 0, none⟩ : Addr).add j) = some u := by
      intro j u hu
      rw [add_plain, hg.cell]
      simpa using hu
    subst hsize hby
    have hrun := run_append_grow (P := Tryd.prog) w t ty e i z ht hi hz ⟨g, 0, none⟩ n n cs.toList (by rw [Array.length_toList]; exact hn) holds ⟨b, off, none⟩ m c ys hm hnews (by omega) (by have h := h63; simp only [maxLen] at h; omega) (growslice_fits (by omega) hbytes)
    have hge := grownCap_ge w (n + m) n e
    have hle := grownCap_le_maxLen w (n + m) n e h63
    have hlen : (cs.toList ++ ys).length = (n + m) * i.size := by rw [List.length_append, Array.length_toList, hn, hm, Nat.add_mul]
    refine ⟨_, _, _, hrun, .mk (cur := _) (Nat.le_trans hb (Nat.le_of_lt hg.lt)) (heap_alloc_new w.drew _) hge hle ?_ ?_, ((Ext.rf w).drew).alloc _⟩
    · simp only [Array.size_append, List.size_toArray, size_zeroCells, hzs, Array.length_toList, hn, hm, ← Nat.add_mul]
      congr 1
      omega
    · simp only [Array.toList_append, List.append_assoc]
      rw [← List.append_assoc, ← hlen]
      exact List.take_left
theorem wpl_app_v {ops : Array Oper} {rest : List Oper} {o : Oper} {a : Act} {Q : Exit → Act → World → Prop} (hgd : o.guard = none) (s x : Operand)
    (ho : o.op = .call { callee := .builtin .append, args := #[s, x], argTypes := #[t, t] })
    (base : Nat) (A : Option Addr) (n cA : Nat) (xs : List Value) (B : Option Addr) (m c : Nat) (ys : List Value) (hs : a.eval s = .slice A n cA) (hx : a.eval x = .slice B m c) (hown : OwV w base e size A n cA xs) (hr : RdC w B ys) (hm : ys.length = m * size) (h1 : ∀ u ∈ ys, u.oneCell' = true)
    (h63 : n + m ≤ maxLen) (hbytes : (n + m) * bytes ≤ 140737488355328) (hbase : base ≤ w.heap.size)
    (h : ∀ A' c' w', OwV w' base e size A' (n + m) c' (xs ++ ys) → w.grownBy w' (bl A) → (bl A' = bl A ∨ bl A' = some w.heap.size) → wpList Tryd.prog ops Q rest (a.put o.dst (.slice A' (n + m) c')) w') : wpList Tryd.prog ops Q (o :: rest) a w :=
  wpList_plain hgd fun _ hK => by
    obtain ⟨A', c', w', hrun, h2, h3, h4⟩ := run_app_v w ht hi hz hsize hby hzs hsz base o.type A n cA xs B m c ys hown hr hm h1 h63 hbytes hbase
    unfold Oper.wp execOp
    simp only [ho, resolve, invoke, builtin, Sem.run_bind, Sem.run_pure, Result.andThen_ok, List.map_toArray, List.map_cons, List.map_nil, hs, hx, hrun]
    exact hK _ _ (h A' c' w' h2 h3 h4)
theorem step_app_v {ops : Array Oper} {o : Oper} {a : Act} {K : Act → World → Prop} {Q : Exit → Act → World → Prop} {E : Prop} (hgd : o.guard = none) (s x : Operand)
    (ho : o.op = .call { callee := .builtin .append, args := #[s, x], argTypes := #[t, t] })
    (base : Nat) (A : Option Addr) (n cA : Nat) (xs : List Value) (B : Option Addr) (m c : Nat) (ys : List Value) (hs : a.eval s = .slice A n cA) (hx : a.eval x = .slice B m c) (hown : OwV w base e size A n cA xs) (hr : RdC w B ys) (hm : ys.length = m * size) (h1 : ∀ u ∈ ys, u.oneCell' = true)
    (h63 : n + m ≤ maxLen) (hbytes : (n + m) * bytes ≤ 140737488355328) (hbase : base ≤ w.heap.size)
    (h : ∀ A' c' w', OwV w' base e size A' (n + m) c' (xs ++ ys) → w.grownBy w' (bl A) → (bl A' = bl A ∨ bl A' = some w.heap.size) → K (a.put o.dst (.slice A' (n + m) c')) w') : if Region.wanted o (yielded ops a.tmps) = true then Oper.wp Tryd.prog o a w K Q else E := by
  have hw : Region.wanted o (yielded ops a.tmps) = true := by simp [Region.wanted, hgd]
  rw [if_pos hw]
  obtain ⟨A', c', w', hrun, h2, h3, h4⟩ := run_app_v w ht hi hz hsize hby hzs hsz base o.type A n cA xs B m c ys hown hr hm h1 h63 hbytes hbase
  unfold Oper.wp execOp
  simp only [ho, resolve, invoke, builtin, Sem.run_bind, Sem.run_pure, Result.andThen_ok, List.map_toArray, List.map_cons, List.map_nil, hs, hx, hrun]
  exact h A' c' w' h2 h3 h4
theorem wpl_fresh_v {ops : Array Oper} {rest : List Oper} {o : Oper} {a : Act} {Q : Exit → Act → World → Prop} (hgd : o.guard = none) (s x : Operand)
    (ho : o.op = .call { callee := .builtin .append, args := #[s, x], argTypes := #[t, t] })
    (base g n : Nat) (cs : Array Value) (B : Option Addr) (m c : Nat) (ys : List Value) (hs : a.eval s = .slice (some ⟨g, 0, none⟩) n n) (hx : a.eval x = .slice B m c) (hg : Blk w g e cs) (hb : base ≤ g) (hn : cs.size = n * size) (hr : RdC w B ys) (hm : ys.length = m * size) (h1 : ∀ u ∈ ys, u.oneCell' = true)
    (h63 : n + m ≤ maxLen) (hbytes : (n + m) * bytes ≤ 140737488355328)
    (h : ∀ A' c' w', OwV w' base e size A' (n + m) c' (cs.toList ++ ys) → Ext w w' → wpList Tryd.prog ops Q rest (a.put o.dst (.slice A' (n + m) c')) w') : wpList Tryd.prog ops Q (o :: rest) a w :=
  wpList_plain hgd fun _ hK => by
    obtain ⟨A', c', w', hrun, h2, h3⟩ := run_fresh_v w ht hi hz hsize hby hzs hsz base o.type g n cs B m c ys hg hb hn hr hm h1 h63 hbytes
    unfold Oper.wp execOp
    simp only [ho, resolve, invoke, builtin, Sem.run_bind, Sem.run_pure, Result.andThen_ok, List.map_toArray, List.map_cons, List.map_nil, hs, hx, hrun]
    exact hK _ _ (h A' c' w' h2 h3)
end
end Go.Proofs.YtcpadkaljnnieaaDoor
namespace Go.Proofs.YtcpadkaljnnieaaDoor
open Go.RowKit Go.ChangeShapes Go.WideShapes Go.ChangeAt

def ofT (w : World) (base : Nat) (ts : List TypeId) (k : Nat) : Prop := base ≤ k ∧ ∃ cs t, w.heap[k]? = some (.cells cs t (0, 0)) ∧ t ∈ ts
/-- what was there is as it was, but for blocks from base on of these element types -/
def ModT (base : Nat) (ts : List TypeId) (w w' : World) : Prop := Mod (ofT w base ts) w w'
section
variable {base : Nat} {ts : List TypeId} {w w' w2 : World}
theorem ModT.rf (w : World) : ModT base ts w w := Mod.rf w
theorem ModT.of_ext (h : Ext w w') : ModT base ts w w' := Mod.of_ext h
theorem ModT.tr (h : ModT base ts w w') (k : ModT base ts w' w2) : ModT base ts w w2 := by
  refine Mod.tr' h k fun i hi hs => ?_
  by_cases ho : ofT w base ts i
  · exact ho
  · obtain ⟨hb, cs, t, hc, ht⟩ := hs
    exact ⟨hb, cs, t, (h.block i hi ho).symm.trans hc, ht⟩
theorem ModT.ext (h : ModT base ts w w') (k : Ext w' w2) : ModT base ts w w2 := h.tr (.of_ext k)
theorem ModT.set (w : World) {g : Nat} {t : TypeId} {cs : Array Value} (hg : Blk w g t cs) (ht : t ∈ ts) (hb : base ≤ g) (i : Nat) (u : Value) : ModT base ts w (w.setCell ⟨g, i, none⟩ u) :=
  Mod.set (p := ⟨g, i, none⟩) (Mod.rf w) (.inl ⟨hb, cs, t, hg, ht⟩) u
theorem ModT.size (h : ModT base ts w w') : w.heap.size ≤ w'.heap.size := Mod.size h
theorem Ext.modT {w0 : World} (h : Ext w0 w) (k : ModT base ts w w') (hb : w0.heap.size ≤ base) : Ext w0 w' := h.mod k fun _ hk hs => by have := hs.1; omega
theorem Blk.modT {g : Nat} {t : TypeId} {cs : Array Value} (h : Blk w g t cs) (k : ModT base ts w w') (ht : t ∉ ts) : Blk w' g t cs :=
  h.mod k fun hs => by
    obtain ⟨_, cs', t', h1, h2⟩ := hs
    rw [h] at h1
    injection h1 with h1
    injection h1 with _ h1
    subst h1
    exact ht h2
theorem RdV.modT {e : TypeId} {A : Option Addr} {vs : List Value} (h : RdV w e A vs) (k : ModT base ts w w') (ht : e ∉ ts) : RdV w' e A vs :=
  h.mod k fun b cur hb hs => by
    obtain ⟨_, cs', t', h1, h2⟩ := hs
    rw [hb] at h1
    injection h1 with h1
    injection h1 with _ h1
    subst h1
    exact ht h2
theorem OwV.modT {base' : Nat} {e : TypeId} {size n c : Nat} {A : Option Addr} {vs : List Value} (h : OwV w base' e size A n c vs) (k : ModT base ts w w') (ht : e ∉ ts) : OwV w' base' e size A n c vs :=
  h.keep fun g hg => by
    rcases h.cases with ⟨rfl, rfl, rfl, rfl⟩ | ⟨g', cur, rfl, hb', hh, _⟩
    · simp [bl] at hg
    · simp [bl] at hg
      subst hg
      exact k.block g' (Array.getElem?_eq_some_iff.1 hh).1 fun hs => by
        obtain ⟨_, cs', t', h1, h2⟩ := hs
        rw [hh] at h1
        injection h1 with h1
        injection h1 with _ h1
        subst h1
        exact ht h2
end
end Go.Proofs.YtcpadkaljnnieaaDoor
namespace Go.Proofs.YtcpadkaljnnieaaDoor
open Go.RowKit Go.ChangeShapes Go.WideShapes Go.ChangeAt Go.Deep

theorem str_info : (Tryd.prog.info? 9).map (fun i => (i.zero, i.size, i.bytes)) = some (some (.string ⟨#[]⟩), 1, 16) := by kernel_rfl
def txV (l : List Txt) : List Value := l.map txS
theorem txV_snoc (l : List Txt) (a : Txt) : txV (l ++ [a]) = txV l ++ [txS a] := by unfold txV; rw [List.map_append]; rfl
theorem txV_len (l : List Txt) : (txV l).length = l.length := by unfold txV; rw [List.length_map]
/-- strings.Join of a slice of the call's own -/
theorem join_own (base : Nat) (A : Option Addr) (c : Nat) (l : List Txt) (s : Txt) (w : World) (h : OwV w base 9 1 A l.length c (txV l)) (h0 : l ≠ []) (hn : l.length ≤ 1000) (hlen : (Lib.join l s).length ≤ 140737488355328) :
    Calls Tryd.prog 26 #[.slice A l.length c, .string ⟨s.toArray⟩] w fun e w' => e = .returned (txS (Lib.join l s)) ∧ Ext w w' := by
  have hr := h.read.rdC
  have hle := h.le
  rcases hr with e | ⟨b, off, rfl, hlt, hc⟩
  · exact absurd (List.map_eq_nil_iff.1 e) h0
  · have e1 : (l.map fun t : Txt => (⟨t.toArray⟩ : ByteArray)).map (·.data.toList) = l := by
      rw [List.map_map]
      exact (List.map_congr_left fun t _ => by simp).trans (List.map_id l)
    have J := join_any b off c (l.map fun t : Txt => (⟨t.toArray⟩ : ByteArray)) ⟨s.toArray⟩ w (fun j x hj => by
      rw [List.getElem?_map] at hj
      obtain ⟨t, ht, rfl⟩ := Option.map_eq_some_iff.1 hj
      refine hc j _ ?_
      unfold txV
      rw [List.getElem?_map, ht]
      rfl) hlt (by rw [List.length_map]; omega) (by rw [List.length_map]; exact hle.1) (by rw [e1]; simpa using hlen)
    rw [e1, List.length_map] at J
    refine J.mono ?_
    rintro e w' ⟨rfl, x⟩
    exact ⟨by simp [txS], x⟩
end Go.Proofs.YtcpadkaljnnieaaDoor
namespace Go.Proofs.YtcpadkaljnnieaaDoor
open Go.RowKit Go.ChangeShapes Go.WideShapes Go.ChangeAt Go.Deep

theorem cutprefix_any (s p : Txt) (w : World) :
    Calls Tryd.prog 43 #[.string ⟨s.toArray⟩, .string ⟨p.toArray⟩] w fun e w' => e = .returned (.tuple #[.string ⟨(Lib.trimPrefix s p).toArray⟩, .bool (Lib.hasPrefix s p)]) ∧ w' = w :=
  Any.strings_CutPrefix cutp ⟨s.toArray⟩ ⟨p.toArray⟩ w
theorem trimprefix_any (s p : Txt) (w : World) :
    Calls Tryd.prog 47 #[.string ⟨s.toArray⟩, .string ⟨p.toArray⟩] w fun e w' => e = .returned (.string ⟨(Lib.trimPrefix s p).toArray⟩) ∧ w' = w :=
  Any.strings_TrimPrefix trimp ⟨s.toArray⟩ ⟨p.toArray⟩ w
theorem index1_any (s : ByteArray) (c : UInt8) (w : World) :
    Calls Tryd.prog 41 #[.string s, .string ⟨#[c]⟩] w fun e w' => e = .returned (.int .i64 (Lib.indexB s ⟨#[c]⟩)) ∧ w' = w := by
  have C := Any.stringslite_Index_one (ρ := cutl_ren) { cutl with } s c w
  have e : Lib.indexB s ⟨#[c]⟩ = Lib.indexByte s.data.toList c := Lib.index_one _ _
  rw [e]
  exact C
theorem split1_gen (s : ByteArray) (c : UInt8) (w : World) (hs : s.size < 4294967281) :
    Calls Tryd.prog 42 #[.string s, .string ⟨#[c]⟩, .int .i64 0, .int .i64 (-1)] w fun e w' =>
      e = .returned (.slice (some ⟨w.heap.size, 0, none⟩) (Lib.countB s ⟨#[c]⟩ + 1) (Lib.countB s ⟨#[c]⟩ + 1)) ∧
        w' = w.alloc (.cells ((Lib.splitB ⟨#[c]⟩ 0 (Lib.countB s ⟨#[c]⟩) s).map Value.string).toArray 9) := by
  have hle := Lib.countB_le ⟨#[c]⟩ (Nat.le_refl 1) s.size s (Nat.le_refl _)
  have hlen := Lib.splitB_all ⟨#[c]⟩ (Nat.le_refl 1) 0 _ s rfl
  have C := Any.strings_genSplit_core (ρ := split_ren) { split with } str_info s ⟨#[c]⟩ 0 (-1) (Lib.countB s ⟨#[c]⟩ + 1) w hs (Nat.le_refl 1) (Nat.zero_le _)
    (fun x cs _ => by
      have I := Any.strings_Index_one (ρ := split_ren) { split with } x c (w.alloc (.cells cs 9))
      have e : Lib.indexB x ⟨#[c]⟩ = Lib.indexByte x.data.toList c := Lib.index_one _ _
      rw [e]
      exact I)
    (by
      have K := Any.strings_Count_one (ρ := split_ren) { split with } s c w
      have e : Lib.countB s ⟨#[c]⟩ = s.data.toList.count c := Lib.count_one c _
      rw [e]
      exact K)
    (by decide) (by decide) (by rw [if_pos (by decide)]; omega)
  rw [Nat.add_sub_cancel, hlen] at C
  have e2 : Lib.cellsOf (Lib.splitB ⟨#[c]⟩ 0 (Lib.countB s ⟨#[c]⟩) s) (Lib.countB s ⟨#[c]⟩ + 1) = ((Lib.splitB ⟨#[c]⟩ 0 (Lib.countB s ⟨#[c]⟩) s).map Value.string).toArray := by rw [← hlen]; exact Lib.cellsOf_full _
  rw [e2] at C
  exact C
theorem splitB_c (s : Txt) (c : UInt8) : (Lib.splitB ⟨#[c]⟩ 0 (Lib.countB ⟨s.toArray⟩ ⟨#[c]⟩) ⟨s.toArray⟩).map Value.string = txV (splitC c s) := by
  have e : Lib.countB ⟨s.toArray⟩ ⟨#[c]⟩ = s.count c := Lib.count_one c _
  have h := Lib.splitB_data ⟨#[c]⟩ 0 (s.count c) ⟨s.toArray⟩
  have h2 : (Lib.splitB ⟨#[c]⟩ 0 (s.count c) ⟨s.toArray⟩).map (·.data.toList) = splitC c s := h.trans (split_k c s)
  rw [e, ← h2]
  unfold txV
  rw [List.map_map]
  exact (List.map_congr_left fun x _ => by simp [txS]).symm
theorem splitC_len (s : Txt) (c : UInt8) : Lib.countB ⟨s.toArray⟩ ⟨#[c]⟩ + 1 = (splitC c s).length := by
  have h := congrArg List.length (splitB_c s c)
  rw [txV_len, List.length_map] at h
  rw [← h]
  exact (Lib.splitB_all ⟨#[c]⟩ (Nat.le_refl 1) 0 _ ⟨s.toArray⟩ rfl).symm
set_option maxRecDepth 100000 in
/-- strings.Split at one byte: a slice of the call's own -/
theorem split1_any (s : Txt) (c : UInt8) (w : World) (hs : s.length < 4294967281) :
    Calls Tryd.prog 32 #[.string ⟨s.toArray⟩, .string ⟨#[c]⟩] w fun e w' => e = .returned (.slice (some ⟨w.heap.size, 0, none⟩) (splitC c s).length (splitC c s).length) ∧ w' = w.alloc (.cells (txV (splitC c s)).toArray 9) := by
  have C := split1_gen ⟨s.toArray⟩ c w (by simpa [Lib.size_eq] using hs)
  rw [splitC_len, splitB_c] at C
  have C2 := Lib.hid C
  have hlen := splitC_len s c
  have hle := Lib.countB_le ⟨#[c]⟩ (Nat.le_refl 1) s.length ⟨s.toArray⟩ (Nat.le_of_eq (by simp [Lib.size_eq]))
  have hl : (splitC c s).length ≤ 4294967282 := by rw [Lib.size_eq] at hle; simp at hle; omega
  clear hlen hle C
  go_enter Tryd.func32, Tryd.ntmps32
  go_wp2_with (go_at_call 42; refine C2.out.mono ?_; rintro e w' ⟨rfl, rfl⟩)
  go_ret
  exact ⟨rfl, rfl⟩
set_option maxRecDepth 100000 in
theorem cut1_lite (s : ByteArray) (c : UInt8) (w : World) (hs : s.size < 4294967281) :
    Calls Tryd.prog 31 #[.string s, .string ⟨#[c]⟩] w fun e w' => e = .returned (.tuple #[txS (cutC c s.data.toList).1, txS (cutC c s.data.toList).2.1, .bool (cutC c s.data.toList).2.2]) ∧ ∃ n, w' = w.drewN n := by
  have IX := Lib.hid (index1_any s c w)
  obtain ⟨sep, hsep⟩ : ∃ sep : ByteArray, sep = ⟨#[c]⟩ := ⟨_, rfl⟩
  rw [← hsep] at IX ⊢
  have hz : sep.size = 1 := by rw [hsep]; rfl
  have hcut : Lib.cut s.data.toList sep.data.toList = cutC c s.data.toList := by rw [hsep]; exact cut_c c _
  rw [← hcut]
  have hH := Lib.hid hcut
  clear hcut hsep
  rcases Lib.indexB_cases s sep with hix | ⟨i, hix, hroom⟩
  · obtain ⟨e1, e2, e3⟩ := Lib.cutB_miss s sep hix
    unfold txS
    rw [e1, e2, e3]
    have f4 := Lib.hid hix
    clear e1 e2 e3 hix
    go_enter Tryd.func31, Tryd.ntmps31
    go_wp2_with (go_at_call 41; refine IX.out.mono ?_; rintro e w' ⟨rfl, rfl⟩; rw [f4.out])
    go_ret3
    exact ⟨rfl, 0, rfl⟩
  · obtain ⟨e1, e2, e3⟩ := Lib.cutB_hit s sep i hix
    unfold txS
    rw [e1, e2, e3]
    have f4 := Lib.hid hix
    have c1 : (0 : Int) ≤ ↑i := by omega
    have c2 : (↑i : Int) ≤ ↑s.size := by omega
    have c3 : (0 : Int) ≤ ↑i + ↑sep.size := by omega
    have c4 : (↑i + ↑sep.size : Int) ≤ ↑s.size := by omega
    clear e1 e2 e3 hix hz
    go_enter Tryd.func31, Tryd.ntmps31
    go_wp2_with (go_at_call 41; refine IX.out.mono ?_; rintro e w' ⟨rfl, rfl⟩; rw [f4.out])
    have mixed : Tryd.prog.follows .mixedOrders = true := cutl.mixed
    go_region_o
    go_wp2
    go_ret3
    exact ⟨rfl, 1, rfl⟩
set_option maxRecDepth 100000 in
/-- strings.Cut at one byte -/
theorem cut1_any (s : Txt) (c : UInt8) (w : World) (hs : s.length < 4294967281) :
    Calls Tryd.prog 19 #[.string ⟨s.toArray⟩, .string ⟨#[c]⟩] w fun e w' => e = .returned (.tuple #[txS (cutC c s).1, txS (cutC c s).2.1, .bool (cutC c s).2.2]) ∧ Ext w w' := by
  have C := Lib.hid (cut1_lite ⟨s.toArray⟩ c w (by simpa [Lib.size_eq] using hs))
  simp only [List.toList_toArray] at C
  generalize cutC c s = r at C ⊢
  obtain ⟨a, b, d⟩ := r
  go_enter Tryd.func19, Tryd.ntmps19
  go_wp2_with (go_at_call 31; refine C.out.mono ?_; rintro e w' ⟨rfl, n, rfl⟩)
  go_ret3
  exact ⟨rfl, (Ext.rf w).drewN n⟩
end Go.Proofs.YtcpadkaljnnieaaDoor
namespace Go.Proofs.YtcpadkaljnnieaaDoor
open Go.RowKit Go.ChangeShapes Go.WideShapes Go.ChangeAt Go.Deep

/-- the slice with head A: each element lies in so many cells, which read as R says -/
def RdE {α : Type} (size : Nat) (R : World → List Value → α → Prop) (w : World) (A : Option Addr) (xs : List α) : Prop :=
  xs = [] ∨ ∃ b off, A = some ⟨b, off, none⟩ ∧ b < w.heap.size ∧ ∀ i x, xs[i]? = some x → ∃ cs : List Value, R w cs x ∧ cs.length = size ∧ ∀ j v, cs[j]? = some v → w.cell? ⟨b, off + i * size + j, none⟩ = some v
section
variable {α : Type} {size : Nat} {R : World → List Value → α → Prop} {w w' : World} {A : Option Addr} {xs : List α}
theorem RdE.ext (h : RdE size R w A xs) (hb : Ext w w') (hR : ∀ cs x, R w cs x → R w' cs x) : RdE size R w' A xs := by
  rcases h with rfl | ⟨b, off, rfl, hlt, hc⟩
  · exact .inl rfl
  · refine .inr ⟨b, off, rfl, Nat.lt_of_lt_of_le hlt hb.size, fun i x hi => ?_⟩
    obtain ⟨cs, h1, h2, h3⟩ := hc i x hi
    exact ⟨cs, hR _ _ h1, h2, fun j v hj => by rw [hb.cell hlt]; exact h3 j v hj⟩
theorem RdE.at (h : RdE size R w A xs) {i : Nat} (hi : i < xs.length) : ∃ b off cs x, A = some ⟨b, off, none⟩ ∧ b < w.heap.size ∧ R w cs x ∧ cs.length = size ∧ (∀ j v, cs[j]? = some v → w.cell? ⟨b, off + i * size + j, none⟩ = some v) ∧ Hid (xs[i]? = some x) := by
  rcases h with rfl | ⟨b, off, rfl, hlt, hc⟩
  · simp at hi
  · obtain ⟨cs, h1, h2, h3⟩ := hc i xs[i] (List.getElem?_eq_getElem hi)
    exact ⟨b, off, cs, xs[i], rfl, hlt, h1, h2, h3, List.getElem?_eq_getElem hi⟩
end

section
variable {H : Type} {enc : TypeId × Value → H} {W : World}
/-- what the cells of a value say, for the opener of its slices -/
def OpensAs {α : Type} (enc : TypeId × Value → H) (W : World) (e : TypeId) (R : World → List Value → α → Prop) : Prop :=
  ∀ (fuel : Nat) (cs : List Value) (x : DataW H × List MemPlace), DataW.trod enc Tryd.prog W 0 (fun _ => true) true fuel e cs = some x → ∃ a : α, R W cs a
theorem choose_R {α : Type} {n : Nat} {P : Nat → α → Prop} (h : ∀ i, i < n → ∃ a, P i a) : ∃ xs : List α, xs.length = n ∧ ∀ i x, xs[i]? = some x → P i x := by
  induction n with
  | zero => exact ⟨[], rfl, fun i x hx => by simp at hx⟩
  | succ n ih =>
    obtain ⟨xs, h1, h2⟩ := ih fun i hi => h i (by omega)
    obtain ⟨a, ha⟩ := h n (by omega)
    refine ⟨xs ++ [a], by simp [h1], fun i x hx => ?_⟩
    by_cases hi : i < xs.length
    · rw [List.getElem?_append_left hi] at hx
      exact h2 i x hx
    · rw [List.getElem?_append_right (by omega)] at hx
      obtain ⟨h0, hx⟩ := List.getElem?_eq_some_iff.1 hx
      have : i = n := by simp at h0; omega
      subst this
      simp at hx
      subst hx
      exact ha
theorem open_E {α : Type} {t e : TypeId} {size : Nat} {R : World → List Value → α → Prop} (ht : Tryd.prog.underlying t = some (.slice e)) (hsz : Tryd.prog.cellsOf e = size) (h0 : 0 < size) (hR : OpensAs enc W e R)
    {fuel : Nat} {cs : List Value} {x : DataW H × List MemPlace} (h : DataW.trod enc Tryd.prog W 0 (fun _ => true) true fuel t cs = some x) :
    ∃ (A : Option Addr) (xs : List α) (c : Nat), cs = [.slice A xs.length c] ∧ RdE size R W A xs ∧ xs.length ≤ c ∧ c ≤ maxLen := by
  rcases open_slice ht h with ⟨rfl, _⟩ | ⟨a, len, cap, m, n, D, Pl, rfl, _, hl, hm, hmm, _, hi⟩
  · exact ⟨none, [], 0, rfl, .inl rfl, Nat.le_refl 0, zero_le_maxLen⟩
  · simp only [if_true] at hmm
    subst hmm
    have each : ∀ i, i < len → ∃ y : α, ∃ cs' : List Value, R W cs' y ∧ cs'.length = size ∧ ∀ j v, cs'[j]? = some v → W.cell? (a.add (i * size + j)) = some v := by
      intro i hil
      obtain ⟨cs', hc, ht'⟩ := hi i (by omega)
      obtain ⟨y, hy⟩ := hR _ _ _ ht'
      obtain ⟨_, hcl, hat⟩ := World.cells?_some hc
      refine ⟨y, cs', hy, by rw [hcl, hsz], fun j v hj => ?_⟩
      have hjl : j < Tryd.prog.cellsOf e := by rw [← hcl]; exact (List.getElem?_eq_some_iff.1 hj).1
      have := hat j hjl
      rw [hj, hsz, Go.Deep.add_add] at this
      exact this
    obtain ⟨xs, hx1, hx2⟩ := choose_R each
    subst hx1
    refine ⟨some a, xs, _, rfl, ?_, hl, hm⟩
    by_cases hx0 : xs = []
    · exact .inl hx0
    · obtain ⟨y0, hy0⟩ : ∃ y, xs[0]? = some y := by
        cases xs with
        | nil => exact absurd rfl hx0
        | cons y ys => exact ⟨y, rfl⟩
      obtain ⟨cs0, _, hl0, hc0⟩ := hx2 0 y0 hy0
      have hv : cs0[0]? = some (cs0[0]'(by omega)) := List.getElem?_eq_getElem (by omega)
      have hcell := hc0 0 _ hv
      obtain ⟨b, off, spot⟩ := a
      have hspot : spot = none := by simpa [Addr.add] using World.cell?_spot hcell
      subst hspot
      refine .inr ⟨b, off, rfl, by simpa [Addr.add] using World.block_lt_of_cell? W _ hcell, fun i y hy => ?_⟩
      obtain ⟨cs', h1, h2, h3⟩ := hx2 i y hy
      exact ⟨cs', h1, h2, fun j v hj => by rw [Nat.add_assoc, ← add_plain]; exact h3 j v hj⟩
set_option maxRecDepth 100000 in
theorem open_E' {α : Type} {t e : TypeId} {size base : Nat} {R : World → List Value → α → Prop} (ht : Tryd.prog.underlying t = some (.slice e)) (hsz : Tryd.prog.cellsOf e = size) (h0 : 0 < size) (hR : OpensAs enc W e R)
    {v : Value} {d : DataW H} {p : List MemPlace} (hd : DataW.Trod enc Tryd.prog W 0 (fun _ => true) true t v d p) (hv : Value.okWide Tryd.prog W .any base t v) :
    ∃ (A : Option Addr) (xs : List α) (c : Nat), v = .slice A xs.length c ∧ RdE size R W A xs ∧ xs.length ≤ c ∧ c ≤ maxLen := by
  obtain ⟨a0, len, cap, rfl⟩ := okWide_slice ht hv
  obtain ⟨fuel, hf⟩ := hd
  obtain ⟨A, xs, c, hcs, h1, h2, h3⟩ := open_E ht hsz h0 hR hf
  simp [Value.cells] at hcs
  obtain ⟨rfl, rfl, rfl⟩ := hcs
  exact ⟨_, xs, _, rfl, h1, h2, h3⟩
/-- an int -/
def RInt (_ : World) (cs : List Value) (x : Int) : Prop := cs = [.int .i64 x] ∧ -9223372036854775808 ≤ x ∧ x ≤ 9223372036854775807
theorem opens_int : OpensAs enc W 3 RInt := fun fuel cs x h => by
  obtain ⟨n, rfl, _, hw⟩ := DataW.trod_int Tryd.underlying3 h
  exact ⟨n, rfl, int_bd hw⟩
/-- a field of a struct, by itself -/
theorem field_of {t : TypeId} {fs : Array Field} {fuel : Nat} {cs : List Value} {x : DataW H × List MemPlace} (ht : Tryd.prog.underlying t = some (.struct fs)) (h : DataW.trod enc Tryd.prog W 0 (fun _ => true) true fuel t cs = some x) :
    cs.length = Tryd.prog.cellsOf t ∧ ∀ (i : Nat) (f : Field), fs[i]? = some f → ∃ n y, DataW.trod enc Tryd.prog W 0 (fun _ => true) true n f.type ((cs.drop f.offset).take (Tryd.prog.cellsOf f.type)) = some y := by
  obtain ⟨xs, n, _, _, hlen, hl, hf⟩ := DataW.trod_struct ht h
  refine ⟨hlen, fun i f hi => ?_⟩
  have hlt : i < xs.length := by rw [hl]; exact (Array.getElem?_eq_some_iff.1 hi).1
  exact ⟨n, xs[i], by rw [hf i f hi]; exact List.getElem?_eq_getElem hlt⟩
theorem field_at {t : TypeId} {fs : Array Field} {fuel : Nat} {cs : List Value} {x : DataW H × List MemPlace} (ht : Tryd.prog.underlying t = some (.struct fs)) (h : DataW.trod enc Tryd.prog W 0 (fun _ => true) true fuel t cs = some x)
    (i : Nat) (ft : TypeId) (o s : Nat) (hf : (fs[i]?).map (fun f => (f.type, f.offset)) = some (ft, o)) (hs : Tryd.prog.cellsOf ft = s) : ∃ n y, DataW.trod enc Tryd.prog W 0 (fun _ => true) true n ft ((cs.drop o).take s) = some y := by
  obtain ⟨f, hf1, hf2⟩ := Option.map_eq_some_iff.1 hf
  simp only [Prod.mk.injEq] at hf2
  obtain ⟨rfl, rfl⟩ := hf2
  subst hs
  exact (field_of ht h).2 i f hf1
end
end Go.Proofs.YtcpadkaljnnieaaDoor
namespace Go.Proofs.YtcpadkaljnnieaaDoor
open Go.RowKit

/-- the frame a0 with the values u of the operations that are listed here -/
def putAll (a0 : Act) : List (Nat × Option Tmp) → (Nat → Value) → Act
  | [], _ => a0
  | p :: ps, u => (putAll a0 ps u).put p.2 (u p.1)
def upd (u : Nat → Value) (i : Nat) (v : Value) : Nat → Value := fun j => if j = i then v else u j
/-- the operations ahead of number i, of those that are not yet listed -/
def depsOf (ops : Array Oper) (rem : List (Nat × Option Tmp)) (i : Nat) : List Nat :=
  match ops[i]? with
  | none => []
  | some o => (o.after.toList.filter fun e => Region.binds .any e && (rem.map (·.1)).contains e.on).map (·.on)
theorem depIn {ops : Array Oper} {rem : List (Nat × Option Tmp)} {i j : Nat} (h : (depsOf ops rem i).contains j = true) : j ∈ depsOf ops rem i := by simpa using h
theorem Act.put_put_ne (a : Act) {x y : Option Tmp} (v u : Value) (h : ∀ d, x = some d → y ≠ some d) : (a.put x v).put y u = (a.put y u).put x v := Act.put_comm a v u h
theorem Act.put_twice (a : Act) (x : Option Tmp) (v u : Value) : (a.put x v).put x u = a.put x u := by
  cases x with
  | none => rfl
  | some d => simp [Act.put, Array.setIfInBounds_setIfInBounds]
theorem putAll_upd (a0 : Act) (i : Nat) (d : Option Tmp) (u : Nat → Value) (v : Value) : ∀ (rem : List (Nat × Option Tmp)), (rem.map (·.1)).Nodup → (rem.filterMap (·.2)).Nodup → (i, d) ∈ rem →
    (putAll a0 rem u).put d v = putAll a0 rem (upd u i v)
  | [], _, _, h => by cases h
  | p :: ps, hn, hd, h => by
    have same : ∀ (qs : List (Nat × Option Tmp)), i ∉ qs.map (·.1) → putAll a0 qs (upd u i v) = putAll a0 qs u := by
      intro qs
      induction qs with
      | nil => intro _; rfl
      | cons q qs ih =>
        intro hq
        simp only [List.map_cons, List.mem_cons, not_or] at hq
        simp only [putAll, ih hq.2, upd, if_neg (Ne.symm hq.1)]
    rcases List.mem_cons.1 h with rfl | h'
    · have hni : i ∉ ps.map (·.1) := by simpa using (List.nodup_cons.1 hn).1
      simp only [putAll, same ps hni, upd, if_true]
      exact Act.put_twice _ _ _ _
    · have hpi : p.1 ≠ i := by
        rintro rfl
        exact (List.nodup_cons.1 hn).1 (List.mem_map.2 ⟨_, h', rfl⟩)
      have hd' : (ps.filterMap (·.2)).Nodup := by
        cases hp : p.2 with
        | none => simpa [List.filterMap_cons, hp] using hd
        | some t => rw [List.filterMap_cons, hp] at hd; exact (List.nodup_cons.1 hd).2
      have ih := putAll_upd a0 i d u v ps (List.nodup_cons.1 hn).2 hd' h'
      simp only [putAll, upd, if_neg hpi]
      rw [← ih]
      refine Act.put_put_ne _ _ _ ?_
      intro t ht hdt
      rw [List.filterMap_cons, ht] at hd
      exact (List.nodup_cons.1 hd).1 (List.mem_filterMap.2 ⟨(i, d), h', hdt⟩)
theorem put_same (a : Act) (d : Tmp) : a.put (some d) (a.tmps.getD d undef) = a := by
  have : a.tmps.setIfInBounds d (a.tmps.getD d undef) = a.tmps := by
    apply Array.ext_getElem?
    intro j
    rw [Array.getElem?_setIfInBounds]
    split
    · rename_i h
      subst h
      split
      · rename_i h; simp [h]
      · rename_i h; simp [Array.getElem?_eq_none (Nat.le_of_not_lt h)]
    · rfl
  show ({ a with tmps := a.tmps.setIfInBounds d (a.tmps.getD d undef) } : Act) = a
  rw [this]
theorem putAll_far (a0 : Act) (u : Nat → Value) (i : Nat) (v : Value) : ∀ (qs : List (Nat × Option Tmp)), i ∉ qs.map (·.1) → putAll a0 qs (upd u i v) = putAll a0 qs u
  | [], _ => rfl
  | q :: qs, hq => by
    simp only [List.map_cons, List.mem_cons, not_or] at hq
    simp only [putAll, putAll_far a0 u i v qs hq.2, upd, if_neg (Ne.symm hq.1)]
theorem putAll_self (a0 : Act) : ∀ (rem : List (Nat × Option Tmp)), (rem.map (·.1)).Nodup → ∃ u, putAll a0 rem u = a0
  | [], _ => ⟨fun _ => undef, rfl⟩
  | p :: ps, hn => by
    obtain ⟨u, hu⟩ := putAll_self a0 ps (List.nodup_cons.1 hn).2
    have hni : p.1 ∉ ps.map (·.1) := (List.nodup_cons.1 hn).1
    refine ⟨upd u p.1 (match p.2 with | some d => a0.tmps.getD d undef | none => undef), ?_⟩
    simp only [putAll, putAll_far a0 u _ _ ps hni, hu, upd, if_true]
    cases p.2 with
    | none => rfl
    | some d => exact put_same a0 d
section
variable {P : Program} {ops : Array Oper} {Q : Exit → Act → World → Prop}
/-- how many are not yet listed -/
def openOf (listed : Array Bool) (rem : List (Nat × Option Tmp)) : Nat := (rem.filter fun p => !listed.getD p.1 true).length
end

section
variable {P : Program} {ops : Array Oper} {Q : Exit → Act → World → Prop}
end
section
variable {P : Program} {ops : Array Oper} {o : Oper} {a : Act} {w w' : World} {K : Act → World → Prop} {Q : Exit → Act → World → Prop} {E : Prop}
end
end Go.Proofs.YtcpadkaljnnieaaDoor
namespace Go.Proofs.YtcpadkaljnnieaaDoor
open Go.RowKit

/-- what the operations yield: those whose value is known ahead (f), and the others (g) -/
def VF (f : Nat → Option Value) (g : Nat → Value → World → Prop) (i : Nat) (v : Value) (w : World) : Prop := match f i with
  | some c => v = c
  | none => g i v w
theorem VF.stab {f : Nat → Option Value} {g : Nat → Value → World → Prop} {Stab : World → World → Prop} (h : ∀ j v w w', f j = none → g j v w → Stab w w' → g j v w') (j : Nat) (v : Value) (w w' : World) (hv : VF f g j v w) (hs : Stab w w') : VF f g j v w' := by
  unfold VF at *
  cases hf : f j with
  | some c => rw [hf] at hv; exact hv
  | none => rw [hf] at hv; exact h j v w w' hf hv hs
theorem VF.k {f : Nat → Option Value} {g : Nat → Value → World → Prop} {i : Nat} {v c : Value} {w : World} (h : VF f g i v w) (hf : f i = some c) : v = c := by unfold VF at h; rw [hf] at h; exact h
theorem VF.g {f : Nat → Option Value} {g : Nat → Value → World → Prop} {i : Nat} {v : Value} {w : World} (h : VF f g i v w) (hf : f i = none) : g i v w := by unfold VF at h; rw [hf] at h; exact h
theorem VF.mk {f : Nat → Option Value} {g : Nat → Value → World → Prop} {i : Nat} {c : Value} {w : World} (hf : f i = some c) : VF f g i c w := by unfold VF; rw [hf]
theorem VF.mg {f : Nat → Option Value} {g : Nat → Value → World → Prop} {i : Nat} {v : Value} {w : World} (hf : f i = none) (h : g i v w) : VF f g i v w := by unfold VF; rw [hf]; exact h
/-- what an operation is, but for its place and its edges -/
def opAt (ops : Array Oper) (i : Nat) : Option (Option (Nat × Bool) × Op × TypeId × Option Tmp) := (ops[i]?).map fun o => (o.guard, o.op, o.type, o.dst)
def exec2 (ρ : Operand → Value) (op : Op) (t : TypeId) : Sem Next := execOp ρ { dst := none, op := op, type := t, pos := "", after := #[], guard := none }
theorem exec2_eq (ρ : Operand → Value) (o : Oper) : execOp ρ o = exec2 ρ o.op o.type := rfl
section
variable {P : Program} {ops : Array Oper} {i : Nat} {op : Op} {t : TypeId} {d : Option Tmp} {a : Act} {w w' : World} {K : Act → World → Prop} {Q : Exit → Act → World → Prop}
theorem op_any (hi : opAt ops i = some (none, op, t, d)) (h : ∀ o : Oper, o.op = op → o.type = t → o.dst = d → o.upon P a K Q ((exec2 a.eval op t).run P w)) : wpOp P ops Q i K a w := by
  unfold opAt at hi
  obtain ⟨o, ho, he⟩ := Option.map_eq_some_iff.1 hi
  simp only [Prod.mk.injEq] at he
  obtain ⟨h1, h2, h3, h4⟩ := he
  unfold wpOp
  simp only [ho]
  rw [if_pos (by simp [Region.wanted, h1])]
  refine .inl ?_
  rw [Oper.wp, exec2_eq, h2, h3]
  exact h o h2 h3 h4
theorem op_run (hi : opAt ops i = some (none, op, t, d)) (v : Value) (hrun : (exec2 a.eval op t).run P w = .ok (.value v) w') (hK : K (a.put d v) w') : wpOp P ops Q i K a w :=
  op_any hi fun o _ _ hd => by rw [hrun, Oper.upon_value, hd]; exact hK
theorem op_skip (hi : opAt ops i = some (none, op, t, d)) (hrun : (exec2 a.eval op t).run P w = .ok .skip w') (hK : K (a.put d undef) w') : wpOp P ops Q i K a w :=
  op_any hi fun o _ _ hd => by rw [hrun, Oper.upon_skip, hd]; exact hK
theorem op_ld {T : TypeId} {x : Operand} (hi : opAt ops i = some (none, .load T x, t, d)) (p : Value) (hx : a.eval x = p) (v : Value) (hrun : (Instr.loadAt T p).run P w = .ok v w) (hK : K (a.put d v) w) : wpOp P ops Q i K a w :=
  op_run hi v (by simp [exec2, execOp, hx, hrun]) hK
theorem op_ix {T : TypeId} {x y : Operand} (hi : opAt ops i = some (none, .indexAddr T x y, t, d)) (p q : Value) (hx : a.eval x = p) (hy : a.eval y = q) (v : Value) (hrun : (Instr.indexAt T p q).run P w = .ok v w) (hK : K (a.put d v) w) : wpOp P ops Q i K a w :=
  op_run hi v (by simp [exec2, execOp, hx, hy, hrun]) hK
theorem op_st {T : TypeId} {x y : Operand} (hi : opAt ops i = some (none, .store T x y, t, d)) (p v : Value) (hx : a.eval x = p) (hy : a.eval y = v) (hrun : (Instr.storeAt T p v).run P w = .ok () w') (hK : K (a.put d undef) w') : wpOp P ops Q i K a w :=
  op_skip hi (by simp [exec2, execOp, hx, hy, hrun]) hK
/-- a call of a Go function, of so many arguments: what they are, args says -/
theorem op_call {f : Nat} {xs : Array Operand} {ts : Array TypeId} (hi : opAt ops i = some (none, .call { callee := .value (.func f), args := xs, argTypes := ts }, t, d)) (args : Array Value) (hf : (callFunc f args).run P w = .ok (.enter f args) w) (hargs : xs.map a.eval = args) (R : Ending → World → Prop) (hc : Calls P f args w R) (hK : ∀ e w', R e w' → ∃ v, e = .returned v ∧ K (a.put d v) w') : wpOp P ops Q i K a w :=
  op_any hi fun o _ _ hd => by
    have e1 : (exec2 a.eval (.call { callee := .value (.func f), args := xs, argTypes := ts }) t).run P w = .ok (.enter f args) w := by
      simp [exec2, execOp, resolve, invoke, hargs, Deferred.ofValue, Act.eval, hf]
    rw [e1, Oper.upon_enter]
    refine hc.mono fun e w1 he => ?_
    obtain ⟨v, rfl, hk⟩ := hK e w1 he
    rw [hd]
    exact hk
/-- take an operation first: of no guard; whose guard lets it; whose guard shuts it out -/
theorem wpAny_T {md : Region.Mode} {listed : Array Bool} {n : Nat} {v : Value} (hi : opAt ops i = some (none, op, t, d)) (hs : Region.noSelect ops = true) (hf : Region.free md ops listed i = true) (hr : (Region.ready md ops listed).contains i = true)
    (hQ : ∀ c a w, Q (.panic c) (a.put d v) w → Q (.panic c) a w) (hy : ∀ u, (exec2 a.eval op t).run P u = .ok (.value v) u) (h : wpAny P md ops Q n (listed.setIfInBounds i true) (a.put d v) w) : wpAny P md ops Q (n + 1) listed a w := by
  unfold opAt at hi
  obtain ⟨o, ho, he⟩ := Option.map_eq_some_iff.1 hi
  simp only [Prod.mk.injEq] at he
  obtain ⟨h1, rfl, rfl, rfl⟩ := he
  exact wpAny_take ho hs hf hr hQ (.inl ⟨by simp [Region.wanted, h1], hy⟩) h
theorem wpAny_G {md : Region.Mode} {listed : Array Bool} {n : Nat} {v : Value} {g : Nat × Bool} (hi : opAt ops i = some (some g, op, t, d)) (hs : Region.noSelect ops = true) (hf : Region.free md ops listed i = true) (hr : (Region.ready md ops listed).contains i = true)
    (hQ : ∀ c a w, Q (.panic c) (a.put d v) w → Q (.panic c) a w) (hg : yielded ops a.tmps g.1 = some g.2) (hy : ∀ u, (exec2 a.eval op t).run P u = .ok (.value v) u) (h : wpAny P md ops Q n (listed.setIfInBounds i true) (a.put d v) w) : wpAny P md ops Q (n + 1) listed a w := by
  unfold opAt at hi
  obtain ⟨o, ho, he⟩ := Option.map_eq_some_iff.1 hi
  simp only [Prod.mk.injEq] at he
  obtain ⟨h1, rfl, rfl, rfl⟩ := he
  exact wpAny_take ho hs hf hr hQ (.inl ⟨by simp [Region.wanted, h1, hg], hy⟩) h
theorem wpAny_S {md : Region.Mode} {listed : Array Bool} {n : Nat} {g : Nat × Bool} {b : Bool} (hi : opAt ops i = some (some g, op, t, d)) (hs : Region.noSelect ops = true) (hf : Region.free md ops listed i = true) (hr : (Region.ready md ops listed).contains i = true)
    (hQ : ∀ c a w, Q (.panic c) (a.put d undef) w → Q (.panic c) a w) (hg : yielded ops a.tmps g.1 = some b) (hb : (b != g.2) = true) (h : wpAny P md ops Q n (listed.setIfInBounds i true) (a.put d undef) w) : wpAny P md ops Q (n + 1) listed a w := by
  unfold opAt at hi
  obtain ⟨o, ho, he⟩ := Option.map_eq_some_iff.1 hi
  simp only [Prod.mk.injEq] at he
  obtain ⟨h1, rfl, rfl, rfl⟩ := he
  refine wpAny_take ho hs hf hr hQ (.inr ⟨?_, rfl⟩) h
  obtain ⟨g1, g2⟩ := g
  simp only at hg hb
  cases b <;> cases g2 <;> simp_all [Region.wanted]
theorem wpAny_next {md : Region.Mode} {listed : Array Bool} {n : Nat} (i : Nat) (h1 : Region.ready md ops listed = [i]) (h : wpOp P ops Q i (wpAny P md ops Q n (listed.setIfInBounds i true)) a w) : wpAny P md ops Q (n + 1) listed a w :=
  ⟨fun h0 => absurd (h1.symm.trans h0) (by simp), fun j hj => by
    rw [h1] at hj
    obtain rfl : j = i := by simpa using hj
    exact h⟩
end
end Go.Proofs.YtcpadkaljnnieaaDoor
namespace Go.Proofs.YtcpadkaljnnieaaDoor
open Go.RowKit

/-- number i waits for number q, through others of the list -/
def reachN (ops : Array Oper) (rs : List Nat) : Nat → Nat → Nat → Bool
  | 0, _, _ => false
  | f + 1, i, q => match ops[i]? with
    | none => false
    | some o => o.after.toList.any (fun e => Region.binds .any e && (e.on == q || (rs.contains e.on && reachN ops rs f e.on q)))
section
variable {P : Program} {ops : Array Oper} {Q : Exit → Act → World → Prop}
theorem reach_listed {listed : Array Bool} {rs : List Nat} (hcl : ∀ p ∈ rs, listed.getD p true = true → ∀ o, ops[p]? = some o → ∀ e ∈ o.after.toList, Region.binds .any e = true → listed.getD e.on true = true) :
    ∀ (f i : Nat), (∀ o, ops[i]? = some o → ∀ e ∈ o.after.toList, Region.binds .any e = true → listed.getD e.on true = true) → ∀ q, reachN ops rs f i q = true → listed.getD q true = true := by
  intro f
  induction f with
  | zero => intro i _ q h; cases h
  | succ f ih =>
    intro i hi q h
    unfold reachN at h
    cases ho : ops[i]? with
    | none => rw [ho] at h; cases h
    | some o =>
      rw [ho] at h
      obtain ⟨e, he, h⟩ := List.any_eq_true.1 h
      simp only [Bool.and_eq_true, Bool.or_eq_true, beq_iff_eq] at h
      obtain ⟨hb, h⟩ := h
      have h1 := hi o ho e he hb
      rcases h with rfl | ⟨h2, h3⟩
      · exact h1
      · exact ih e.on (hcl e.on (by simpa using h2) h1) q h3
theorem ready_deps {listed : Array Bool} {i : Nat} (h : ((ops[i]?.map fun o => o.after.all fun e => !Region.binds .any e || listed.getD e.on false).getD false) = true) :
    ∀ o, ops[i]? = some o → ∀ e ∈ o.after.toList, Region.binds .any e = true → listed.getD e.on true = true := by
  intro o ho e he hb
  rw [ho] at h
  simp only [Option.map_some, Option.getD_some, Array.all_eq_true_iff_forall_mem] at h
  have := h e (by simpa using he)
  rw [hb] at this
  simp only [Bool.not_true, Bool.false_or] at this
  by_cases hlt : e.on < listed.size
  · simp only [Array.getD, hlt, dif_pos] at this ⊢
    simpa using this
  · simp [Array.getD, hlt]
/-- the same for a part of the operations; 'listed1': what is listed behind them -/
def coreOk2 (ops : Array Oper) (listed listed1 : Array Bool) (rem : List (Nat × Option Tmp)) : Bool :=
  decide ((rem.map (·.1)).Nodup) && decide ((rem.filterMap (·.2)).Nodup) && decide (listed.size = ops.size) && decide (listed1.size = ops.size) &&
  rem.all (fun p => match ops[p.1]? with
    | none => false
    | some o => (o.dst == p.2) && o.after.all (fun e => !Region.binds .any e || (decide (e.on < p.1) && ((rem.map (·.1)).contains e.on || listed.getD e.on true)))) &&
  (List.range ops.size).all (fun i => if (rem.map (·.1)).contains i then !listed.getD i true && listed1.getD i true
    else (listed1.getD i true == listed.getD i true) && (listed.getD i true || rem.all (fun p => reachN ops (rem.map (·.1)) (rem.length + 1) i p.1) || (match ops[i]? with
      | none => false
      | some o => o.after.any (fun e => Region.binds .any e && decide (e.on < ops.size) && !listed.getD e.on true && !(rem.map (·.1)).contains e.on))))
/-- .. of some of the operations alone: all that are left want all of them ahead -/
theorem wpAny_core2 (rem : List (Nat × Option Tmp)) (R : World → Prop) (V : Nat → Value → World → Prop) (Stab : World → World → Prop) {listed0 : Array Bool} (listed1 : Array Bool) (hok : coreOk2 ops listed0 listed1 rem = true)
    (stab : ∀ j v w w', V j v w → Stab w w' → V j v w')
    {a0 : Act}
    (step : ∀ p ∈ rem, ∀ u w, R w → (∀ j ∈ depsOf ops rem p.1, V j (u j) w) → ∀ K : Act → World → Prop, (∀ v w', V p.1 v w' → R w' → Stab w w' → K ((putAll a0 rem u).put p.2 v) w') → wpOp P ops Q p.1 K (putAll a0 rem u) w)
    (n : Nat) (done : ∀ u w, R w → (∀ p ∈ rem, V p.1 (u p.1) w) → wpAny P .any ops Q n listed1 (putAll a0 rem u) w) {w0 : World} (hR : R w0) :
    wpAny P .any ops Q (rem.length + n) listed0 a0 w0 := by
  simp only [coreOk2, Bool.and_eq_true, decide_eq_true_eq] at hok
  obtain ⟨⟨⟨⟨⟨hn, hdn⟩, hsz⟩, hsz1⟩, hall⟩, hcomp⟩ := hok
  have hall := List.all_eq_true.1 hall
  have hcomp := List.all_eq_true.1 hcomp
  have hmem : ∀ i ∈ rem.map (·.1), listed0.getD i true = false ∧ i < ops.size := by
    intro i hi
    obtain ⟨p, hp, rfl⟩ := List.mem_map.1 hi
    have h1 := hall p hp
    have hlt : p.1 < ops.size := by
      rcases Nat.lt_or_ge p.1 ops.size with h | h
      · exact h
      · rw [Array.getElem?_eq_none h] at h1; simp at h1
    have := hcomp p.1 (List.mem_range.2 hlt)
    have hc : (rem.map (·.1)).contains p.1 = true := by simpa using hi
    rw [hc] at this
    simp only [if_true, Bool.and_eq_true, Bool.not_eq_true'] at this
    exact ⟨this.1, hlt⟩
  have hone : ∀ i ∈ rem.map (·.1), listed1.getD i true = true := by
    intro i hi
    have := hcomp i (List.mem_range.2 (hmem i hi).2)
    have hc : (rem.map (·.1)).contains i = true := by simpa using hi
    rw [hc] at this
    simp only [if_true, Bool.and_eq_true] at this
    exact this.2
  have hrest : ∀ i, i < ops.size → i ∉ rem.map (·.1) → listed1.getD i true = listed0.getD i true ∧ ((listed0.getD i true = true ∨ ∀ p ∈ rem, reachN ops (rem.map (·.1)) (rem.length + 1) i p.1 = true) ∨ ∃ o, ops[i]? = some o ∧ ∃ e ∈ o.after.toList, Region.binds .any e = true ∧ e.on < ops.size ∧ listed0.getD e.on true = false ∧ e.on ∉ rem.map (·.1)) := by
    intro i hi hni
    have := hcomp i (List.mem_range.2 hi)
    have hc : (rem.map (·.1)).contains i = false := by
      cases h : (rem.map (·.1)).contains i with
      | false => rfl
      | true => exact absurd (by simpa using h) hni
    rw [hc] at this
    simp only [Bool.false_eq_true, if_false, Bool.and_eq_true, beq_iff_eq, Bool.or_eq_true] at this
    refine ⟨this.1, ?_⟩
    rcases this.2 with (h | h) | h
    · exact .inl (.inl h)
    · exact .inl (.inr fun p hp => List.all_eq_true.1 h p hp)
    · right
      rw [Array.getElem?_eq_getElem hi] at h
      refine ⟨ops[i], Array.getElem?_eq_getElem hi, ?_⟩
      simp only [Array.any_toList.symm, List.any_eq_true, Bool.and_eq_true, decide_eq_true_eq, Bool.not_eq_true'] at h
      obtain ⟨e, he, ⟨⟨h1, h2⟩, h3⟩, h4⟩ := h
      exact ⟨e, he, h1, h2, h3, by simpa using h4⟩
  -- the invariant
  suffices H : ∀ k (listed : Array Bool) (u : Nat → Value) (w : World), listed.size = ops.size → R w → (∀ i, i < ops.size → i ∉ rem.map (·.1) → listed.getD i true = listed0.getD i true) →
      (∀ p ∈ rem, listed.getD p.1 true = true → V p.1 (u p.1) w) → (∀ p ∈ rem.map (·.1), listed.getD p true = true → ∀ o, ops[p]? = some o → ∀ e ∈ o.after.toList, Region.binds .any e = true → listed.getD e.on true = true) → openOf listed rem = k → wpAny P .any ops Q (k + n) listed (putAll a0 rem u) w by
    obtain ⟨u, hu⟩ := putAll_self a0 rem hn
    have hopen : openOf listed0 rem = rem.length := by
      unfold openOf
      rw [List.filter_eq_self.2]
      intro p hp
      simp [(hmem p.1 (List.mem_map.2 ⟨p, hp, rfl⟩)).1]
    have h := H rem.length listed0 u w0 hsz hR (fun i hi hni => rfl) (fun p hp hl => by
      have := (hmem p.1 (List.mem_map.2 ⟨p, hp, rfl⟩)).1
      rw [this] at hl
      cases hl) (fun p hp hl => by
      rw [(hmem p hp).1] at hl
      cases hl) hopen
    rwa [hu] at h
  intro k
  induction k with
  | zero =>
    intro listed u w hs hRw hout hV hcl hopen
    have hall' : ∀ p ∈ rem, listed.getD p.1 true = true := by
      intro p hp
      simp only [openOf, List.length_eq_zero_iff, List.filter_eq_nil_iff, Bool.not_eq_true', Bool.not_eq_false] at hopen
      exact hopen p hp
    have hl : listed = listed1 := by
      apply Array.ext
      · rw [hs, hsz1]
      · intro i h1 h2
        have : listed.getD i true = listed1.getD i true := by
          by_cases hr : i ∈ rem.map (·.1)
          · rw [hone i hr]
            obtain ⟨p, hp, rfl⟩ := List.mem_map.1 hr
            exact hall' p hp
          · rw [hout i (by omega) hr, (hrest i (by omega) hr).1]
        simpa [Array.getD, h1, h2] using this
    rw [hl, Nat.zero_add]
    exact done u w hRw (fun p hp => hV p hp (hall' p hp))
  | succ k ih =>
    intro listed u w hs hRw hout hV hcl hopen
    rw [Nat.add_right_comm]
    -- one of the list is not yet listed: none of the others is ready
    have hsome : ∃ p ∈ rem, listed.getD p.1 true = false := by
      have : (rem.filter fun p => !listed.getD p.1 true) ≠ [] := by
        intro h
        simp only [openOf, h, List.length_nil] at hopen
        omega
      obtain ⟨p, hp⟩ := List.exists_mem_of_ne_nil _ this
      obtain ⟨h1, h2⟩ := List.mem_filter.1 hp
      exact ⟨p, h1, by simpa using h2⟩
    have hno : ∀ i, i ∈ Region.ready .any ops listed → i ∈ rem.map (·.1) := by
      intro i hi
      obtain ⟨hi1, hi2⟩ := List.mem_filter.1 hi
      have hilt := List.mem_range.1 hi1
      simp only [Bool.and_eq_true] at hi2
      have hil : listed.getD i true = false := by simpa using hi2.1
      by_cases hr : i ∈ rem.map (·.1)
      · exact hr
      · exfalso
        obtain ⟨h1, h2⟩ := hrest i hilt hr
        rw [hout i hilt hr] at hil
        rcases h2 with (h2 | h2) | h2
        · rw [h2] at hil; cases hil
        rotate_left
        · obtain ⟨o, ho, e, he, hb, hsz2, hl0, hnr⟩ := h2
          have h3 := hi2.2
          rw [ho] at h3
          simp only [Option.map_some, Option.getD_some, Array.all_eq_true_iff_forall_mem] at h3
          have := h3 e (by simpa using he)
          rw [hb] at this
          simp only [Bool.not_true, Bool.false_or] at this
          have hlt : e.on < listed.size := by rw [hs]; exact hsz2
          have e1 : listed.getD e.on false = listed.getD e.on true := by simp only [Array.getD, hlt, dif_pos]
          rw [e1, hout e.on hsz2 hnr, hl0] at this
          cases this
        · obtain ⟨p, hp, hpl⟩ := hsome
          have := reach_listed hcl _ i (ready_deps hi2.2) p.1 (h2 p hp)
          rw [hpl] at this
          cases this
    constructor
    · intro hnil
      -- the least one that is not listed is ready
      exfalso
      have key : ∀ i, i < ops.size → i ∈ rem.map (·.1) → listed.getD i true = true := by
        intro i
        induction i using Nat.strongRecOn with
        | _ i ihi =>
          intro hi hr
          obtain ⟨p, hp, rfl⟩ := List.mem_map.1 hr
          have h1 := hall p hp
          cases hl : listed.getD p.1 true with
          | true => rfl
          | false =>
            exfalso
            have hready : p.1 ∈ Region.ready .any ops listed := by
              refine List.mem_filter.2 ⟨List.mem_range.2 hi, ?_⟩
              rw [Array.getElem?_eq_getElem hi] at h1 ⊢
              simp only [Bool.and_eq_true, beq_iff_eq] at h1
              simp only [hl, Bool.not_false, Option.map_some, Option.getD_some, Bool.true_and]
              rw [Array.all_eq_true_iff_forall_mem] at h1 ⊢
              intro e he
              have := h1.2 e he
              cases hb : Region.binds .any e with
              | false => rfl
              | true =>
                rw [hb] at this
                simp only [Bool.not_true, Bool.false_or, Bool.and_eq_true, decide_eq_true_eq, Bool.or_eq_true] at this
                have hlt : e.on < listed.size := by rw [hs]; omega
                have hh : listed.getD e.on true = true := by
                  rcases this.2 with h | h
                  · exact ihi e.on this.1 (by omega) (by simpa using h)
                  · by_cases hr' : e.on ∈ rem.map (·.1)
                    · exact ihi e.on this.1 (by omega) hr'
                    · rw [hout e.on (by omega) hr']; exact h
                simp only [Array.getD, hlt, dif_pos] at hh ⊢
                simpa using hh
            rw [hnil] at hready
            cases hready
      obtain ⟨p, hp, hpl⟩ := hsome
      have := key p.1 (hmem p.1 (List.mem_map.2 ⟨p, hp, rfl⟩)).2 (List.mem_map.2 ⟨p, hp, rfl⟩)
      rw [this] at hpl
      cases hpl
    · intro i hi
      have hir := hno i hi
      obtain ⟨hi1, hi2⟩ := List.mem_filter.1 hi
      have hilt := List.mem_range.1 hi1
      simp only [Bool.and_eq_true] at hi2
      have hil : listed.getD i true = false := by simpa using hi2.1
      obtain ⟨p, hp, rfl⟩ := List.mem_map.1 hir
      refine step p hp u w hRw ?_ _ ?_
      · intro j hj
        rw [depsOf, Array.getElem?_eq_getElem hilt] at hj
        obtain ⟨e, he, rfl⟩ := List.mem_map.1 hj
        obtain ⟨he1, he2⟩ := List.mem_filter.1 he
        simp only [Bool.and_eq_true] at he2
        have hjr : e.on ∈ rem.map (·.1) := by simpa using he2.2
        obtain ⟨q, hq, hqe⟩ := List.mem_map.1 hjr
        rw [← hqe]
        refine hV q hq ?_
        have h3 := hi2.2
        rw [Array.getElem?_eq_getElem hilt] at h3
        simp only [Option.map_some, Option.getD_some, Array.all_eq_true_iff_forall_mem] at h3
        have := h3 e (by simpa using he1)
        rw [he2.1] at this
        simp only [Bool.not_true, Bool.false_or] at this
        rw [hqe]
        have hlt : e.on < listed.size := by rw [hs, ← hqe]; exact (hmem q.1 (List.mem_map.2 ⟨q, hq, rfl⟩)).2
        simp only [Array.getD, hlt, dif_pos] at this ⊢
        simpa using this
      · intro v w' hv hR' hst
        have hpp : (p.1, p.2) ∈ rem := hp
        rw [putAll_upd a0 p.1 p.2 u v rem hn hdn hpp]
        have hset : ∀ j, (listed.setIfInBounds p.1 true).getD j true = if j = p.1 then true else listed.getD j true := by
          intro j
          simp only [Array.getD_eq_getD_getElem?, Array.getElem?_setIfInBounds]
          by_cases hj : p.1 = j
          · subst hj
            simp
            split <;> simp
          · rw [if_neg hj, if_neg (Ne.symm hj)]
        refine ih _ _ _ (by simpa using hs) hR' ?_ ?_ ?_ ?_
        · intro j hj hjr
          have hjp : ¬ j = p.1 := fun e => hjr (by rw [e]; exact List.mem_map.2 ⟨p, hp, rfl⟩)
          rw [hset, if_neg hjp]
          exact hout j hj hjr
        · intro q hq hql
          rw [hset] at hql
          by_cases he : q.1 = p.1
          · rw [he]
            simpa [upd] using hv
          · rw [if_neg he] at hql
            simp only [upd, if_neg he]
            exact stab _ _ _ _ (hV q hq hql) hst
        · intro q hq hql o ho e he hb
          rw [hset]
          split
          · rfl
          · rw [hset] at hql
            by_cases hqp : q = p.1
            · subst hqp
              exact ready_deps hi2.2 o ho e he hb
            · rw [if_neg hqp] at hql
              exact hcl q hq hql o ho e he hb
        · have hlt : openOf (listed.setIfInBounds p.1 true) rem + 1 = openOf listed rem := by
            unfold openOf
            have h1 : ∀ (qs : List (Nat × Option Tmp)), (qs.map (·.1)).Nodup → p ∈ qs → (qs.filter fun q => !(listed.setIfInBounds p.1 true).getD q.1 true).length + 1 = (qs.filter fun q => !listed.getD q.1 true).length := by
              intro qs hqn hpq
              have heq : ∀ (rs : List (Nat × Option Tmp)), p.1 ∉ rs.map (·.1) → (rs.filter fun q => !(listed.setIfInBounds p.1 true).getD q.1 true) = (rs.filter fun q => !listed.getD q.1 true) := by
                intro rs hrs
                refine List.filter_congr fun q hq => ?_
                have hne : q.1 ≠ p.1 := fun e => hrs (e ▸ List.mem_map.2 ⟨q, hq, rfl⟩)
                rw [hset, if_neg hne]
              induction qs with
              | nil => cases hpq
              | cons r rs ihr =>
                rcases List.mem_cons.1 hpq with rfl | hpq'
                · have := heq rs (List.nodup_cons.1 hqn).1
                  rw [List.filter_cons, List.filter_cons, this, hset, if_pos rfl, hil]
                  simp
                · have ih2 := ihr (List.nodup_cons.1 hqn).2 hpq'
                  have hne : r.1 ≠ p.1 := by
                    intro e
                    exact (List.nodup_cons.1 hqn).1 (List.mem_map.2 ⟨p, hpq', e.symm⟩)
                  rw [List.filter_cons, List.filter_cons, hset, if_neg hne]
                  split <;> (try simp only [List.length_cons]) <;> omega
            exact h1 rem hn hp
          omega
end
end Go.Proofs.YtcpadkaljnnieaaDoor
namespace Go.Proofs.YtcpadkaljnnieaaDoor
open Go.RowKit Go.ChangeShapes Go.WideShapes Go.ChangeAt Go.Deep

end Go.Proofs.YtcpadkaljnnieaaDoor
namespace Go.Proofs.YtcpadkaljnnieaaDoor
open Go.RowKit Go.ChangeShapes Go.WideShapes Go.ChangeAt Go.Deep

section
variable {w w' : World} {base : Nat} {us : List Value} {rows : List (List Int)}
end
theorem OwV.grownT {w w' : World} {base size n c : Nat} {E : TypeId} {A : Option Addr} {xs : List Value} (h : OwV w base E size A n c xs) (hg : w.grownBy w' (bl A)) : ModT base [E] w w' := by
  refine Mod.grown hg fun g hA => ?_
  rcases h.cases with ⟨rfl, _⟩ | ⟨g', cur, rfl, hb, hh, _⟩
  · simp [bl] at hA
  · simp [bl] at hA
    subst hA
    exact ⟨hb, cur, _, hh, by simp⟩
theorem keepEL {W W' : World} (x : Ext W W') {b o : Nat} {v : Value} (hb : b < W.heap.size) (hc : W.cell? ⟨b, o, none⟩ = some v) : W'.cell? ⟨b, o, none⟩ = some v := (x.cells.1 _ o hb).trans hc
section
variable {P : Program} {ops : Array Oper} {i : Nat} {op : Op} {t : TypeId} {d : Option Tmp} {a : Act} {w w' : World} {K : Act → World → Prop} {Q : Exit → Act → World → Prop}
end
end Go.Proofs.YtcpadkaljnnieaaDoor
namespace Go.Proofs.YtcpadkaljnnieaaDoor
open Go.RowKit Go.ChangeShapes Go.WideShapes Go.ChangeAt Go.Deep

end Go.Proofs.YtcpadkaljnnieaaDoor
namespace Go.Proofs.YtcpadkaljnnieaaDoor
open Go.RowKit Go.ChangeShapes Go.WideShapes Go.ChangeAt Go.Deep

end Go.Proofs.YtcpadkaljnnieaaDoor
namespace Go.Proofs.YtcpadkaljnnieaaDoor

end Go.Proofs.YtcpadkaljnnieaaDoor
namespace Go.Proofs.YtcpadkaljnnieaaDoor
open Go.RowKit Go.ChangeShapes Go.WideShapes Go.ChangeAt Go.Deep

end Go.Proofs.YtcpadkaljnnieaaDoor
namespace Go.Proofs.YtcpadkaljnnieaaDoor
open Go.RowKit Go.ChangeShapes Go.WideShapes Go.ChangeAt Go.Deep

end Go.Proofs.YtcpadkaljnnieaaDoor
namespace Go.Proofs.YtcpadkaljnnieaaDoor
open Go.RowKit Go.ChangeShapes Go.WideShapes Go.ChangeAt Go.Deep

/-- the first place at which it holds, or -1 -/
def idxP {α : Type} (p : α → Bool) (k : Nat) : List α → Int
  | [] => -1
  | x :: l => if p x then (k : Int) else idxP p (k + 1) l
theorem idxP_any {α : Type} (p : α → Bool) : ∀ (k : Nat) (l : List α), decide (0 ≤ idxP p k l) = l.any p
  | k, [] => by simp [idxP]
  | k, x :: l => by
    unfold idxP
    cases h : p x with
    | true => simp [h]
    | false => simpa [h] using idxP_any p (k + 1) l
def BoolOf {α : Type} (g : Nat) (lb : Array Value) (enc : α → Value) (p : α → Bool) (xs : List α) (w : World) : Prop :=
  ∀ (W : World) (x : α), x ∈ xs → Ext w W → Calls Tryd.prog g (#[enc x] ++ lb) W fun e w' => e = .returned (.bool (p x)) ∧ Ext W w'
end Go.Proofs.YtcpadkaljnnieaaDoor
namespace Go.Proofs.YtcpadkaljnnieaaDoor
open Go.RowKit Go.ChangeShapes Go.WideShapes Go.ChangeAt Go.Deep

end Go.Proofs.YtcpadkaljnnieaaDoor
namespace Go.Proofs.YtcpadkaljnnieaaDoor
open Go.RowKit Go.ChangeShapes Go.WideShapes Go.ChangeAt Go.Deep

theorem Plain.trim {s : Txt} (h : Plain s) (p : Txt) : Plain (Lib.trimPrefix s p) := fun b hb => h b (trimP_mem s p b hb)
set_option maxRecDepth 100000 in
theorem kindt_any (n : Int) (w : World) :
    Calls Tryd.prog 27 #[.int .i64 n] w fun e w' => e = .returned (txS (kindT n)) ∧ Ext w w' := by
  by_cases h1 : n = 1
  · subst h1
    go_enter Tryd.func27, Tryd.ntmps27
    go_wp2_with (fail)
    go_ret
    exact ⟨rfl, by (repeat (first | assumption | exact Ext.rf _ | apply Ext.drew | apply Ext.drewN | apply Ext.alloc))⟩
  by_cases h2 : n = 2
  · subst h2
    go_enter Tryd.func27, Tryd.ntmps27
    go_wp2_with (fail)
    go_ret
    exact ⟨rfl, by (repeat (first | assumption | exact Ext.rf _ | apply Ext.drew | apply Ext.drewN | apply Ext.alloc))⟩
  by_cases h3 : n = 3
  · subst h3
    go_enter Tryd.func27, Tryd.ntmps27
    go_wp2_with (fail)
    go_ret
    exact ⟨rfl, by (repeat (first | assumption | exact Ext.rf _ | apply Ext.drew | apply Ext.drewN | apply Ext.alloc))⟩
  by_cases h4 : n = 4
  · subst h4
    go_enter Tryd.func27, Tryd.ntmps27
    go_wp2_with (fail)
    go_ret
    exact ⟨rfl, by (repeat (first | assumption | exact Ext.rf _ | apply Ext.drew | apply Ext.drewN | apply Ext.alloc))⟩
  have hk : kindT n = [] := by unfold kindT; rw [if_neg h1, if_neg h2, if_neg h3, if_neg h4]
  have g1 : (n == 1) = false := beq_eq_false_iff_ne.2 h1
  have g2 : (n == 2) = false := beq_eq_false_iff_ne.2 h2
  have g3 : (n == 3) = false := beq_eq_false_iff_ne.2 h3
  have g4 : (n == 4) = false := beq_eq_false_iff_ne.2 h4
  rw [hk]
  go_enter Tryd.func27, Tryd.ntmps27
  go_wp2_with (fail)
  go_ret
  exact ⟨rfl, by (repeat (first | assumption | exact Ext.rf _ | apply Ext.drew | apply Ext.drewN | apply Ext.alloc))⟩
set_option maxRecDepth 100000 in
set_option maxHeartbeats 1000000 in
theorem number_t (s : Txt) (w : World) (hp : Plain s) (hl : s.length < 4294967281) :
    Calls Tryd.prog 33 #[.string ⟨s.toArray⟩] w fun e w' => e = .returned (.int .i64 (numT s)) ∧ Ext w w' := by
  have CP := Lib.hid (fun (W : World) => cutprefix_any s [45] W)
  have RD := Lib.hid (fun (W : World) => readd_any (Lib.trimPrefix s [45]) W (hp.trim _) (by have := trimP_len s [45]; omega))
  obtain ⟨b1, b2⟩ := readD_range (Lib.trimPrefix s [45])
  unfold numT
  generalize readD (Lib.trimPrefix s [45]) = r at *
  generalize Lib.trimPrefix s [45] = t at *
  generalize Lib.hasPrefix s [45] = hb at *
  obtain ⟨n, nx, e⟩ := r
  simp only [] at b1 b2 RD ⊢
  by_cases he : e = 0
  · subst he
    rw [if_neg (by simp)]
    cases hb with
    | true =>
      go_enter Tryd.func33, Tryd.ntmps33
      go_wp2_with (first | (go_at_call 43; refine (CP.out _).mono ?_; rintro e w1 ⟨rfl, rfl⟩) | (go_at_call 44; refine (RD.out _).mono ?_; rintro e w1 ⟨rfl, x1⟩))
      go_ret
      exact ⟨rfl, by (repeat (first | assumption | exact Ext.rf _ | apply Ext.drew | apply Ext.drewN | apply Ext.alloc))⟩
    | false =>
      go_enter Tryd.func33, Tryd.ntmps33
      go_wp2_with (first | (go_at_call 43; refine (CP.out _).mono ?_; rintro e w1 ⟨rfl, rfl⟩) | (go_at_call 44; refine (RD.out _).mono ?_; rintro e w1 ⟨rfl, x1⟩))
      go_ret
      exact ⟨rfl, by (repeat (first | assumption | exact Ext.rf _ | apply Ext.drew | apply Ext.drewN | apply Ext.alloc))⟩
  · rw [if_pos he]
    have g : (e == 0) = false := beq_eq_false_iff_ne.2 he
    go_enter Tryd.func33, Tryd.ntmps33
    go_wp2_with (first | (go_at_call 43; refine (CP.out _).mono ?_; rintro e w1 ⟨rfl, rfl⟩) | (go_at_call 44; refine (RD.out _).mono ?_; rintro e w1 ⟨rfl, x1⟩))
    go_ret
    exact ⟨rfl, by (repeat (first | assumption | exact Ext.rf _ | apply Ext.drew | apply Ext.drewN | apply Ext.alloc))⟩
set_option maxRecDepth 100000 in
theorem long_any (s : Txt) (w : World) (hp : Plain s) (hl : s.length < 4294967281) :
    Calls Tryd.prog 46 #[.string ⟨s.toArray⟩] w fun e w' => e = .returned (.bool (longT s)) ∧ Ext w w' := by
  have TP := Lib.hid (fun (W : World) => trimprefix_any s [45] W)
  have RD := Lib.hid (fun (W : World) => readd_any (Lib.trimPrefix s [45]) W (hp.trim _) (by have := trimP_len s [45]; omega))
  unfold longT
  generalize readD (Lib.trimPrefix s [45]) = r at *
  generalize Lib.trimPrefix s [45] = t at *
  obtain ⟨n, nx, e⟩ := r
  simp only [] at RD ⊢
  go_enter Tryd.func46, Tryd.ntmps46
  go_wp2_with (first | (go_at_call 47; refine (TP.out _).mono ?_; rintro e w1 ⟨rfl, rfl⟩) | (go_at_call 44; refine (RD.out _).mono ?_; rintro e w1 ⟨rfl, x1⟩))
  go_ret
  refine ⟨?_, by (repeat (first | assumption | exact Ext.rf _ | apply Ext.drew | apply Ext.drewN | apply Ext.alloc))⟩
  rw [show decide (e = 5) = (e == 5) by rw [Bool.eq_iff_iff]; simp]
  rfl
theorem long_enters : ∀ args w, (callFunc 46 args).run Tryd.prog w = .ok (.enter 46 args) w := enters_of Tryd.func46 (by kernel_rfl) rfl
set_option maxRecDepth 100000 in
set_option maxHeartbeats 1000000 in
theorem idx_txs (g : Nat) (lb : Array Value) (p : Txt → Bool) (eg : ∀ args w, (callFunc g args).run Tryd.prog w = .ok (.enter g args) w) (A : Option Addr) (c : Nat) (xs : List Txt) (w : World) (hA : RdV w 9 A (txV xs)) (lx : xs.length ≤ maxLen) (hp : BoolOf g lb txS p xs w) :
    Calls Tryd.prog 71 #[.slice A xs.length c, .func (.func g) #[] lb] w fun e w' => e = .returned (.int .i64 (idxP p 0 xs)) ∧ Ext w w' := by
  unfold maxLen at lx
  go_enter Tryd.func71, Tryd.ntmps71
  go_wp2_with (fail)
  go_loopw [8] (fun i wr => ∃ j : Nat, i = .int .i64 j ∧ j ≤ xs.length ∧ Hid (idxP p 0 xs = idxP p j (xs.drop j)) ∧ Ext w wr) (fun i _ => xs.length - (intOf i).toNat)
  case atStart => exact ⟨0, rfl, by omega, by exact rfl, Ext.rf _⟩
  case round =>
    obtain ⟨j, rfl, hj, HJ, Y⟩ := hrel
    by_cases hlt : j < xs.length
    · obtain ⟨b, off, v, rfl, _, hc, hx⟩ := (hA.ext Y).at (show j < (txV xs).length by rw [txV_len]; exact hlt)
      obtain ⟨x, hxj⟩ : ∃ x, xs[j]? = some x := ⟨_, List.getElem?_eq_getElem hlt⟩
      have hv : v = txS x := by
        have h1 := hx.out
        unfold txV at h1
        rw [List.getElem?_map, hxj] at h1
        simpa using h1.symm
      subst hv
      have hd : Hid (xs.drop j = x :: xs.drop (j + 1)) := Lib.hid (by
        rw [List.drop_eq_getElem_cons hlt]
        congr 1
        have := List.getElem?_eq_getElem hlt
        rw [hxj] at this
        injection this with this
        exact this.symm)
      have hcall := hp wr x (List.mem_of_getElem? hxj) Y
      clear hp hxj
      unfold txS at hc hcall
      cases hq : p x with
      | true =>
        rw [hq] at hcall
        have HR : Hid (idxP p 0 xs = j) := by
          have h1 := HJ.out
          rw [hd.out, idxP, if_pos hq] at h1
          exact h1
        clear hq
        go_wp2_with (go_at_fn g; refine hcall.mono ?_; rintro e w' ⟨rfl, x'⟩)
        go_ret
        exact ⟨ret_i HR.out.symm, Ext.tr Y x'⟩
      | false =>
        rw [hq] at hcall
        have HR : Hid (idxP p 0 xs = idxP p (j + 1) (xs.drop (j + 1))) := by
          have h1 := HJ.out
          rw [hd.out, idxP, if_neg (by simp [hq])] at h1
          exact h1
        clear hq
        go_wp2_with (go_at_fn g; refine hcall.mono ?_; rintro e w' ⟨rfl, x'⟩)
        go_roundw
        case rel => exact ⟨j + 1, by go_num, by omega, HR, Ext.tr Y x'⟩
        case measure => simp [intOf]; omega
    · have hd := drop_nil (xs := xs) (k := j) (by omega)
      have HR : Hid (idxP p 0 xs = -1) := by
        have h1 := HJ.out
        rw [hd.out, idxP] at h1
        exact h1
      clear hd hp
      go_wp2
      go_ret
      exact ⟨ret_i HR.out.symm, Y⟩
set_option maxRecDepth 100000 in
theorem has_txs (g : Nat) (lb : Array Value) (p : Txt → Bool) (eg : ∀ args w, (callFunc g args).run Tryd.prog w = .ok (.enter g args) w) (A : Option Addr) (c : Nat) (xs : List Txt) (w : World) (hA : RdV w 9 A (txV xs)) (lx : xs.length ≤ maxLen) (hp : BoolOf g lb txS p xs w) :
    Calls Tryd.prog 45 #[.slice A xs.length c, .func (.func g) #[] lb] w fun e w' => e = .returned (.bool (xs.any p)) ∧ Ext w w' := by
  have H := Lib.hid (idxP_any p 0 xs)
  go_enter Tryd.func45, Tryd.ntmps45
  go_wp2_with (fail)
  refine (idx_txs g lb p eg A c xs _ hA lx hp).mono ?_
  rintro e w' ⟨rfl, x'⟩
  clear hp
  go_wp2
  go_ret
  exact ⟨ret_b H.out, x'⟩
set_option maxRecDepth 100000 in
theorem short_any (A : Option Addr) (c : Nat) (xs : List Txt) (w : World) (hA : RdV w 9 A (txV xs)) (lx : xs.length ≤ maxLen) (hp : ∀ x ∈ xs, Plain x ∧ x.length < 4294967281) :
    Calls Tryd.prog 34 #[.slice A xs.length c] w fun e w' => e = .returned (.bool (shortT xs)) ∧ Ext w w' := by
  have CF := Lib.hid (has_txs 46 #[] longT long_enters A c xs w hA lx (fun W x hx _ => long_any x W (hp x hx).1 (hp x hx).2))
  unfold shortT
  clear hp
  generalize xs.any longT = q at *
  go_enter Tryd.func34, Tryd.ntmps34
  go_wp2_with (go_at_call 45; refine CF.out.mono ?_; rintro e w1 ⟨rfl, x1⟩)
  go_ret
  exact ⟨rfl, by (repeat (first | assumption | exact Ext.rf _ | apply Ext.drew | apply Ext.drewN | apply Ext.alloc))⟩
end Go.Proofs.YtcpadkaljnnieaaDoor
namespace Go.Proofs.YtcpadkaljnnieaaDoor
open Go.Shelf

def itoaLay_ren : Go.Shelf.Ren := ⟨fun | 171 => 38 | 243 => 60 | 246 => 80 | 283 => 90 | 284 => 91 | 285 => 92 | 286 => 93 | 129 => 59 | 317 => 95 | 318 => 96 | 319 => 97 | 320 => 98 | 337 => 99 | 338 => 100 | n => n, fun | 3 => 3 | 9 => 9 | 2 => 2 | 4 => 4 | 171 => 130 | 0 => 0 | 53 => 106 | 37 => 44 | 5 => 5 | 173 => 132 | 212 => 135 | 51 => 104 | 20 => 20 | 213 => 136 | 46 => 83 | 232 => 141 | 233 => 142 | n => n, fun | 17 => 1 | 18 => 4 | 19 => 5 | n => n⟩
set_option maxRecDepth 100000 in
theorem itoaLay : LaysM.n171 Tryd.prog itoaLay_ren where
  mixed := by kernel_rfl
  f129 := Tryd.func59.trans (congrArg some (by kernel_rfl))
  f171 := Tryd.func38.trans (congrArg some (by kernel_rfl))
  f243 := Tryd.func60.trans (congrArg some (by kernel_rfl))
  f246 := Tryd.func80.trans (congrArg some (by kernel_rfl))
  f283 := Tryd.func90.trans (congrArg some (by kernel_rfl))
  f284 := Tryd.func91.trans (congrArg some (by kernel_rfl))
  f285 := Tryd.func92.trans (congrArg some (by kernel_rfl))
  f286 := Tryd.func93.trans (congrArg some (by kernel_rfl))
  f317 := Tryd.func95.trans (congrArg some (by kernel_rfl))
  f318 := Tryd.func96.trans (congrArg some (by kernel_rfl))
  f319 := Tryd.func97.trans (congrArg some (by kernel_rfl))
  f320 := Tryd.func98.trans (congrArg some (by kernel_rfl))
  f337 := Tryd.func99.trans (congrArg some (by kernel_rfl))
  f338 := Tryd.func100.trans (congrArg some (by kernel_rfl))
  t0 := Tryd.underlying0
  a0 := Tryd.isAgg0
  z0 := Tryd.sizeOf0
  v0 := Tryd.zeroValue0
  t2 := Tryd.underlying2
  a2 := Tryd.isAgg2
  z2 := Tryd.sizeOf2
  v2 := Tryd.zeroValue2
  t3 := Tryd.underlying3
  a3 := Tryd.isAgg3
  z3 := Tryd.sizeOf3
  v3 := Tryd.zeroValue3
  t4 := Tryd.underlying4
  a4 := Tryd.isAgg4
  z4 := Tryd.sizeOf4
  v4 := Tryd.zeroValue4
  t5 := Tryd.underlying5
  a5 := Tryd.isAgg5
  z5 := Tryd.sizeOf5
  v5 := Tryd.zeroValue5
  t9 := Tryd.underlying9
  a9 := Tryd.isAgg9
  z9 := Tryd.sizeOf9
  v9 := Tryd.zeroValue9
  t20 := Tryd.underlying20
  a20 := Tryd.isAgg20
  z20 := Tryd.sizeOf20
  v20 := Tryd.zeroValue20
  t37 := Tryd.underlying44
  a37 := Tryd.isAgg44
  z37 := Tryd.sizeOf44
  v37 := Tryd.zeroValue44
  t46 := Tryd.underlying83
  a46 := Tryd.isAgg83
  z46 := Tryd.sizeOf83
  v46 := Tryd.zeroValue83
  t51 := Tryd.underlying104
  a51 := Tryd.isAgg104
  z51 := Tryd.sizeOf104
  v51 := Tryd.zeroValue104
  t53 := Tryd.underlying106
  a53 := Tryd.isAgg106
  z53 := Tryd.sizeOf106
  v53 := Tryd.zeroValue106
  t171 := Tryd.underlying130
  a171 := Tryd.isAgg130
  z171 := Tryd.sizeOf130
  v171 := Tryd.zeroValue130
  t173 := Tryd.underlying132
  a173 := Tryd.isAgg132
  z173 := Tryd.sizeOf132
  v173 := Tryd.zeroValue132
  t212 := Tryd.underlying135
  a212 := Tryd.isAgg135
  z212 := Tryd.sizeOf135
  v212 := Tryd.zeroValue135
  t213 := Tryd.underlying136
  a213 := Tryd.isAgg136
  z213 := Tryd.sizeOf136
  t232 := Tryd.underlying141
  a232 := Tryd.isAgg141
  z232 := Tryd.sizeOf141
  v232 := Tryd.zeroValue141
  t233 := Tryd.underlying142
  a233 := Tryd.isAgg142
  z233 := Tryd.sizeOf142
  v233 := Tryd.zeroValue142
  g17 := by kernel_rfl
  g18 := by kernel_rfl
  g19 := by kernel_rfl
  i0 := by kernel_rfl
  i2 := by kernel_rfl
  i3 := by kernel_rfl
  i4 := by kernel_rfl
  i5 := by kernel_rfl
  i9 := by kernel_rfl
  i20 := by kernel_rfl
  i37 := by kernel_rfl
  i46 := by kernel_rfl
  i51 := by kernel_rfl
  i53 := by kernel_rfl
  i171 := by kernel_rfl
  i173 := by kernel_rfl
  i212 := by kernel_rfl
  i232 := by kernel_rfl
  i233 := by kernel_rfl
  m17 := by kernel_rfl
  m18 := by kernel_rfl
  m19 := by kernel_rfl
end Go.Proofs.YtcpadkaljnnieaaDoor
namespace Go.Proofs.YtcpadkaljnnieaaDoor
open Go.RowKit Go.ChangeShapes Go.WideShapes Go.ChangeAt Go.Deep

/-- the table of the powers of ten is as it was laid -/
def Ten (w : World) : Prop := Lib.TabIs Tryd.prog w "internal/strconv.uint64pow10" .u64 Lib.pow10Tab
theorem Ten.ext {w w' : World} (h : Ten w) (x : Ext w w') : Ten w' := Lib.tabBelow_of_tabIs h w' x
theorem ext_grow {w0 w : World} (h : Ext w0 w) (os : Array Obj) : Ext w0 (Go.Sort.grow w os) :=
  Below.trans h ⟨rfl, rfl, rfl, by simp [Go.Sort.grow], fun k hk => by have := h.size; simp only [Go.Sort.grow]; exact Array.getElem?_append_left (by omega)⟩
theorem itoa_any (n : Int) (h0 : -9223372036854775808 ≤ n) (h1 : n ≤ 9223372036854775807) (w : World) (hT : Ten w) :
    Calls Tryd.prog 38 #[.int .i64 n] w fun e w' => e = .returned (.string ⟨(Lib.itoa n).toArray⟩) ∧ Ext w w' := by
  refine (Any.strconv_Itoa itoaLay n h0 h1 w hT).mono ?_
  rintro e w' ⟨rfl, k, os, rfl⟩
  exact ⟨rfl, ext_grow ((Ext.rf w).drewN k) os⟩
set_option maxRecDepth 100000 in
theorem write_any (n : Int) (h0 : -9223372036854775808 ≤ n) (h1 : n ≤ 9223372036854775807) (w : World) (hT : Ten w) :
    Calls Tryd.prog 25 #[.int .i64 n] w fun e w' => e = .returned (.string ⟨(Lib.itoa n).toArray⟩) ∧ Ext w w' := by
  have IT := Lib.hid (fun (W : World) (x : Ext w W) => itoa_any n h0 h1 W (hT.ext x))
  go_enter Tryd.func25, Tryd.ntmps25
  go_wp2_with (fail)
  refine (IT.out _ (by (repeat (first | assumption | exact Ext.rf _ | apply Ext.drew | apply Ext.drewN | apply Ext.alloc)))).mono ?_
  rintro e w1 ⟨rfl, x1⟩
  have X1 := Lib.hid (Ext.tr (a := w) (by (repeat (first | assumption | exact Ext.rf _ | apply Ext.drew | apply Ext.drewN | apply Ext.alloc))) x1)
  go_wp2_with (fail)
  go_ret
  exact ⟨rfl, X1.out⟩
end Go.Proofs.YtcpadkaljnnieaaDoor
namespace Go.Proofs.YtcpadkaljnnieaaDoor
open Go.RowKit Go.ChangeShapes Go.WideShapes Go.ChangeAt Go.Deep

def i64 (n : Int) : Prop := -9223372036854775808 ≤ n ∧ n ≤ 9223372036854775807
structure Ent.In (e : Ent) : Prop where
  worker : i64 e.worker
  kind : i64 e.kind
  cell : i64 e.cell
  old : i64 e.old
  new : i64 e.new
def entL (e : Ent) : List Value := [.int .i64 e.worker, .int .i64 e.kind, .int .i64 e.cell, .int .i64 e.old, .int .i64 e.new, .bool e.done]
def entC (e : Ent) : Array Value := #[.int .i64 e.worker, .int .i64 e.kind, .int .i64 e.cell, .int .i64 e.old, .int .i64 e.new, .bool e.done]
/-- the cells of entries, one behind the other -/
def entsL (l : List Ent) : List Value := l.flatMap entL
theorem entsL_snoc (l : List Ent) (e : Ent) : entsL (l ++ [e]) = entsL l ++ entL e := by unfold entsL; simp
theorem entsL_len : ∀ l : List Ent, (entsL l).length = l.length * 6
  | [] => rfl
  | e :: l => by
    have := entsL_len l
    unfold entsL at this ⊢
    rw [List.flatMap_cons, List.length_append, this, List.length_cons, Nat.succ_mul]
    show 6 + _ = _
    omega
theorem entsL_at : ∀ (l : List Ent) (k : Nat) (e : Ent), l[k]? = some e → ∀ j v, (entL e)[j]? = some v → (entsL l)[k * 6 + j]? = some v
  | [], k, e, h, _, _, _ => by simp at h
  | a :: l, 0, e, h, j, v, hj => by
    obtain rfl : a = e := by simpa using h
    unfold entsL
    rw [List.flatMap_cons, Nat.zero_mul, Nat.zero_add, List.getElem?_append_left (List.getElem?_eq_some_iff.1 hj).1]
    exact hj
  | a :: l, k + 1, e, h, j, v, hj => by
    have ih := entsL_at l k e (by simpa using h) j v hj
    unfold entsL at ih ⊢
    have e6 : (entL a).length = 6 := rfl
    rw [List.flatMap_cons, List.getElem?_append_right (by rw [e6, Nat.succ_mul]; omega), e6]
    rw [show (k + 1) * 6 + j - 6 = k * 6 + j by rw [Nat.succ_mul]; omega]
    exact ih
theorem entsL_cell1 (l : List Ent) : ∀ u ∈ entsL l, u.oneCell' = true := by
  intro u hu
  unfold entsL at hu
  obtain ⟨e, _, he⟩ := List.mem_flatMap.1 hu
  unfold entL at he
  simp only [List.mem_cons, List.not_mem_nil, or_false] at he
  rcases he with rfl | rfl | rfl | rfl | rfl | rfl <;> rfl
def REnt (_ : World) (cs : List Value) (e : Ent) : Prop := cs = entL e ∧ e.In
section
variable {H : Type} {enc : TypeId × Value → H} {W : World}
theorem cells_ent : Tryd.prog.cellsOf 39 = 6 := by kernel_rfl
theorem cells_bool33 : Tryd.prog.cellsOf 4 = 1 := by kernel_rfl
set_option maxRecDepth 100000 in
theorem opens_ent : OpensAs enc W 39 REnt := fun fuel cs x h => by
  obtain ⟨hlen, _⟩ := field_of Tryd.underlying39 h
  rw [cells_ent] at hlen
  match cs, hlen with
  | [c0, c1, c2, c3, c4, c5], _ =>
    obtain ⟨n0, y0, h0⟩ := field_at Tryd.underlying39 h 0 3 0 1 rfl cells_int
    obtain ⟨n1, y1, h1⟩ := field_at Tryd.underlying39 h 1 3 1 1 rfl cells_int
    obtain ⟨n2, y2, h2⟩ := field_at Tryd.underlying39 h 2 3 2 1 rfl cells_int
    obtain ⟨n3, y3, h3⟩ := field_at Tryd.underlying39 h 3 3 3 1 rfl cells_int
    obtain ⟨n4, y4, h4⟩ := field_at Tryd.underlying39 h 4 3 4 1 rfl cells_int
    obtain ⟨n5, y5, h5⟩ := field_at Tryd.underlying39 h 5 4 5 1 rfl cells_bool33
    obtain ⟨x0, e0, b0⟩ := opens_int (W := W) _ _ _ h0
    obtain ⟨x1, e1, b1⟩ := opens_int (W := W) _ _ _ h1
    obtain ⟨x2, e2, b2⟩ := opens_int (W := W) _ _ _ h2
    obtain ⟨x3, e3, b3⟩ := opens_int (W := W) _ _ _ h3
    obtain ⟨x4, e4, b4⟩ := opens_int (W := W) _ _ _ h4
    obtain ⟨x5, e5, _⟩ := DataW.trod_bool u_bool h5
    injection e0 with e0
    injection e1 with e1
    injection e2 with e2
    injection e3 with e3
    injection e4 with e4
    injection e5 with e5
    subst e0 e1 e2 e3 e4 e5
    exact ⟨⟨x0, x1, x2, x3, x4, x5⟩, rfl, ⟨b0, b1, b2, b3, b4⟩⟩
set_option maxRecDepth 100000 in
theorem open_RdEnt {base : Nat} {v : Value} {d : DataW H} {p : List MemPlace} (hd : DataW.Trod enc Tryd.prog W 0 (fun _ => true) true 22 v d p) (hv : Value.okWide Tryd.prog W .any base 22 v) :
    ∃ A xs c, v = .slice A xs.length c ∧ RdE 6 REnt W A xs ∧ xs.length ≤ c ∧ c ≤ maxLen := open_E' Tryd.underlying22 cells_ent (by omega) opens_ent hd hv
end
/-- the first so many of an argument's entries, cell by cell -/
theorem RdE.ents {w : World} {A : Option Addr} {xs : List Ent} (h : RdE 6 REnt w A xs) (n : Nat) : RdC w A (entsL (xs.take n)) := by
  rcases h with rfl | ⟨b, off, rfl, hlt, hc⟩
  · left; simp [entsL]
  · refine .inr ⟨b, off, rfl, hlt, fun j v hj => ?_⟩
    have hjl := (List.getElem?_eq_some_iff.1 hj).1
    rw [entsL_len] at hjl
    have hk : j / 6 < (xs.take n).length := by omega
    obtain ⟨e, he⟩ : ∃ e, (xs.take n)[j / 6]? = some e := ⟨_, List.getElem?_eq_getElem hk⟩
    have he' : xs[j / 6]? = some e := by
      rw [List.getElem?_take] at he
      split at he
      · exact he
      · cases he
    obtain ⟨cs, ⟨rfl, _⟩, _, hcell⟩ := hc _ e he'
    have hm : j % 6 < 6 := Nat.mod_lt _ (by decide)
    have hv : (entL e)[j % 6]? = some ((entL e)[j % 6]'(by show _ < 6; exact hm)) := List.getElem?_eq_getElem _
    have e6 : j / 6 * 6 + j % 6 = j := by omega
    have h1 := entsL_at (xs.take n) (j / 6) e he (j % 6) _ hv
    rw [e6] at h1
    rw [h1] at hj
    have h2 := hcell (j % 6) _ hv
    rw [Nat.add_assoc, e6, hj] at h2
    exact h2
theorem RdE.entsIn {w : World} {A : Option Addr} {xs : List Ent} (h : RdE 6 REnt w A xs) : ∀ e ∈ xs, e.In := by
  intro e he
  rcases h with rfl | ⟨b, off, rfl, hlt, hc⟩
  · cases he
  · obtain ⟨i, hi, rfl⟩ := List.mem_iff_getElem.1 he
    obtain ⟨cs, ⟨_, h1⟩, _⟩ := hc i _ (List.getElem?_eq_getElem hi)
    exact h1
/-- the six cells of an entry of a slice -/
theorem RdV.ent {w : World} {t : TypeId} {A : Option Addr} {l : List Ent} (h : RdV w t A (entsL l)) {k : Nat} (hk : k < l.length) :
    ∃ b off e, A = some ⟨b, off, none⟩ ∧ b < w.heap.size ∧ Hid (l[k]? = some e) ∧ w.cell? ⟨b, off + k * 6, none⟩ = some (.int .i64 e.worker) ∧ w.cell? ⟨b, off + k * 6 + 1, none⟩ = some (.int .i64 e.kind) ∧ w.cell? ⟨b, off + k * 6 + 2, none⟩ = some (.int .i64 e.cell) ∧ w.cell? ⟨b, off + k * 6 + 3, none⟩ = some (.int .i64 e.old) ∧ w.cell? ⟨b, off + k * 6 + 4, none⟩ = some (.int .i64 e.new) ∧ w.cell? ⟨b, off + k * 6 + 5, none⟩ = some (.bool e.done) := by
  obtain ⟨e, he⟩ : ∃ e, l[k]? = some e := ⟨_, List.getElem?_eq_getElem hk⟩
  obtain ⟨b, off, rfl, hb, hc⟩ := h.form (fun h0 => by
    have := entsL_len l
    rw [h0] at this
    simp at this
    omega)
  have at_ := fun j v (hj : (entL e)[j]? = some v) => hc _ v (entsL_at l k e he j v hj)
  refine ⟨b, off, e, rfl, hb, he, ?_, ?_, ?_, ?_, ?_, ?_⟩
  · exact at_ 0 _ rfl
  · exact at_ 1 _ rfl
  · exact at_ 2 _ rfl
  · exact at_ 3 _ rfl
  · exact at_ 4 _ rfl
  · exact at_ 5 _ rfl
end Go.Proofs.YtcpadkaljnnieaaDoor
namespace Go.Proofs.YtcpadkaljnnieaaDoor
open Go.RowKit Go.ChangeShapes Go.WideShapes Go.ChangeAt Go.Deep

theorem kindT_ne {n : Int} (h : 1 ≤ n ∧ n ≤ 4) : kindT n ≠ [] := by
  have : n = 1 ∨ n = 2 ∨ n = 3 ∨ n = 4 := by omega
  rcases this with rfl | rfl | rfl | rfl <;> decide
theorem kindT_len (n : Int) : (kindT n).length ≤ 5 := by
  unfold kindT
  by_cases h1 : n = 1
  · rw [if_pos h1]; decide
  rw [if_neg h1]
  by_cases h2 : n = 2
  · rw [if_pos h2]; decide
  rw [if_neg h2]
  by_cases h3 : n = 3
  · rw [if_pos h3]; decide
  rw [if_neg h3]
  by_cases h4 : n = 4
  · rw [if_pos h4]; decide
  rw [if_neg h4]; decide
theorem kindT_nil {n : Int} (h : ¬ (1 ≤ n ∧ n ≤ 4)) : kindT n = [] := by
  unfold kindT
  rw [if_neg (by omega), if_neg (by omega), if_neg (by omega), if_neg (by omega)]
set_option maxRecDepth 100000 in
set_option maxHeartbeats 2000000 in
theorem line_any (e : Ent) (w : World) (h : e.In) (hT : Ten w) :
    Calls Tryd.prog 14 #[.agg (entC e)] w fun r w' => r = .returned (.tuple #[txS e.line.1, .bool e.line.2]) ∧ Ext w w' := by
  have WD := Lib.hid (fun (W : World) (y : Ext w W) (n : Int) (h : i64 n) => write_any n h.1 h.2 W (hT.ext y))
  have KD := Lib.hid (fun (W : World) => kindt_any e.kind W)
  obtain ⟨wk, kd, cl, od, nw, dn⟩ := e
  obtain ⟨h1, h2, h3, h4, h5⟩ := h
  simp only at h1 h2 h3 h4 h5 KD
  unfold entC
  simp only
  clear hT
  by_cases c1 : 0 ≤ wk ∧ wk < 16
  · obtain ⟨c1a, c1b⟩ := c1
    go_enter Tryd.func14, Tryd.ntmps14
    go_upto_region 4 with (go_at_call 25; refine (WD.out _ (by (repeat (first | assumption | exact Ext.rf _ | apply Ext.drew | apply Ext.drewN | apply Ext.alloc))) _ h1).mono ?_; rintro e w1 ⟨rfl, x1⟩)
    have B1 : Blk w1 w.heap.size 50 (entC ⟨wk, kd, cl, od, nw, dn⟩) := Blk.ext (Blk.new rfl) x1
    have hW : w.heap.size < w1.heap.size := B1.lt
    have X2 : Ext w (w1.alloc (.cells #[Value.string ⟨(Lib.itoa wk).toArray⟩] 9)) := Ext.alloc (Ext.tr (Ext.alloc (Ext.rf w) _) x1) _
    have O2 : OwV (w1.alloc (.cells #[Value.string ⟨(Lib.itoa wk).toArray⟩] 9)) w.heap.size 9 1 (some ⟨w1.heap.size, 0, none⟩) 1 1 (txV [Lib.itoa wk]) := OwV.full (Blk.new rfl) (by omega) rfl (by decide)
    have B2 := B1.alloc (.cells #[Value.string ⟨(Lib.itoa wk).toArray⟩] 9)
    obtain ⟨W, hWW⟩ : ∃ W, w1.alloc (.cells #[Value.string ⟨(Lib.itoa wk).toArray⟩] 9) = W := ⟨_, rfl⟩
    rw [hWW] at X2 O2 B2 ⊢
    have C0 := B2.cell 0
    have C1 := B2.cell 1
    have C2 := B2.cell 2
    have C3 := B2.cell 3
    have C4 := B2.cell 4
    have C5 := B2.cell 5
    unfold entC at C0 C1 C2 C3 C4 C5
    simp only [List.getElem?_toArray, List.getElem?_cons_zero, List.getElem?_cons_succ] at C0 C1 C2 C3 C4 C5
    have X2H := Lib.hid X2
    have O2H := Lib.hid O2
    have B2H := Lib.hid B2
    clear X2 O2 B2 B1 hWW x1
    obtain ⟨gs, hgs⟩ : ∃ gs, w1.heap.size = gs := ⟨_, rfl⟩
    rw [hgs] at hW O2H ⊢
    clear hgs
    obtain ⟨q, hq⟩ : ∃ q, Hid (Ent.quiet ⟨wk, kd, cl, od, nw, dn⟩ = q) := ⟨_, rfl⟩
    go_cut [22] (fun v wx => v = .bool q ∧ wx = W)
    case first =>
      by_cases z0 : kd = 0
      case neg =>
        have y0 : (kd == 0) = false := beq_eq_false_iff_ne.2 z0
        have hqo := hq.out
        unfold Ent.quiet at hqo
        simp [y0] at hqo
        subst hqo
        clear hq
        go_wp2_with (fail)
        go_meet
        exact ⟨rfl, rfl⟩
      subst z0
      by_cases z1 : cl = 0
      case neg =>
        have y1 : (cl == 0) = false := beq_eq_false_iff_ne.2 z1
        have hqo := hq.out
        unfold Ent.quiet at hqo
        simp [y1] at hqo
        subst hqo
        clear hq
        go_wp2_with (fail)
        go_meet
        exact ⟨rfl, rfl⟩
      subst z1
      by_cases z2 : od = 0
      case neg =>
        have y2 : (od == 0) = false := beq_eq_false_iff_ne.2 z2
        have hqo := hq.out
        unfold Ent.quiet at hqo
        simp [y2] at hqo
        subst hqo
        clear hq
        go_wp2_with (fail)
        go_meet
        exact ⟨rfl, rfl⟩
      subst z2
      by_cases z3 : nw = 0
      case neg =>
        have y3 : (nw == 0) = false := beq_eq_false_iff_ne.2 z3
        have hqo := hq.out
        unfold Ent.quiet at hqo
        simp [y3] at hqo
        subst hqo
        clear hq
        go_wp2_with (fail)
        go_meet
        exact ⟨rfl, rfl⟩
      subst z3
      cases dn
      case true =>
        have hqo := hq.out
        unfold Ent.quiet at hqo
        simp at hqo
        subst hqo
        clear hq
        go_wp2_with (fail)
        go_meet
        exact ⟨rfl, rfl⟩
      have hqo := hq.out
      unfold Ent.quiet at hqo
      simp at hqo
      subst hqo
      clear hq
      go_wp2_with (fail)
      go_meet
      exact ⟨rfl, rfl⟩
    case rest =>
      obtain ⟨rfl, rfl⟩ := hcut
      obtain ⟨i0, hi, hz0, hz1, hz2⟩ := info_parts str_info
      replace hi := Lib.hid hi
      replace hz0 := Lib.hid hz0
      replace hz1 := Lib.hid hz1
      replace hz2 := Lib.hid hz2
      have hlen : Hid ((Lib.itoa wk).length ≤ 21) := Lib.hid (Lib.itoa_length_le wk h1.1 h1.2)
      cases q with
      | true =>
        have hl : Ent.line ⟨wk, kd, cl, od, nw, dn⟩ = (Lib.join [Lib.itoa wk, [45]] [32], true) := by
          unfold Ent.line Ent.fine Ent.words
          rw [hq.out]
          simp [c1a, c1b]
        have HL := Lib.hid hl
        clear hl
        have zW := X2H.out.size
        go_wp2_with (at_builtin; refine wpl_app_v _ (e := 9) Tryd.underlying64 hi.out hz0.out hz1.out hz2.out (by simp [Value.cells]) (by omega) rfl _ _ rfl w.heap.size (some ⟨gs, 0, none⟩) 1 1 (txV [Lib.itoa wk]) (some ⟨wc.heap.size, 0, none⟩) 1 1 [txS [45]] rfl rfl (O2H.out.ext ((Ext.rf _).alloc _)) (RdV.blk (.new (by simp))).rdC (by simp) (by simp [Value.oneCell', txS]) (by simp only [maxLen]; omega) (by omega) (by simp; omega) ?_; rintro C6 c6 w6 o6 g6 _)
        have M6 := (O2H.out.ext ((Ext.rf wc).alloc (.cells #[txS [45]] 9))).grownT g6
        have X6 : Ext w w6 := (X2H.out.tr ((Ext.rf _).alloc _)).modT M6 (Nat.le_refl _)
        refine (join_own w.heap.size C6 c6 [Lib.itoa wk, [45]] [32] w6 o6 (by simp) (by simp) (by
          have := hlen.out
          rw [join_cons2, Lib.join_one]
          simp
          omega)).mono ?_
        rintro e w7 ⟨rfl, x7⟩
        have X7 := Lib.hid (X6.tr x7)
        clear X6 x7 M6 g6 o6
        go_wp2_with (fail)
        go_ret2
        rw [HL.out]
        exact ⟨rfl, X7.out⟩
      | false =>
        by_cases k0 : (1 ≤ kd ∧ kd ≤ 4) ∧ 0 ≤ cl
        · have HL : Hid (Ent.line ⟨wk, kd, cl, od, nw, dn⟩ = (Lib.join [Lib.itoa wk, kindT kd, Lib.itoa cl, Lib.itoa od, Lib.itoa nw, yesT dn] [32], true)) := Lib.hid (by
            unfold Ent.line Ent.fine Ent.words
            rw [hq.out]
            simp [c1a, c1b, k0.1.1, k0.1.2, k0.2])
          have hkt : kindT kd ≠ [] := kindT_ne k0.1
          have hkl : Hid ((kindT kd).length ≤ 5) := Lib.hid (kindT_len kd)
          obtain ⟨-, k1⟩ := k0
          have zB := B2H.out.lt
          generalize kindT kd = kt at *
          unfold txS at KD
          have hk2 : kt.isEmpty = false := by cases kt <;> simp_all
          clear hq
          cases dn with
          | true =>
            go_upto_region 12 with (go_at_call 27; refine (KD.out _).mono ?_; rintro e w3 ⟨rfl, x3⟩; have d2 := keepEL x3 zB C2; have d3 := keepEL x3 zB C3; have d4 := keepEL x3 zB C4; have d5 := keepEL x3 zB C5)
            have z3 := x3.size
            have zB3 : w.heap.size < w3.heap.size := by omega
            replace x3 := Lib.hid x3
            clear C0 C1 C2 C3 C4 C5 KD d5
            go_region_held3 (fun W' => W'.cell? ⟨w.heap.size, 2, none⟩ = some (.int .i64 cl) ∧ W'.cell? ⟨w.heap.size, 3, none⟩ = some (.int .i64 od) ∧ W'.cell? ⟨w.heap.size, 4, none⟩ = some (.int .i64 nw)) (go_keep)
              (first
              | (go_at_call_of 25 (Value.int .i64 cl); refine (WD.out _ ((X2H.out.tr x3.out).tr (by (repeat (first | assumption | exact Ext.rf _ | apply Ext.drew | apply Ext.drewN | apply Ext.alloc)))) cl h3).mono ?_; rintro e w4 ⟨rfl, x4⟩; have y4 := Ext.tr (a := w3) (by (repeat (first | assumption | exact Ext.rf _ | apply Ext.drew | apply Ext.drewN | apply Ext.alloc))) x4; have s1 := keepEL y4 zB3 d2; have s2 := keepEL y4 zB3 d3; have s3 := keepEL y4 zB3 d4)
              | (go_at_call_of 25 (Value.int .i64 od); refine (WD.out _ ((X2H.out.tr x3.out).tr (by (repeat (first | assumption | exact Ext.rf _ | apply Ext.drew | apply Ext.drewN | apply Ext.alloc)))) od h4).mono ?_; rintro e w5 ⟨rfl, x5⟩; have y5 := Ext.tr (a := w3) (by (repeat (first | assumption | exact Ext.rf _ | apply Ext.drew | apply Ext.drewN | apply Ext.alloc))) x5; have s1 := keepEL y5 zB3 d2; have s2 := keepEL y5 zB3 d3; have s3 := keepEL y5 zB3 d4)
              | (go_at_call_of 25 (Value.int .i64 nw); refine (WD.out _ ((X2H.out.tr x3.out).tr (by (repeat (first | assumption | exact Ext.rf _ | apply Ext.drew | apply Ext.drewN | apply Ext.alloc)))) nw h5).mono ?_; rintro e w6 ⟨rfl, x6⟩; have y6 := Ext.tr (a := w3) (by (repeat (first | assumption | exact Ext.rf _ | apply Ext.drew | apply Ext.drewN | apply Ext.alloc))) x6; have s1 := keepEL y6 zB3 d2; have s2 := keepEL y6 zB3 d3; have s3 := keepEL y6 zB3 d4)
              | (refine step_app_v _ (e := 9) Tryd.underlying64 hi.out hz0.out hz1.out hz2.out (by simp [Value.cells]) (by omega) (by rfl) _ _ (by rfl) w.heap.size (some ⟨gs, 0, none⟩) 1 1 (txV [Lib.itoa wk]) _ 5 5 [.string ⟨kt.toArray⟩, .string ⟨(Lib.itoa cl).toArray⟩, .string ⟨(Lib.itoa od).toArray⟩, .string ⟨(Lib.itoa nw).toArray⟩, .string ⟨#[121, 101, 115]⟩] (by rfl) (by rfl) ?_ ?_ ?_ ?_ ?_ ?_ ?_ ?_; (refine (O2H.out.ext x3.out).ext ?_; (repeat (first | assumption | exact Ext.rf _ | apply Ext.drew | apply Ext.drewN | apply Ext.alloc))); (exact (RdV.blk (by (first | exact .new (by simp) | exact .drew (.new (by simp)) | exact .alloc (.new (by simp)) _ | exact .drew (.alloc (.new (by simp)) _) | exact .alloc (.alloc (.new (by simp)) _) _ | exact .drew (.alloc (.alloc (.new (by simp)) _) _) | (repeat (first | assumption | (refine Blk.new ?_; (focus (simp; done))) | apply Blk.drew | apply Blk.drewN | apply Blk.alloc))))).rdC); (simp); (simp [Value.oneCell']); (simp only [maxLen]; omega); omega; (have := y6.size; simp; omega); rintro A9 c9 w9 o9 g9 _; have M9 : ModT w.heap.size [9] w3 w9 := (ModT.of_ext (by (repeat (first | assumption | exact Ext.rf _ | apply Ext.drew | apply Ext.drewN | apply Ext.alloc)))).tr (((O2H.out.ext x3.out).ext (by (repeat (first | assumption | exact Ext.rf _ | apply Ext.drew | apply Ext.drewN | apply Ext.alloc)))).grownT g9); have BB := (B2H.out.ext x3.out).modT M9 (by decide); have s1 : w9.cell? ⟨w.heap.size, 2, none⟩ = some (.int .i64 cl) := BB.cell 2; have s2 : w9.cell? ⟨w.heap.size, 3, none⟩ = some (.int .i64 od) := BB.cell 3; have s3 : w9.cell? ⟨w.heap.size, 4, none⟩ = some (.int .i64 nw) := BB.cell 4))
            have X9 := Lib.hid ((X2H.out.tr x3.out).modT M9 (Nat.le_refl _))
            clear M9 BB s1 s2 s3 g9 d2 d3 d4 y4 y5 y6 x4 x5 x6
            go_wp2_with (fail)
            refine (join_own w.heap.size A9 c9 [Lib.itoa wk, kt, Lib.itoa cl, Lib.itoa od, Lib.itoa nw, [121, 101, 115]] [32] w9 o9 (by simp) (by simp) (by
              have q1 := hlen.out
              have q2 := Lib.itoa_length_le cl h3.1 h3.2
              have q3 := Lib.itoa_length_le od h4.1 h4.2
              have q4 := Lib.itoa_length_le nw h5.1 h5.2
              have q5 := hkl.out
              simp only [join_cons2, Lib.join_one, List.length_append, List.length_cons, List.length_nil]
              omega)).mono ?_
            rintro e w10 ⟨rfl, x10⟩
            have X10 := Lib.hid (X9.out.tr x10)
            clear X9 x10 o9
            go_wp2_with (fail)
            go_ret2
            rw [HL.out]
            exact ⟨rfl, X10.out⟩
          | false =>
            go_upto_region 12 with (go_at_call 27; refine (KD.out _).mono ?_; rintro e w3 ⟨rfl, x3⟩; have d2 := keepEL x3 zB C2; have d3 := keepEL x3 zB C3; have d4 := keepEL x3 zB C4; have d5 := keepEL x3 zB C5)
            have z3 := x3.size
            have zB3 : w.heap.size < w3.heap.size := by omega
            replace x3 := Lib.hid x3
            clear C0 C1 C2 C3 C4 C5 KD d5
            go_region_held3 (fun W' => W'.cell? ⟨w.heap.size, 2, none⟩ = some (.int .i64 cl) ∧ W'.cell? ⟨w.heap.size, 3, none⟩ = some (.int .i64 od) ∧ W'.cell? ⟨w.heap.size, 4, none⟩ = some (.int .i64 nw)) (go_keep)
              (first
              | (go_at_call_of 25 (Value.int .i64 cl); refine (WD.out _ ((X2H.out.tr x3.out).tr (by (repeat (first | assumption | exact Ext.rf _ | apply Ext.drew | apply Ext.drewN | apply Ext.alloc)))) cl h3).mono ?_; rintro e w4 ⟨rfl, x4⟩; have y4 := Ext.tr (a := w3) (by (repeat (first | assumption | exact Ext.rf _ | apply Ext.drew | apply Ext.drewN | apply Ext.alloc))) x4; have s1 := keepEL y4 zB3 d2; have s2 := keepEL y4 zB3 d3; have s3 := keepEL y4 zB3 d4)
              | (go_at_call_of 25 (Value.int .i64 od); refine (WD.out _ ((X2H.out.tr x3.out).tr (by (repeat (first | assumption | exact Ext.rf _ | apply Ext.drew | apply Ext.drewN | apply Ext.alloc)))) od h4).mono ?_; rintro e w5 ⟨rfl, x5⟩; have y5 := Ext.tr (a := w3) (by (repeat (first | assumption | exact Ext.rf _ | apply Ext.drew | apply Ext.drewN | apply Ext.alloc))) x5; have s1 := keepEL y5 zB3 d2; have s2 := keepEL y5 zB3 d3; have s3 := keepEL y5 zB3 d4)
              | (go_at_call_of 25 (Value.int .i64 nw); refine (WD.out _ ((X2H.out.tr x3.out).tr (by (repeat (first | assumption | exact Ext.rf _ | apply Ext.drew | apply Ext.drewN | apply Ext.alloc)))) nw h5).mono ?_; rintro e w6 ⟨rfl, x6⟩; have y6 := Ext.tr (a := w3) (by (repeat (first | assumption | exact Ext.rf _ | apply Ext.drew | apply Ext.drewN | apply Ext.alloc))) x6; have s1 := keepEL y6 zB3 d2; have s2 := keepEL y6 zB3 d3; have s3 := keepEL y6 zB3 d4)
              | (refine step_app_v _ (e := 9) Tryd.underlying64 hi.out hz0.out hz1.out hz2.out (by simp [Value.cells]) (by omega) (by rfl) _ _ (by rfl) w.heap.size (some ⟨gs, 0, none⟩) 1 1 (txV [Lib.itoa wk]) _ 5 5 [.string ⟨kt.toArray⟩, .string ⟨(Lib.itoa cl).toArray⟩, .string ⟨(Lib.itoa od).toArray⟩, .string ⟨(Lib.itoa nw).toArray⟩, .string ⟨#[110, 111]⟩] (by rfl) (by rfl) ?_ ?_ ?_ ?_ ?_ ?_ ?_ ?_; (refine (O2H.out.ext x3.out).ext ?_; (repeat (first | assumption | exact Ext.rf _ | apply Ext.drew | apply Ext.drewN | apply Ext.alloc))); (exact (RdV.blk (by (first | exact .new (by simp) | exact .drew (.new (by simp)) | exact .alloc (.new (by simp)) _ | exact .drew (.alloc (.new (by simp)) _) | exact .alloc (.alloc (.new (by simp)) _) _ | exact .drew (.alloc (.alloc (.new (by simp)) _) _) | (repeat (first | assumption | (refine Blk.new ?_; (focus (simp; done))) | apply Blk.drew | apply Blk.drewN | apply Blk.alloc))))).rdC); (simp); (simp [Value.oneCell']); (simp only [maxLen]; omega); omega; (have := y6.size; simp; omega); rintro A9 c9 w9 o9 g9 _; have M9 : ModT w.heap.size [9] w3 w9 := (ModT.of_ext (by (repeat (first | assumption | exact Ext.rf _ | apply Ext.drew | apply Ext.drewN | apply Ext.alloc)))).tr (((O2H.out.ext x3.out).ext (by (repeat (first | assumption | exact Ext.rf _ | apply Ext.drew | apply Ext.drewN | apply Ext.alloc)))).grownT g9); have BB := (B2H.out.ext x3.out).modT M9 (by decide); have s1 : w9.cell? ⟨w.heap.size, 2, none⟩ = some (.int .i64 cl) := BB.cell 2; have s2 : w9.cell? ⟨w.heap.size, 3, none⟩ = some (.int .i64 od) := BB.cell 3; have s3 : w9.cell? ⟨w.heap.size, 4, none⟩ = some (.int .i64 nw) := BB.cell 4))
            have X9 := Lib.hid ((X2H.out.tr x3.out).modT M9 (Nat.le_refl _))
            clear M9 BB s1 s2 s3 g9 d2 d3 d4 y4 y5 y6 x4 x5 x6
            go_wp2_with (fail)
            refine (join_own w.heap.size A9 c9 [Lib.itoa wk, kt, Lib.itoa cl, Lib.itoa od, Lib.itoa nw, [110, 111]] [32] w9 o9 (by simp) (by simp) (by
              have q1 := hlen.out
              have q2 := Lib.itoa_length_le cl h3.1 h3.2
              have q3 := Lib.itoa_length_le od h4.1 h4.2
              have q4 := Lib.itoa_length_le nw h5.1 h5.2
              have q5 := hkl.out
              simp only [join_cons2, Lib.join_one, List.length_append, List.length_cons, List.length_nil]
              omega)).mono ?_
            rintro e w10 ⟨rfl, x10⟩
            have X10 := Lib.hid (X9.out.tr x10)
            clear X9 x10 o9
            go_wp2_with (fail)
            go_ret2
            rw [HL.out]
            exact ⟨rfl, X10.out⟩
        · have HL : Hid (Ent.line ⟨wk, kd, cl, od, nw, dn⟩ = ([], false)) := Lib.hid (by
            unfold Ent.line Ent.fine
            rw [hq.out, if_neg]
            simp only [Bool.and_eq_true, Bool.or_eq_true, decide_eq_true_eq, Bool.false_eq_true, false_or]
            exact fun h => k0 ⟨h.2.1, h.2.2⟩)
          have zB := B2H.out.lt
          by_cases k2 : 1 ≤ kd ∧ kd ≤ 4
          · have hkt : kindT kd ≠ [] := kindT_ne k2
            have k3 : cl < 0 := by omega
            clear k0 k2 hq
            generalize kindT kd = kt at *
            unfold txS at KD
            have hk2 : kt.isEmpty = false := by cases kt <;> simp_all
            go_wp2_with (go_at_call 27; refine (KD.out _).mono ?_; rintro e w3 ⟨rfl, x3⟩; have d2 := keepEL x3 zB C2)
            go_ret2
            rw [HL.out]
            exact ⟨rfl, X2H.out.tr x3⟩
          · rw [kindT_nil k2] at KD
            unfold txS at KD
            clear k0 k2 hq
            go_wp2_with (go_at_call 27; refine (KD.out _).mono ?_; rintro e w3 ⟨rfl, x3⟩)
            go_ret2
            rw [HL.out]
            exact ⟨rfl, X2H.out.tr x3⟩
  · have hl : Ent.line ⟨wk, kd, cl, od, nw, dn⟩ = ([], false) := by
      unfold Ent.line Ent.fine
      rw [if_neg]
      simp only [Bool.and_eq_true, decide_eq_true_eq]
      exact fun h => c1 ⟨h.1.1, h.1.2⟩
    rw [hl]
    by_cases c2 : wk < 0
    · go_enter Tryd.func14, Tryd.ntmps14
      go_wp2_with (fail)
      go_ret2
      exact ⟨rfl, by (repeat (first | assumption | exact Ext.rf _ | apply Ext.drew | apply Ext.drewN | apply Ext.alloc))⟩
    · have c3 : 16 ≤ wk := by omega
      go_enter Tryd.func14, Tryd.ntmps14
      go_wp2_with (fail)
      go_ret2
      exact ⟨rfl, by (repeat (first | assumption | exact Ext.rf _ | apply Ext.drew | apply Ext.drewN | apply Ext.alloc))⟩
end Go.Proofs.YtcpadkaljnnieaaDoor
namespace Go.Proofs.YtcpadkaljnnieaaDoor

theorem isD_digit {d : Nat} (h : d < 10) : isD (UInt8.ofNat (48 + d)) = true := by
  have t : ∀ k : Fin 10, isD (UInt8.ofNat (48 + k.val)) = true := by decide
  exact t ⟨d, h⟩
theorem digit_val {d : Nat} (h : d < 10) : ((UInt8.ofNat (48 + d)).toNat : Int) - 48 = d := by
  have t : ∀ k : Fin 10, ((UInt8.ofNat (48 + k.val)).toNat : Int) - 48 = k.val := by decide
  exact t ⟨d, h⟩
theorem dec_mem (u : Nat) : ∀ b ∈ Lib.decDigits u, isD b = true := by
  induction u using Nat.strongRecOn with
  | _ u ih =>
    rw [Lib.decDigits]
    split
    · rename_i h
      intro b hb
      rw [List.mem_singleton.1 hb]
      exact isD_digit h
    · intro b hb
      rcases List.mem_append.1 hb with hb | hb
      · exact ih _ (by omega) b hb
      · rw [List.mem_singleton.1 hb]
        exact isD_digit (Nat.mod_lt _ (by omega))
theorem dec_val (u : Nat) : valD (Lib.decDigits u) = u := by
  induction u using Nat.strongRecOn with
  | _ u ih =>
    rw [Lib.decDigits]
    split
    · rename_i h
      have := valD_snoc [] (UInt8.ofNat (48 + u))
      rw [List.nil_append] at this
      rw [this, digit_val h]
      simp [valD]
    · rw [valD_snoc, ih _ (by omega), digit_val (Nat.mod_lt _ (by decide))]
      omega
theorem dec_ne (u : Nat) : Lib.decDigits u ≠ [] := fun h => by
  have := Lib.decDigits_length u
  rw [h] at this
  have := Lib.nDigits_pos u
  simp at *
  omega
theorem dec_some (u : Nat) : ∃ b, (Lib.decDigits u).head? = some b ∧ isD b = true := by
  cases h : Lib.decDigits u with
  | nil => exact absurd h (dec_ne u)
  | cons b r => exact ⟨b, rfl, dec_mem u b (by rw [h]; simp)⟩
theorem dec_head (u : Nat) (h : 1 ≤ u) : (Lib.decDigits u).head? ≠ some 48 := by
  induction u using Nat.strongRecOn with
  | _ u ih =>
    rw [Lib.decDigits]
    split
    · rename_i h1
      have t : ∀ k : Fin 10, 1 ≤ k.val → UInt8.ofNat (48 + k.val) ≠ 48 := by decide
      simpa using t ⟨u, h1⟩ h
    · rw [List.head?_append, Option.or_of_isSome (by
        obtain ⟨b, hb, _⟩ := dec_some (u / 10)
        rw [hb]; rfl)]
      exact ih _ (by omega) (by omega)
theorem nD_one {u : Nat} (h : 1 < Lib.nDigits u) : 1 ≤ u := by
  rcases Nat.eq_zero_or_pos u with rfl | h0
  · rw [Lib.nDigits_small (by decide)] at h; omega
  · exact h0
theorem readD_dec (u : Nat) : readD (Lib.decDigits u) = if 18 < Lib.nDigits u then (0, 0, 5) else ((u : Int), (Lib.nDigits u : Int), 0) := by
  unfold readD
  rw [runD_all (dec_mem u)]
  unfold readR
  rw [Lib.decDigits_length, dec_val, if_neg]
  rintro (h | ⟨h1, h2⟩)
  · exact dec_ne u h
  · exact dec_head u (nD_one h1) h2
/-- the digits of a number, without its sign -/
def digN (n : Int) : Nat := Lib.nDigits n.natAbs
theorem dec_noneg (u : Nat) : Lib.hasPrefix (Lib.decDigits u) [45] = false := by
  obtain ⟨b, h1, h2⟩ := dec_some u
  cases h : Lib.decDigits u with
  | nil => rfl
  | cons c r =>
    rw [h] at h1
    obtain rfl : c = b := by simpa using h1
    have hb : c ≠ 45 := by rintro rfl; revert h2; decide
    simp [Lib.hasPrefix, List.isPrefixOf, Ne.symm hb]
theorem itoa_trim (n : Int) : Lib.trimPrefix (Lib.itoa n) [45] = Lib.decDigits n.natAbs ∧ Lib.hasPrefix (Lib.itoa n) [45] = decide (n < 0) := by
  unfold Lib.itoa
  by_cases h : n < 0
  · rw [if_pos h]
    have e : Lib.hasPrefix (45 :: Lib.decDigits n.natAbs) [45] = true := by simp [Lib.hasPrefix, List.isPrefixOf]
    refine ⟨?_, by rw [e]; simp [h]⟩
    unfold Lib.trimPrefix
    rw [if_pos e]
    simp
  · rw [if_neg h]
    have e := dec_noneg n.toNat
    refine ⟨?_, by rw [e]; simp; omega⟩
    unfold Lib.trimPrefix
    rw [e, show n.toNat = n.natAbs by omega]
    simp
theorem numT_itoa (n : Int) : numT (Lib.itoa n) = if digN n ≤ 18 then n else 0 := by
  obtain ⟨h1, h2⟩ := itoa_trim n
  unfold numT digN
  rw [h1, h2, readD_dec]
  by_cases h : Lib.nDigits n.natAbs ≤ 18
  · rw [if_neg (show ¬ 18 < Lib.nDigits n.natAbs by omega), if_pos h]
    simp only [ne_eq, not_true_eq_false, if_false, decide_eq_true_eq]
    split <;> omega
  · rw [if_pos (show 18 < Lib.nDigits n.natAbs by omega), if_neg h]
    simp
theorem longT_itoa (n : Int) : longT (Lib.itoa n) = decide (18 < digN n) := by
  unfold longT digN
  rw [(itoa_trim n).1, readD_dec]
  by_cases h : 18 < Lib.nDigits n.natAbs
  · rw [if_pos h]; simp [h]
  · rw [if_neg h]; simp [h]
/-- neither a blank nor the end of a line -/
def Clean (w : Txt) : Prop := ∀ b ∈ w, b ≠ 32 ∧ b ≠ 10
theorem isD_clean {b : UInt8} (h : isD b = true) : b ≠ 32 ∧ b ≠ 10 := by
  constructor <;> (rintro rfl; revert h; decide)
theorem itoa_clean (n : Int) : Clean (Lib.itoa n) := by
  intro b hb
  unfold Lib.itoa at hb
  split at hb
  · rcases List.mem_cons.1 hb with rfl | hb
    · decide
    · exact isD_clean (dec_mem _ b hb)
  · exact isD_clean (dec_mem _ b hb)
theorem itoa_plain (n : Int) : ∀ b ∈ Lib.itoa n, b.toNat < 128 := by
  have t : ∀ b, isD b = true → b.toNat < 128 := by
    intro b h
    unfold isD at h
    simp only [Bool.and_eq_true, decide_eq_true_eq] at h
    omega
  intro b hb
  unfold Lib.itoa at hb
  split at hb
  · rcases List.mem_cons.1 hb with rfl | hb
    · decide
    · exact t b (dec_mem _ b hb)
  · exact t b (dec_mem _ b hb)
theorem kindT_cases (n : Int) : kindT n = [] ∨ kindT n = tRead ∨ kindT n = tWrite ∨ kindT n = tSwap ∨ kindT n = tAdd := by
  unfold kindT
  repeat (first | (split; · simp) | simp)
theorem kindT_clean (n : Int) : Clean (kindT n) := by
  rcases kindT_cases n with h | h | h | h | h <;> rw [h] <;> (unfold Clean; decide)
theorem yesT_clean (b : Bool) : Clean (yesT b) := by cases b <;> (unfold Clean; decide)
theorem kindT_plain (n : Int) : ∀ b ∈ kindT n, b.toNat < 128 := by
  rcases kindT_cases n with h | h | h | h | h <;> rw [h] <;> decide
theorem yesT_plain (b : Bool) : ∀ c ∈ yesT b, c.toNat < 128 := by cases b <;> decide
theorem longT_kind (n : Int) : longT (kindT n) = false := by
  rcases kindT_cases n with h | h | h | h | h <;> rw [h] <;> decide
theorem longT_yes (b : Bool) : longT (yesT b) = false := by cases b <;> decide
theorem Ent.words_clean (e : Ent) : ∀ w ∈ e.words, Clean w := by
  intro w hw
  unfold Ent.words at hw
  split at hw
  · simp only [List.mem_cons, List.not_mem_nil, or_false] at hw
    rcases hw with rfl | rfl
    · exact itoa_clean _
    · unfold Clean; decide
  · simp only [List.mem_cons, List.not_mem_nil, or_false] at hw
    rcases hw with rfl | rfl | rfl | rfl | rfl | rfl
    · exact itoa_clean _
    · exact kindT_clean _
    · exact itoa_clean _
    · exact itoa_clean _
    · exact itoa_clean _
    · exact yesT_clean _
theorem Ent.words_plain (e : Ent) : ∀ w ∈ e.words, ∀ b ∈ w, b.toNat < 128 := by
  intro w hw
  unfold Ent.words at hw
  split at hw
  · simp only [List.mem_cons, List.not_mem_nil, or_false] at hw
    rcases hw with rfl | rfl
    · exact itoa_plain _
    · decide
  · simp only [List.mem_cons, List.not_mem_nil, or_false] at hw
    rcases hw with rfl | rfl | rfl | rfl | rfl | rfl
    · exact itoa_plain _
    · exact kindT_plain _
    · exact itoa_plain _
    · exact itoa_plain _
    · exact itoa_plain _
    · exact yesT_plain _
theorem Ent.words_ne (e : Ent) : e.words ≠ [] := by unfold Ent.words; split <;> simp
theorem splitC_app {c : UInt8} : ∀ (a s : Txt), (∀ b ∈ a, b ≠ c) → splitC c (a ++ c :: s) = a :: splitC c s
  | [], s, _ => by rw [List.nil_append, splitC, if_pos rfl]
  | b :: a, s, h => by
    rw [List.cons_append, splitC, if_neg (h b (by simp)), splitC_app a s (fun x hx => h x (by simp [hx]))]
theorem splitC_all {c : UInt8} : ∀ (a : Txt), (∀ b ∈ a, b ≠ c) → splitC c a = [a]
  | [], _ => rfl
  | b :: a, h => by
    rw [splitC, if_neg (h b (by simp)), splitC_all a (fun x hx => h x (by simp [hx]))]
theorem splitC_join : ∀ (ws : List Txt), ws ≠ [] → (∀ w ∈ ws, Clean w) → splitC 32 (Lib.join ws [32]) = ws
  | [], h, _ => absurd rfl h
  | [w], _, h => by rw [Lib.join_one]; exact splitC_all w fun b hb => (h w (by simp) b hb).1
  | w :: x :: ws, _, h => by
    rw [join_cons2, List.append_assoc, List.singleton_append, splitC_app _ _ fun b hb => (h w (by simp) b hb).1, splitC_join (x :: ws) (by simp) (fun y hy => h y (by simp [hy]))]
theorem join_no10 : ∀ (ws : List Txt), (∀ w ∈ ws, Clean w) → ∀ b ∈ Lib.join ws [32], b ≠ 10
  | [], _ => by intro b hb; simp [Lib.join] at hb
  | [w], h => by rw [Lib.join_one]; exact fun b hb => (h w (by simp) b hb).2
  | w :: x :: ws, h => by
    rw [join_cons2]
    intro b hb
    rcases List.mem_append.1 hb with hb | hb
    · rcases List.mem_append.1 hb with hb | hb
      · exact (h w (by simp) b hb).2
      · obtain rfl : b = 32 := by simpa using hb
        decide
    · exact join_no10 (x :: ws) (fun y hy => h y (by simp [hy])) b hb
theorem cutC_app {c : UInt8} : ∀ (a s : Txt), (∀ b ∈ a, b ≠ c) → cutC c (a ++ c :: s) = (a, s, true)
  | [], s, _ => by rw [List.nil_append, cutC, if_pos rfl]
  | b :: a, s, h => by
    rw [List.cons_append, cutC, if_neg (h b (by simp)), cutC_app a s (fun x hx => h x (by simp [hx]))]
/-- are its numbers short enough to be read? -/
def Ent.sh (e : Ent) : Bool := e.quiet || (decide (digN e.cell ≤ 18) && decide (digN e.old ≤ 18) && decide (digN e.new ≤ 18))
theorem dig_small {n : Int} (h1 : 0 ≤ n) (h2 : n < 16) : digN n ≤ 18 := by
  unfold digN
  have t : n.natAbs < 16 := by omega
  rcases Nat.lt_or_ge n.natAbs 10 with h | h
  · rw [Lib.nDigits_small h]; decide
  · rw [Lib.nDigits_big (by omega), Lib.nDigits_small (by omega)]; decide
theorem Ent.fine_parts {e : Ent} (h : e.fine = true) : 0 ≤ e.worker ∧ e.worker < 16 ∧ (e.quiet = true ∨ (e.quiet = false ∧ 1 ≤ e.kind ∧ e.kind ≤ 4 ∧ 0 ≤ e.cell)) := by
  unfold Ent.fine at h
  simp only [Bool.and_eq_true, Bool.or_eq_true, decide_eq_true_eq] at h
  obtain ⟨⟨h1, h2⟩, h3⟩ := h
  refine ⟨h1, h2, ?_⟩
  cases hq : e.quiet with
  | true => exact .inl rfl
  | false =>
    rw [hq] at h3
    simp only [Bool.false_eq_true, false_or] at h3
    exact .inr ⟨rfl, h3.1.1, h3.1.2, h3.2⟩
theorem Ent.line_fine {e : Ent} (h : e.fine = true) : e.line = (Lib.join e.words [32], true) := by unfold Ent.line; rw [if_pos h]
theorem Ent.quiet_is {e : Ent} (h : e.quiet = true) : e = ⟨e.worker, 0, 0, 0, 0, false⟩ := by
  obtain ⟨a, b, c, d, f, g⟩ := e
  unfold Ent.quiet at h
  simp at h
  obtain ⟨⟨⟨⟨rfl, rfl⟩, rfl⟩, rfl⟩, rfl⟩ := h
  rfl
theorem kindN_kindT {n : Int} (h : 1 ≤ n ∧ n ≤ 4) : kindN (kindT n) = n := by
  have : n = 1 ∨ n = 2 ∨ n = 3 ∨ n = 4 := by omega
  rcases this with rfl | rfl | rfl | rfl <;> decide
theorem yesT_is (b : Bool) : decide (yesT b = [121, 101, 115]) = b := by cases b <;> decide
/-- a line that was written comes back, if its numbers are short -/
theorem entryT_line {e : Ent} (h : e.fine = true) : (entryT (Lib.join e.words [32])).2 = e.sh ∧ (e.sh = true → (entryT (Lib.join e.words [32])).1 = e) := by
  obtain ⟨h1, h2, h3⟩ := e.fine_parts h
  have hs := splitC_join e.words e.words_ne e.words_clean
  have hw := numT_itoa e.worker
  rw [if_pos (dig_small h1 h2)] at hw
  have hl := longT_itoa e.worker
  have hds := dig_small h1 h2
  rw [show decide (18 < digN e.worker) = false from decide_eq_false (by omega)] at hl
  unfold entryT
  simp only [hs]
  rcases h3 with hq | ⟨hq, k1, k2, k3⟩
  · have hw2 : e.words = [Lib.itoa e.worker, [45]] := by unfold Ent.words; rw [if_pos hq]
    have hE : entryE e.words = e := by
      rw [hw2, entryE, if_neg (by simp)]
      simp only [List.getD_cons_zero, hw]
      exact (Ent.quiet_is hq).symm
    have hsh : e.sh = true := by unfold Ent.sh; rw [hq]; rfl
    have hst : shortT e.words = true := by
      unfold shortT
      rw [hw2]
      simp only [List.any_cons, List.any_nil, hl]
      decide
    rw [hE, e.line_fine h, hsh, hst]
    simp
  · have hw2 : e.words = [Lib.itoa e.worker, kindT e.kind, Lib.itoa e.cell, Lib.itoa e.old, Lib.itoa e.new, yesT e.done] := by unfold Ent.words; rw [if_neg (by rw [hq]; decide)]
    have hst : shortT e.words = e.sh := by
      unfold shortT Ent.sh
      rw [hw2, hq]
      simp only [List.any_cons, List.any_nil, hl, longT_kind, longT_yes, longT_itoa, Bool.false_or, Bool.or_false, Bool.not_or]
      rw [← decide_not, ← decide_not, ← decide_not]
      simp only [Nat.not_lt, Bool.and_assoc]
    rw [hst]
    cases hsh : e.sh with
    | false => simp
    | true =>
      unfold Ent.sh at hsh
      rw [hq] at hsh
      simp only [Bool.false_or, Bool.and_eq_true, decide_eq_true_eq] at hsh
      obtain ⟨⟨s1, s2⟩, s3⟩ := hsh
      have hE : entryE e.words = e := by
        rw [hw2, entryE, if_pos (by simp)]
        simp only [List.getD_cons_zero, List.getD_cons_succ, hw, numT_itoa, if_pos s1, if_pos s2, if_pos s3, kindN_kindT ⟨k1, k2⟩, yesT_is]
      rw [hE, e.line_fine h]
      simp
/-- the lines of entries -/
def linesE (l : List Ent) : Txt := l.flatMap fun e => Lib.join e.words [32] ++ [10]
theorem linesE_cons (e : Ent) (l : List Ent) : linesE (e :: l) = Lib.join e.words [32] ++ 10 :: linesE l := by unfold linesE; simp
theorem linesE_snoc (l : List Ent) (e : Ent) : linesE (l ++ [e]) = linesE l ++ Lib.join e.words [32] ++ [10] := by unfold linesE; simp
theorem cut_lines (e : Ent) (l : List Ent) : cutC 10 (linesE (e :: l)) = (Lib.join e.words [32], linesE l, true) := by
  rw [linesE_cons]
  exact cutC_app _ _ (join_no10 _ e.words_clean)
theorem linesE_ne (e : Ent) (l : List Ent) : linesE (e :: l) ≠ [] := by rw [linesE_cons]; simp
theorem split_lines : ∀ l : List Ent, splitC 10 (linesE l) = l.map (fun e => Lib.join e.words [32]) ++ [[]]
  | [] => rfl
  | e :: l => by rw [linesE_cons, splitC_app _ _ (join_no10 _ e.words_clean), split_lines l]; rfl
/-- what is told of the entries of a text: all of them, or where the first one stands that is too long -/
def readE : List Ent → Int → List Ent → List Ent × Int × Int
  | acc, _, [] => (acc, 0, 0)
  | acc, n, e :: l => if e.sh then readE (acc ++ [e]) (n + 1) l else ([], n, 8)
def writeE (l : List Ent) : Txt × Int := if 10000 < l.length then ([], 5) else if l.all Ent.fine then (linesE l, 0) else ([], 8)
theorem readE_ok : ∀ (l acc : List Ent) (n : Int), (readE acc n l).2.2 = 0 → (readE acc n l).1 = acc ++ l
  | [], acc, n, _ => by simp [readE]
  | e :: l, acc, n, h => by
    rw [readE] at h ⊢
    cases hs : e.sh with
    | true =>
      rw [hs] at h
      rw [if_pos rfl] at h ⊢
      rw [readE_ok l _ _ h, List.append_assoc]
      rfl
    | false =>
      rw [hs] at h
      rw [if_neg (by decide)] at h
      exact absurd h (by simp)
end Go.Proofs.YtcpadkaljnnieaaDoor
namespace Go.Proofs.YtcpadkaljnnieaaDoor
open Go.Shelf

def bld_ren : Go.Shelf.Ren := ⟨fun | 165 => 39 | 166 => 15 | 169 => 17 | 240 => 28 | 241 => 61 | 276 => 40 | 277 => 81 | 167 => 16 | n => n, fun | 9 => 9 | 3 => 3 | 4 => 4 | 0 => 0 | 5 => 5 | 72 => 46 | 70 => 43 | 37 => 44 | 75 => 54 | 127 => 73 | 164 => 85 | 80 => 58 | n => n, fun n => n⟩
set_option maxRecDepth 100000 in
theorem lay166 : Lays.n166 Tryd.prog bld_ren where
  mixed := by kernel_rfl
  f166 := Tryd.func15.trans (congrArg some (by kernel_rfl))
  f240 := Tryd.func28.trans (congrArg some (by kernel_rfl))
  f276 := Tryd.func40.trans (congrArg some (by kernel_rfl))
  t0 := Tryd.underlying0
  a0 := Tryd.isAgg0
  z0 := Tryd.sizeOf0
  v0 := Tryd.zeroValue0
  t3 := Tryd.underlying3
  a3 := Tryd.isAgg3
  z3 := Tryd.sizeOf3
  v3 := Tryd.zeroValue3
  t4 := Tryd.underlying4
  a4 := Tryd.isAgg4
  z4 := Tryd.sizeOf4
  v4 := Tryd.zeroValue4
  t9 := Tryd.underlying9
  a9 := Tryd.isAgg9
  z9 := Tryd.sizeOf9
  v9 := Tryd.zeroValue9
  t20 := Tryd.underlying20
  a20 := Tryd.isAgg20
  z20 := Tryd.sizeOf20
  v20 := Tryd.zeroValue20
  t37 := Tryd.underlying44
  a37 := Tryd.isAgg44
  z37 := Tryd.sizeOf44
  v37 := Tryd.zeroValue44
  t70 := Tryd.underlying43
  a70 := Tryd.isAgg43
  z70 := Tryd.sizeOf43
  v70 := Tryd.zeroValue43
  t72 := Tryd.underlying46
  a72 := Tryd.isAgg46
  z72 := Tryd.sizeOf46
  v72 := Tryd.zeroValue46
  t75 := Tryd.underlying54
  a75 := Tryd.isAgg54
  z75 := Tryd.sizeOf54
  v75 := Tryd.zeroValue54
  t164 := Tryd.underlying85
  a164 := Tryd.isAgg85
  z164 := Tryd.sizeOf85
  v164 := Tryd.zeroValue85
set_option maxRecDepth 100000 in
theorem lay167 : Lays.n167 Tryd.prog bld_ren where
  mixed := by kernel_rfl
  f167 := Tryd.func16.trans (congrArg some (by kernel_rfl))
  f240 := Tryd.func28.trans (congrArg some (by kernel_rfl))
  f276 := Tryd.func40.trans (congrArg some (by kernel_rfl))
  t0 := Tryd.underlying0
  a0 := Tryd.isAgg0
  z0 := Tryd.sizeOf0
  v0 := Tryd.zeroValue0
  t4 := Tryd.underlying4
  a4 := Tryd.isAgg4
  z4 := Tryd.sizeOf4
  v4 := Tryd.zeroValue4
  t5 := Tryd.underlying5
  a5 := Tryd.isAgg5
  z5 := Tryd.sizeOf5
  v5 := Tryd.zeroValue5
  t9 := Tryd.underlying9
  a9 := Tryd.isAgg9
  z9 := Tryd.sizeOf9
  v9 := Tryd.zeroValue9
  t20 := Tryd.underlying20
  a20 := Tryd.isAgg20
  z20 := Tryd.sizeOf20
  v20 := Tryd.zeroValue20
  t37 := Tryd.underlying44
  a37 := Tryd.isAgg44
  z37 := Tryd.sizeOf44
  v37 := Tryd.zeroValue44
  t70 := Tryd.underlying43
  a70 := Tryd.isAgg43
  z70 := Tryd.sizeOf43
  v70 := Tryd.zeroValue43
  t72 := Tryd.underlying46
  a72 := Tryd.isAgg46
  z72 := Tryd.sizeOf46
  v72 := Tryd.zeroValue46
  t75 := Tryd.underlying54
  a75 := Tryd.isAgg54
  z75 := Tryd.sizeOf54
  v75 := Tryd.zeroValue54
  t164 := Tryd.underlying85
  a164 := Tryd.isAgg85
  z164 := Tryd.sizeOf85
  v164 := Tryd.zeroValue85
set_option maxRecDepth 100000 in
theorem lay169 : Lays.n169 Tryd.prog bld_ren where
  mixed := by kernel_rfl
  f169 := Tryd.func17.trans (congrArg some (by kernel_rfl))
  t0 := Tryd.underlying0
  a0 := Tryd.isAgg0
  z0 := Tryd.sizeOf0
  v0 := Tryd.zeroValue0
  t3 := Tryd.underlying3
  a3 := Tryd.isAgg3
  z3 := Tryd.sizeOf3
  v3 := Tryd.zeroValue3
  t9 := Tryd.underlying9
  a9 := Tryd.isAgg9
  z9 := Tryd.sizeOf9
  v9 := Tryd.zeroValue9
  t37 := Tryd.underlying44
  a37 := Tryd.isAgg44
  z37 := Tryd.sizeOf44
  v37 := Tryd.zeroValue44
  t70 := Tryd.underlying43
  a70 := Tryd.isAgg43
  z70 := Tryd.sizeOf43
  v70 := Tryd.zeroValue43
  t72 := Tryd.underlying46
  a72 := Tryd.isAgg46
  z72 := Tryd.sizeOf46
  v72 := Tryd.zeroValue46
  t127 := Tryd.underlying73
  a127 := Tryd.isAgg73
  z127 := Tryd.sizeOf73
  v127 := Tryd.zeroValue73
theorem bldExtra : Builder.Extra Tryd.prog bld_ren where
  sizeBuilder := by kernel_rfl
  liesBuilder := by kernel_rfl
  t5 := Tryd.underlying5
  a5 := Tryd.isAgg5
  z5 := Tryd.sizeOf5
  v5 := Tryd.zeroValue5
  infoByte := by kernel_rfl
  cellsByte := by kernel_rfl
  sizeByte := by kernel_rfl
  neB5 := by decide
end Go.Proofs.YtcpadkaljnnieaaDoor
namespace Go.Proofs.YtcpadkaljnnieaaDoor
open Go.Shelf Go.RowKit Go.ChangeShapes Go.WideShapes Go.ChangeAt

/-- the builder in block b holds this text -/
def Bl (w : World) (base b : Nat) (l : Txt) : Prop := Lib.IsBuilderF 46 5 base b (Lib.byteCells l) w
/-- what a builder's method turns -/
structure BK (base b : Nat) (w w' : World) : Prop where
  below : Below base w w'
  kept : Lib.OthersKept 5 (some b) w w'
section
variable {base b : Nat} {w w' w2 : World} {l : Txt}
theorem Bl.new (w : World) : Bl (w.alloc (.cells #[.pointer none, .slice none 0 0] 46)) w.heap.size w.heap.size [] := Lib.IsBuilderF.of (Lib.fresh_isBuilder 46 5 w)
theorem Bl.keep (h : Bl w base b l) (hk : ∀ (k : Nat) (cs : Array Value) (t : TypeId) (fz : Nat × Nat), w.heap[k]? = some (Obj.cells cs t fz) → t = 46 ∨ t = 5 → w'.heap[k]? = w.heap[k]?) : Bl w' base b l := by
  have at_ : ∀ p, Lib.BuilderAtF 46 5 base b p (Lib.byteCells l) w → Lib.BuilderAtF 46 5 base b p (Lib.byteCells l) w' := by
    rintro p ⟨hB, v, hb, hown, hne⟩
    refine ⟨hB, v, (hk b _ _ _ hb (.inl rfl)).trans hb, ⟨hown.1, ?_⟩, hne⟩
    rcases hown.2 with hn | ⟨g, cap, cur, fz, hv, hbg, hg, rest⟩
    · exact .inl hn
    · exact .inr ⟨g, cap, cur, fz, hv, hbg, (hk g _ _ _ hg (.inr rfl)).trans hg, rest⟩
  exact Or.elim h (fun x => .inl (at_ _ x)) (fun x => .inr (at_ _ x))
theorem Bl.ext (h : Bl w base b l) (x : Ext w w') : Bl w' base b l := h.keep fun k _ _ _ hk _ => x.block k (Array.getElem?_eq_some_iff.1 hk).1
theorem Bl.modT {base' : Nat} {ts : List TypeId} (h : Bl w base b l) (m : ModT base' ts w w') (h1 : 46 ∉ ts) (h2 : 5 ∉ ts) : Bl w' base b l := h.keep fun k cs t fz hk ht => m.block k (Array.getElem?_eq_some_iff.1 hk).1 (by
  rintro ⟨_, cs', t', h3, h4⟩
  rw [hk] at h3
  injection h3 with h3
  injection h3 with _ h3 _
  subst h3
  rcases ht with rfl | rfl
  · exact h1 h4
  · exact h2 h4)
theorem Bl.le (h : Bl w base b l) : base ≤ b ∧ b < w.heap.size := by
  rcases h with ⟨hB, v, hb, _⟩ | ⟨hB, v, hb, _⟩ <;> exact ⟨hB, (Array.getElem?_eq_some_iff.1 hb).1⟩
theorem Bl.isB (h : Bl w base b l) : ∃ cs, w.heap[b]? = some (Obj.cells cs 46 (0, 0)) := by
  rcases h with ⟨hB, v, hb, _⟩ | ⟨hB, v, hb, _⟩ <;> exact ⟨_, hb⟩
theorem BK.tr (h : BK base b w w') (k : BK base b w' w2) : BK base b w w2 := ⟨h.below.trans k.below, h.kept.trans k.kept⟩
theorem Ext.bk {w0 : World} (h : Ext w0 w) (k : BK base b w w') (hb : w0.heap.size ≤ base) : Ext w0 w' := Below.trans h (Below.mono k.below hb)
theorem RdV.bk {e : TypeId} {A : Option Addr} {vs : List Value} (h : RdV w e A vs) (k : BK base b w w') (hB : Bl w base b l) (h1 : e ≠ 5) (h2 : e ≠ 46) : RdV w' e A vs := by
  rcases h with rfl | ⟨g, off, cur, rfl, hg, hc⟩
  · exact .inl rfl
  · refine .inr ⟨g, off, cur, rfl, k.kept g _ hg ?_ ?_, hc⟩
    · intro e1
      injection e1 with e1
      subst e1
      obtain ⟨cs, hb⟩ := hB.isB
      rw [hb] at hg
      injection hg with hg
      injection hg with _ hg
      exact h2 hg.symm
    · rintro c fz hh
      injection hh with _ hh
      exact h1 hh
theorem Blk.bk {g : Nat} {e : TypeId} {cs : Array Value} (h : Blk w g e cs) (k : BK base b w w') (hB : Bl w base b l) (h1 : e ≠ 5) (h2 : e ≠ 46) : Blk w' g e cs := by
  refine k.kept g _ h ?_ ?_
  · intro e1
    injection e1 with e1
    subst e1
    obtain ⟨cs', hb⟩ := hB.isB
    have hg : w.heap[g]? = some (.cells cs e (0, 0)) := h
    rw [hb] at hg
    injection hg with hg
    injection hg with _ hg
    exact h2 hg.symm
  · rintro c fz hh
    injection hh with _ hh
    exact h1 hh
theorem OwV.bk {base' : Nat} {e : TypeId} {size n c : Nat} {A : Option Addr} {vs : List Value} (h : OwV w base' e size A n c vs) (k : BK base b w w') (hB : Bl w base b l) (h1 : e ≠ 5) (h2 : e ≠ 46) : OwV w' base' e size A n c vs :=
  h.keep fun g hg => by
    rcases h.cases with ⟨rfl, rfl, rfl, rfl⟩ | ⟨g', cur, rfl, hb', hh, _⟩
    · simp [bl] at hg
    · simp [bl] at hg
      subst hg
      exact (Blk.bk (g := g') hh k hB h1 h2).trans hh.symm
end
theorem strCells_tx (s : Txt) : Lib.strCells ⟨s.toArray⟩ = Lib.byteCells s := by simp [Lib.strCells, Lib.byteCells]
theorem wstr_any (base b : Nat) (l s : Txt) (w : World) (h : Bl w base b l) (hl : l.length + s.length ≤ 1000000000) (hb : base ≤ w.heap.size) :
    Calls Tryd.prog 15 #[.pointer (some ⟨b, 0, none⟩), .string ⟨s.toArray⟩] w fun e w' => e = .returned (.tuple #[.int .i64 s.length, .nilIface]) ∧ Bl w' base b (l ++ s) ∧ BK base b w w' := by
  have hs : (⟨s.toArray⟩ : ByteArray).size = s.length := by simp [ByteArray.size]
  have C := Any.Builder_WriteString_k lay166 bldExtra base b (Lib.byteCells l) ⟨s.toArray⟩ w h (by rw [Lib.byteCells_length, hs]; omega) hb
  rw [hs] at C
  refine C.mono ?_
  rintro e w' ⟨rfl, h1, h2, h3⟩
  rw [strCells_tx, ← Lib.byteCells_append] at h1
  exact ⟨rfl, .inr h1, h2, h3⟩
theorem wbyte_any (base b : Nat) (l : Txt) (c : UInt8) (w : World) (h : Bl w base b l) (hl : l.length + 1 ≤ 1000000000) (hb : base ≤ w.heap.size) :
    Calls Tryd.prog 16 #[.pointer (some ⟨b, 0, none⟩), .int .u8 c.toNat] w fun e w' => e = .returned .nilIface ∧ Bl w' base b (l ++ [c]) ∧ BK base b w w' := by
  refine (Any.Builder_WriteByte_k lay167 bldExtra base b (Lib.byteCells l) c.toNat w h (by rw [Lib.byteCells_length]; omega) hb).mono ?_
  rintro e w' ⟨rfl, h1, h2, h3⟩
  refine ⟨rfl, .inr ?_, h2, h3⟩
  rw [Lib.byteCells_append]
  exact h1
theorem wnl_any (base b : Nat) (l : Txt) (w : World) (h : Bl w base b l) (hl : l.length + 1 ≤ 1000000000) (hb : base ≤ w.heap.size) :
    Calls Tryd.prog 16 #[.pointer (some ⟨b, 0, none⟩), .int .u8 10] w fun e w' => e = .returned .nilIface ∧ Bl w' base b (l ++ [10]) ∧ BK base b w w' := wbyte_any base b l 10 w h hl hb
theorem btext_any (base b : Nat) (l : Txt) (w : World) (h : Bl w base b l) (hb : base ≤ w.heap.size) :
    Calls Tryd.prog 17 #[.pointer (some ⟨b, 0, none⟩)] w fun e w' => e = .returned (.string ⟨l.toArray⟩) ∧ Bl w' base b l ∧ BK base b w w' := by
  refine (Any.Builder_String_any_k lay169 bldExtra base b l w h hb).mono ?_
  rintro e w' ⟨rfl, h1, h2, h3⟩
  exact ⟨rfl, h1, h2, h3⟩
end Go.Proofs.YtcpadkaljnnieaaDoor
namespace Go.Proofs.YtcpadkaljnnieaaDoor
open Go.RowKit Go.ChangeShapes Go.WideShapes Go.ChangeAt Go.Deep

theorem words_len {e : Ent} (h : e.In) : (Lib.join e.words [32]).length ≤ 199 := by
  have q1 := Lib.itoa_length_le e.worker h.worker.1 h.worker.2
  have q2 := Lib.itoa_length_le e.cell h.cell.1 h.cell.2
  have q3 := Lib.itoa_length_le e.old h.old.1 h.old.2
  have q4 := Lib.itoa_length_le e.new h.new.1 h.new.2
  have q5 := kindT_len e.kind
  have q6 : (yesT e.done).length ≤ 3 := by cases e.done <;> decide
  unfold Ent.words
  split
  · simp only [join_cons2, Lib.join_one, List.length_append, List.length_cons, List.length_nil]
    omega
  · simp only [join_cons2, Lib.join_one, List.length_append, List.length_cons, List.length_nil]
    omega
theorem linesE_len : ∀ l : List Ent, (∀ e ∈ l, e.In) → (linesE l).length ≤ 200 * l.length
  | [], _ => by simp [linesE]
  | e :: l, h => by
    have h1 := words_len (h e (by simp))
    have h2 := linesE_len l fun x hx => h x (by simp [hx])
    rw [linesE_cons, List.length_append, List.length_cons, List.length_cons]
    omega
theorem writeE_bad {l : List Ent} {e : Ent} (hl : l.length ≤ 10000) (he : e ∈ l) (h : e.fine = false) : writeE l = ([], 8) := by
  unfold writeE
  rw [if_neg (by omega), if_neg]
  intro ha
  have := List.all_eq_true.1 ha e he
  rw [h] at this
  cases this
theorem writeE_good {l : List Ent} (hl : l.length ≤ 10000) (h : ∀ e ∈ l, e.fine = true) : writeE l = (linesE l, 0) := by
  unfold writeE
  rw [if_neg (by omega), if_pos (List.all_eq_true.2 h)]
set_option maxRecDepth 100000 in
set_option maxHeartbeats 4000000 in
theorem twrite_any (A : Option Addr) (c : Nat) (l : List Ent) (w : World) (hA : RdV w 50 A (entsL l)) (hl : l.length ≤ 1000) (hin : ∀ e ∈ l, e.In) (hT : Ten w) :
    Calls Tryd.prog 5 #[.slice A l.length c] w fun r w' => r = .returned (.tuple #[txS (writeE l).1, .int .i64 (writeE l).2]) ∧ Ext w w' := by
  have LN := Lib.hid (fun (W : World) (x : Ext w W) (e : Ent) (h : e.In) => line_any e W h (hT.ext x))
  have RA := Lib.hid (fun (W : World) (x : Ext w W) => hA.ext x)
  have IN := Lib.hid hin
  have LL := Lib.hid (linesE_len (l))
  clear hA hin hT
  go_enter Tryd.func5, Tryd.ntmps5
  go_wp2_with (fail)
  go_loopw [14] (fun i wr => ∃ k : Nat, i = .int .i64 k ∧ k ≤ l.length ∧ Hid (∀ e ∈ l.take k, e.fine = true) ∧ Hid (Bl wr w.heap.size w.heap.size (linesE (l.take k))) ∧ Hid (Ext w wr)) (fun i _ => l.length - (intOf i).toNat)
  case atStart => exact ⟨0, rfl, by omega, Lib.hid (by simp), Lib.hid (Bl.new w), Lib.hid (by (repeat (first | assumption | exact Ext.rf _ | apply Ext.drew | apply Ext.drewN | apply Ext.alloc)))⟩
  case round =>
    obtain ⟨k, rfl, hk, HF, HB, Y⟩ := hrel
    by_cases hlt : k < l.length
    · obtain ⟨b, off, e, rfl, hb, he, c0, c1, c2, c3, c4, c5⟩ := (RA.out _ Y.out).ent hlt
      have hem := List.mem_of_getElem? he.out
      have heI := Lib.hid (IN.out e hem)
      have hTK : Hid (l.take (k + 1) = l.take k ++ [e]) := by
        have h : l.take (k + 1) = l.take k ++ [e] := by rw [List.take_add_one, he.out]; rfl
        exact Lib.hid h
      have bB := HB.out.le
      have LE := LN.out
      cases hf : e.fine with
      | false =>
        have hz : Hid (writeE l = ([], 8)) := Lib.hid (writeE_bad (by omega) hem hf)
        have hln : e.line = ([], false) := by unfold Ent.line; rw [if_neg (by rw [hf]; decide)]
        have LX := Lib.hid (fun (W : World) (x : Ext w W) => LE W x e heI.out)
        rw [hln] at LX
        unfold entC txS at LX
        clear LE LN hf hem he hln
        go_wp2_with (go_at_call 14; refine (LX.out _ (Y.out.tr (by (repeat (first | assumption | exact Ext.rf _ | apply Ext.drew | apply Ext.drewN | apply Ext.alloc))))).mono ?_; rintro r w2 ⟨rfl, x2⟩)
        go_ret2
        rw [hz.out]
        exact ⟨rfl, Y.out.tr (Ext.tr (by (repeat (first | assumption | exact Ext.rf _ | apply Ext.drew | apply Ext.drewN | apply Ext.alloc))) x2)⟩
      | true =>
        have LX := Lib.hid (fun (W : World) (x : Ext w W) => LE W x e heI.out)
        rw [Ent.line_fine hf] at LX
        unfold entC txS at LX
        have HF2 : Hid (∀ x ∈ l.take (k + 1), x.fine = true) := Lib.hid (by
          rw [hTK.out]
          intro x hx
          rcases List.mem_append.1 hx with hx | hx
          · exact HF.out x hx
          · rw [List.mem_singleton.1 hx]; exact hf)
        have HL2 : Hid (linesE (l.take (k + 1)) = (linesE (l.take k) ++ Lib.join e.words [32]) ++ [10]) := Lib.hid (by rw [hTK.out, linesE_snoc])
        have l1 := linesE_len (l.take k) (fun x hx => IN.out x (List.mem_of_mem_take hx))
        have l2 := words_len heI.out
        have l3 : (linesE (l.take k)).length + (Lib.join e.words [32]).length ≤ 1000000 := by rw [List.length_take] at l1; omega
        have l4 : (linesE (l.take k) ++ Lib.join e.words [32]).length + 1 ≤ 1000001 := by rw [List.length_append]; omega
        have L3 := Lib.hid l3
        have L4 := Lib.hid l4
        clear LE LN hf hem he l1 l2 l3 l4 hTK HF
        generalize linesE (l.take k) = P at *
        generalize Lib.join e.words [32] = q at *
        go_wp2_with (fail)
        refine (LX.out _ (Y.out.tr (by (repeat (first | assumption | exact Ext.rf _ | apply Ext.drew | apply Ext.drewN | apply Ext.alloc))))).mono ?_
        rintro r w2 ⟨rfl, x2⟩
        have y2 := Lib.hid (Ext.tr (a := wr) (by (repeat (first | assumption | exact Ext.rf _ | apply Ext.drew | apply Ext.drewN | apply Ext.alloc))) x2)
        clear x2
        have zy := y2.out.size
        go_wp2_with (fail)
        refine (wstr_any w.heap.size w.heap.size P q w2 (HB.out.ext y2.out) (by have := L3.out; omega) (by omega)).mono ?_
        rintro r w3 ⟨rfl, h3, k3⟩
        have z3 := k3.below.size
        have E3 := Lib.hid ((Y.out.tr y2.out).bk k3 (Nat.le_refl _))
        go_wp2_with (fail)
        refine (wnl_any w.heap.size w.heap.size (P ++ q) w3 h3 (by have := L4.out; omega) (by omega)).mono ?_
        rintro r w4 ⟨rfl, h4, k4⟩
        have E4 := Lib.hid (E3.out.bk k4 (Nat.le_refl _))
        replace h4 := Lib.hid h4
        clear h3 k3 k4 E3
        go_wp2_with (fail)
        go_roundw
        case rel => exact ⟨k + 1, by go_num, by omega, HF2, by rw [HL2.out]; exact h4, E4⟩
        case measure => simp [intOf]; omega
    · have hkl : k = l.length := by omega
      subst hkl
      have hz : Hid (writeE l = (linesE l, 0)) := Lib.hid (writeE_good (by omega) (by have := HF.out; rwa [List.take_length] at this))
      have HB2 : Hid (Bl wr w.heap.size w.heap.size (linesE l)) := Lib.hid (by have := HB.out; rwa [List.take_length] at this)
      have bB := HB.out.le
      clear HB HF
      generalize linesE l = P at *
      go_wp2_with (fail)
      refine (btext_any w.heap.size w.heap.size P _ HB2.out (by omega)).mono ?_
      rintro r w2 ⟨rfl, h2, k2⟩
      have E2 := Lib.hid (Y.out.bk k2 (Nat.le_refl _))
      clear h2 k2
      go_wp2_with (fail)
      go_ret2
      rw [hz.out]
      exact ⟨rfl, E2.out⟩
end Go.Proofs.YtcpadkaljnnieaaDoor
namespace Go.Proofs.YtcpadkaljnnieaaDoor
open Go.RowKit Go.ChangeShapes Go.WideShapes Go.ChangeAt Go.Deep

/-- the digits of a number; of nought none -/
def dgT (u : Nat) : List UInt8 := if u = 0 then [] else Lib.decDigits u
theorem dgT_step {u : Nat} (h : u ≠ 0) : dgT u = dgT (u / 10) ++ [UInt8.ofNat (48 + u % 10)] := by
  unfold dgT
  rw [if_neg h, Lib.decDigits]
  by_cases h1 : u < 10
  · rw [dif_pos h1, if_pos (by omega), Nat.mod_eq_of_lt h1]
    rfl
  · rw [dif_neg h1, if_neg (by omega)]
set_option maxRecDepth 100000 in
set_option maxHeartbeats 2000000 in
theorem rwrite_any (n : Int) (h0 : -9223372036854775808 ≤ n) (h1 : n ≤ 9223372036854775807) (w : World) :
    Calls Tryd.prog 29 #[.int .i64 n] w fun e w' => e = .returned (.string ⟨(Lib.itoa n).toArray⟩) ∧ Ext w w' := by
  by_cases hz : n = 0
  · subst hz
    have e9 : Lib.itoa 0 = [48] := by
      unfold Lib.itoa
      rw [if_neg (by omega)]
      rw [Lib.decDigits]
      simp
    rw [e9]
    go_enter Tryd.func29, Tryd.ntmps29
    go_wp2_with (fail)
    go_ret
    exact ⟨rfl, by (repeat (first | assumption | exact Ext.rf _ | apply Ext.drew | apply Ext.drewN | apply Ext.alloc))⟩
  · have e1 : (n == 0) = false := by simpa using hz
    have INV : ∀ (i : Nat) (m : Int) (l : List UInt8), dgT m.natAbs ++ l = dgT n.natAbs → m.natAbs * 10 ^ i ≤ n.natAbs → (m = 0 → l = Lib.decDigits n.natAbs) ∧ (m ≠ 0 → i < 20) := fun i m l e1 e2 => by
      refine ⟨fun hm => ?_, fun hm => ?_⟩
      · subst hm
        have h2 : dgT (0 : Int).natAbs = [] := rfl
        rw [h2, List.nil_append] at e1
        rw [e1]
        unfold dgT
        rw [if_neg (by omega)]
      · refine Classical.byContradiction fun hi => ?_
        have h3 : 10 ^ 20 ≤ 10 ^ i := Nat.pow_le_pow_right (by omega) (by omega)
        have h4 : 1 * 10 ^ i ≤ m.natAbs * 10 ^ i := Nat.mul_le_mul_right _ (by omega)
        omega
    have HA : Hid (dgT n.natAbs ++ [] = dgT n.natAbs) := by
      have h : dgT n.natAbs ++ [] = dgT n.natAbs := List.append_nil _
      exact h
    have HL0 : Hid (([] : List UInt8).length = 0) := by
      have h : ([] : List UInt8).length = 0 := rfl
      exact h
    have HB : Hid (n.natAbs * 10 ^ 0 ≤ n.natAbs) := by
      have h : n.natAbs * 10 ^ 0 ≤ n.natAbs := by omega
      exact h
    replace INV := Lib.hid INV
    go_enter Tryd.func29, Tryd.ntmps29
    go_wp2_with (fail)
    go_loopw [3, 4, 5] (fun v3 v4 v5 wr => ∃ (l : List UInt8) (m : Int) (i : Nat), v3 = .string ⟨l.toArray⟩ ∧ v4 = .int .i64 m ∧ v5 = .int .i64 i ∧ i ≤ 20 ∧ Hid (l.length = i) ∧ Hid (dgT m.natAbs ++ l = dgT n.natAbs) ∧ Hid (m.natAbs * 10 ^ i ≤ n.natAbs) ∧ Hid (Ext w wr)) (fun _ v4 _ _ => (intOf v4).natAbs)
    case atStart => exact ⟨[], n, 0, rfl, rfl, rfl, by omega, HL0, HA.out, HB.out, by (repeat (first | assumption | exact Ext.rf _ | apply Ext.drew | apply Ext.drewN | apply Ext.alloc))⟩
    case round =>
      obtain ⟨wo, rfl⟩ : ∃ wo : World, wo = wr := ⟨_, rfl⟩
      obtain ⟨l, m, i, rfl, rfl, rfl, hi, ll, hl, hb, X⟩ := hrel
      obtain ⟨I1, I2⟩ := INV.out i m l hl.out hb.out
      have lb : ¬ 9223372036854775807 < 1 + l.length := by have := ll.out; omega
      by_cases hm : m = 0
      · subst hm
        have hl9 := Lib.hid (I1 rfl)
        clear I1 I2
        have e3 : ((0 : Int) != 0) = false := by simp
        by_cases hi9 : (i : Int) < 20
        all_goals
          by_cases hn : n < 0
          · have e9 : Hid (Lib.itoa n = 45 :: l) := by
              have h : Lib.itoa n = 45 :: l := by
                unfold Lib.itoa
                rw [if_pos hn, hl9.out]
              exact h
            go_wp2_with (fail)
            go_ret
            rw [e9.out]
            exact ⟨by first | rfl | (congr 2), X.out.tr (by (repeat (first | assumption | exact Ext.rf _ | apply Ext.drew | apply Ext.drewN | apply Ext.alloc)))⟩
          · have e9 : Hid (Lib.itoa n = l) := by
              have h : Lib.itoa n = l := by
                unfold Lib.itoa
                rw [if_neg hn, hl9.out, show n.natAbs = n.toNat by omega]
              exact h
            go_wp2_with (fail)
            go_ret
            rw [e9.out]
            exact ⟨rfl, X.out.tr (by (repeat (first | assumption | exact Ext.rf _ | apply Ext.drew | apply Ext.drewN | apply Ext.alloc)))⟩
      · have hi20 := I2 hm
        have q1 : (i : Int) < 20 := by omega
        have e2 : (m != 0) = true := by simpa using hm
        have hmb : m.natAbs ≤ n.natAbs := by
          have h3 : m.natAbs * 1 ≤ m.natAbs * 10 ^ i := Nat.mul_le_mul_left _ (Nat.pow_pos (by omega))
          have := hb.out
          omega
        have hd1 : (m.tmod 10).natAbs = m.natAbs % 10 := by rw [Int.natAbs_tmod]; rfl
        have hd2 : (m.tdiv 10).natAbs = m.natAbs / 10 := by rw [Int.natAbs_tdiv]; rfl
        obtain ⟨t, ht⟩ : ∃ t, m.tmod 10 = t := ⟨_, rfl⟩
        obtain ⟨m2, hm2⟩ : ∃ m2, m.tdiv 10 = m2 := ⟨_, rfl⟩
        rw [ht] at hd1
        rw [hm2] at hd2
        have wm : IntKind.i64.wrap m2 = m2 := IntWalk.i64_in _ (by omega)
        obtain ⟨d, hd⟩ : ∃ d, Hid (m.natAbs % 10 = d) := ⟨_, rfl⟩
        rw [hd.out] at hd1
        have d9 : d ≤ 9 := by have := hd.out; omega
        have w1 : IntKind.i64.wrap (48 + (d : Int)) = 48 + (d : Int) := IntWalk.i64_in _ (by omega)
        have NL : Hid (dgT m2.natAbs ++ (UInt8.ofNat (48 + d) :: l) = dgT n.natAbs) := by
          have h : dgT m2.natAbs ++ (UInt8.ofNat (48 + d) :: l) = dgT n.natAbs := by
            rw [← hl.out, dgT_step (u := m.natAbs) (by omega), hd2, hd.out, List.append_assoc]
            rfl
          exact h
        have NB : Hid (m2.natAbs * 10 ^ (i + 1) ≤ n.natAbs) := by
          have h : m2.natAbs * 10 ^ (i + 1) ≤ n.natAbs := by
            refine Nat.le_trans ?_ hb.out
            rw [Nat.pow_succ, hd2, Nat.mul_comm (10 ^ i) 10, ← Nat.mul_assoc]
            exact Nat.mul_le_mul_right _ (Nat.div_mul_le_self _ _)
          exact h
        have MS : Hid (m2.natAbs < m.natAbs) := by
          have h : m2.natAbs < m.natAbs := by omega
          exact h
        clear hl hb I1 I2 hmb
        have CV := run_convert_bytes_arg (P := Tryd.prog) (wo.alloc (.cells #[.int .u8 (48 + (d : Int))] 5)) 44 5 Tryd.underlying44 Tryd.underlying5 wo.heap.size 0 1 1 [48 + (d : Int)] rfl (fun i hi => by
          obtain rfl : i = 0 := by omega
          exact (show Blk (wo.alloc (.cells #[.int .u8 (48 + (d : Int))] 5)) wo.heap.size 5 #[.int .u8 (48 + (d : Int))] from .new rfl).cell 0) 9 Tryd.underlying9
        obtain ⟨s0, hs0⟩ : ∃ s0, Hid (strOfNums [48 + (d : Int)] = s0) := ⟨_, rfl⟩
        rw [hs0.out] at CV
        have ls : ¬ 9223372036854775807 < s0.size + l.length := by
          have h : s0.size = 1 := by rw [← hs0.out]; rfl
          have := ll.out
          omega
        have LL : Hid ((UInt8.ofNat (48 + d) :: l).length = i + 1) := by
          have h : (UInt8.ofNat (48 + d) :: l).length = i + 1 := by rw [List.length_cons, ll.out]
          exact h
        have ES : Hid (s0 ++ (⟨l.toArray⟩ : ByteArray) = ⟨(UInt8.ofNat (48 + d) :: l).toArray⟩) := by
          have h : s0 ++ (⟨l.toArray⟩ : ByteArray) = ⟨(UInt8.ofNat (48 + d) :: l).toArray⟩ := by
            rw [← hs0.out]
            have e1 : (48 + (d : Int)).toNat = 48 + d := by omega
            simp only [strOfNums, List.map_cons, List.map_nil, e1]
            apply ByteArray.ext
            rw [ByteArray.data_append]
            simp
          exact h
        by_cases hneg : t < 0
        · have w0 : IntKind.i64.wrap (0 - t) = (d : Int) := by rw [show 0 - t = (d : Int) by omega]; exact IntWalk.i64_in _ (by omega)
          have w0' : IntKind.i64.wrap (-t) = (d : Int) := by rw [show -t = (d : Int) by omega]; exact IntWalk.i64_in _ (by omega)
          clear hd1 hd2
          go_wp2_with (fail)
          go_roundw
          case rel => exact ⟨UInt8.ofNat (48 + d) :: l, m2, i + 1, by rw [← ES.out], rfl, by go_num, by omega, LL, NL, NB, X.out.tr (by (repeat (first | assumption | exact Ext.rf _ | apply Ext.drew | apply Ext.drewN | apply Ext.alloc)))⟩
          case measure => (have h9 := MS.out; simp only [intOf]; exact h9)
        · obtain rfl : t = (d : Int) := by omega
          clear hd1 hd2
          go_wp2_with (fail)
          go_roundw
          case rel => exact ⟨UInt8.ofNat (48 + d) :: l, m2, i + 1, by rw [← ES.out], rfl, by go_num, by omega, LL, NL, NB, X.out.tr (by (repeat (first | assumption | exact Ext.rf _ | apply Ext.drew | apply Ext.drewN | apply Ext.alloc)))⟩
          case measure => (have h9 := MS.out; simp only [intOf]; exact h9)
end Go.Proofs.YtcpadkaljnnieaaDoor
