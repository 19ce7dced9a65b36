/-
  trace.entry: a line of two words, of six words.
  trace.entry: a line of six words.
  trace.entry at a line that was written; trace.Read at lines that were written; the law's own example.
  The law's own example; the document's entries as the program's.
  The library function lies in this program: its bodies, its types, number by number.
  slices.Sort of ints of the call's own.
  The cell that stands oftenest, the least of those: as the document goes, and along a row that rises.
  trace.Count: how many steps of each kind there are.
  trace.Count.
  From the condition that the five tables are as they were laid to the powers of ten.
-/
import Derived.Test.YtcpadkaljnnieaaDoorTraceCountsP1
import Derived.Shelf.Lays
import Derived.Shelf.Sort.AssemblyIn
import Derived.Sort.EveryDepth
import Derived.Shelf.Slices.In.SortNone
import Derived.LaidMore
import Derived.Lay
import Derived.SevenTiedAt
import Derived.Stop.Joined
import Derived.Stop.LaidErr
import Derived.Lib.LaidTab
import Derived.Test.YtcpadkaljnnieaaDoorRows
namespace Go.Proofs.YtcpadkaljnnieaaDoor
open Go.RowKit Go.ChangeShapes Go.WideShapes Go.ChangeAt Go.Deep

theorem numT_i64 (s : Txt) : i64 (numT s) := by
  obtain ⟨h1, h2⟩ := readD_range (Lib.trimPrefix s [45])
  unfold numT i64
  simp only
  split
  · omega
  split <;> omega
theorem i64_0 : i64 0 := by unfold i64; omega
/-- an entry's six cells are put in -/
def ent6W (W : World) (g : Nat) (a0 a1 a2 a3 a4 a5 : Value) : World := ((((((W.setCell ⟨g, 0, none⟩ a0).setCell ⟨g, 1, none⟩ a1).setCell ⟨g, 2, none⟩ a2).setCell ⟨g, 3, none⟩ a3).setCell ⟨g, 4, none⟩ a4).setCell ⟨g, 5, none⟩ a5)
theorem ent_put {W : World} {g : Nat} {t : TypeId} {o0 o1 o2 o3 o4 o5 : Value} (h : Blk W g t #[o0, o1, o2, o3, o4, o5]) (a0 a1 a2 a3 a4 a5 : Value) : Blk (ent6W W g a0 a1 a2 a3 a4 a5) g t #[a0, a1, a2, a3, a4, a5] :=
  (((((h.set 0 a0).set 1 a1).set 2 a2).set 3 a3).set 4 a4).set 5 a5
theorem Ext.ent6 {w W : World} {g : Nat} {a0 a1 a2 a3 a4 a5 : Value} (h : Ext w W) (hg : w.heap.size ≤ g) : Ext w (ent6W W g a0 a1 a2 a3 a4 a5) :=
  (((((h.setNew (p := ⟨g, 0, none⟩) hg a0).setNew (p := ⟨g, 1, none⟩) hg a1).setNew (p := ⟨g, 2, none⟩) hg a2).setNew (p := ⟨g, 3, none⟩) hg a3).setNew (p := ⟨g, 4, none⟩) hg a4).setNew (p := ⟨g, 5, none⟩) hg a5
/-- what is told of a line -/
def EntryPost (s : Txt) (w : World) (r : Ending) (w' : World) : Prop := r = .returned (.tuple #[.agg (entC (entryT s).1), .bool (entryT s).2]) ∧ Ext w w'
set_option maxRecDepth 100000 in
set_option maxHeartbeats 4000000 in
theorem entry2_any (s a0 a1 : Txt) (hs : splitC 32 s = [a0, a1]) (hl : s.length ≤ 1000) (hp : ∀ x ∈ [a0, a1], Plain x ∧ x.length ≤ 1000) (w : World) (hT : Ten w) :
    Calls Tryd.prog 20 #[.string ⟨s.toArray⟩] w (EntryPost s w) := by
  have SP := fun (W : World) => split1_any s 32 W (by omega)
  rw [hs] at SP
  have NU := Lib.hid (fun (W : World) => number_t a0 W (hp a0 (by simp)).1 (by have := (hp a0 (by simp)).2; omega))
  have SX := Lib.hid (fun (W : World) (A : Option Addr) (c : Nat) (h : RdV W 9 A (txV [a0, a1])) => short_any A c [a0, a1] W h (by simp [maxLen]) (fun x hx => ⟨(hp x hx).1, by have := (hp x hx).2; omega⟩))
  have hE : entryE [a0, a1] = ⟨numT a0, 0, 0, 0, 0, false⟩ := by unfold entryE; rw [if_neg (by simp)]; rfl
  have hI : (Ent.mk (numT a0) 0 0 0 0 false).In := ⟨numT_i64 a0, i64_0, i64_0, i64_0, i64_0⟩
  have LX := Lib.hid (fun (W : World) (x : Ext w W) => line_any ⟨numT a0, 0, 0, 0, 0, false⟩ W hI (hT.ext x))
  unfold EntryPost
  have hR : entryT s = (⟨numT a0, 0, 0, 0, 0, false⟩, (Ent.mk (numT a0) 0 0 0 0 false).line.2 && decide ((Ent.mk (numT a0) 0 0 0 0 false).line.1 = s) && shortT [a0, a1]) := by
    unfold entryT
    simp only [hs, hE]
  rw [hR]
  clear hR hE hI hT hp hs
  generalize (Ent.mk (numT a0) 0 0 0 0 false).line = lr at *
  obtain ⟨t, ok⟩ := lr
  simp only at LX ⊢
  obtain ⟨res, hres⟩ : ∃ res, Hid ((ok && decide (t = s) && shortT [a0, a1]) = res) := ⟨_, rfl⟩
  rw [hres.out]
  have RES1 : Hid (ok = false → res = false) := Lib.hid (by rintro rfl; have := hres.out; simpa using this.symm)
  have RES2 : Hid (t ≠ s → res = false) := Lib.hid (by intro h; have := hres.out; simpa [h] using this.symm)
  have RES3 : Hid (ok = true → t = s → res = shortT [a0, a1]) := Lib.hid (by rintro rfl rfl; have := hres.out; simpa using this.symm)
  clear hres
  obtain ⟨n0, hn0⟩ : ∃ n0, numT a0 = n0 := ⟨_, rfl⟩
  rw [hn0] at NU LX ⊢
  clear hn0
  obtain ⟨n1, hn1⟩ : ∃ n1 : Int, n1 = 0 := ⟨_, rfl⟩
  simp only [txV, txS, List.map_cons, List.map_nil, List.length_cons, List.length_nil, Nat.zero_add, Nat.reduceAdd] at SP
  unfold txS at LX
  unfold entC at LX ⊢
  simp only at LX ⊢
  replace SP := Lib.hid SP
  clear hn1
  go_enter Tryd.func20, Tryd.ntmps20
  go_wp2_with (fail)
  refine (SP.out _).mono ?_
  rintro e w1 ⟨rfl, rfl⟩
  have BR1 : Hid (Blk ((w.alloc (.cells #[.int .i64 0, .int .i64 0, .int .i64 0, .int .i64 0, .int .i64 0, .bool false] 50)).alloc (.cells #[.string ⟨a0.toArray⟩, .string ⟨a1.toArray⟩] 9)) w.heap.size 50 #[.int .i64 0, .int .i64 0, .int .i64 0, .int .i64 0, .int .i64 0, .bool false]) := .alloc (.new rfl) _
  have BW1 : Hid (Blk ((w.alloc (.cells #[.int .i64 0, .int .i64 0, .int .i64 0, .int .i64 0, .int .i64 0, .bool false] 50)).alloc (.cells #[.string ⟨a0.toArray⟩, .string ⟨a1.toArray⟩] 9)) (w.heap.size + 1) 9 #[.string ⟨a0.toArray⟩, .string ⟨a1.toArray⟩]) := .new (by simp)
  have XW1 : Hid (Ext w ((w.alloc (.cells #[.int .i64 0, .int .i64 0, .int .i64 0, .int .i64 0, .int .i64 0, .bool false] 50)).alloc (.cells #[.string ⟨a0.toArray⟩, .string ⟨a1.toArray⟩] 9))) := by (repeat (first | assumption | exact Ext.rf _ | apply Ext.drew | apply Ext.drewN | apply Ext.alloc))
  go_upto_region 3 with (go_at_call 33; refine (NU.out _).mono ?_; rintro e w2 ⟨rfl, x2⟩)
  have BE : Hid (Blk (w2.alloc (.cells #[.int .i64 n0, .int .i64 0, .int .i64 0, .int .i64 0, .int .i64 0, .bool false] 50)) w2.heap.size 50 #[.int .i64 n0, .int .i64 0, .int .i64 0, .int .i64 0, .int .i64 0, .bool false]) := .new rfl
  have BR := Lib.hid ((BR1.out.ext x2).alloc (.cells #[.int .i64 n0, .int .i64 0, .int .i64 0, .int .i64 0, .int .i64 0, .bool false] 50))
  have RW := Lib.hid (RdV.blk ((BW1.out.ext x2).alloc (.cells #[.int .i64 n0, .int .i64 0, .int .i64 0, .int .i64 0, .int .i64 0, .bool false] 50)))
  have YR := Lib.hid ((XW1.out.tr x2).alloc (.cells #[.int .i64 n0, .int .i64 0, .int .i64 0, .int .i64 0, .int .i64 0, .bool false] 50))
  have zb : w.heap.size < w2.heap.size := (BR1.out.ext x2).lt
  clear BR1 BW1 XW1 x2
  obtain ⟨gb, hgb⟩ : ∃ gb, gb = w2.heap.size := ⟨_, rfl⟩
  rw [← hgb] at zb BE ⊢
  clear hgb
  go_upto_region 10 with (fail)
  generalize (w2.alloc (.cells #[.int .i64 n0, .int .i64 0, .int .i64 0, .int .i64 0, .int .i64 0, .bool false] 50)) = wr at *
  have q0 : wr.cell? ⟨gb, 0, none⟩ = some (.int .i64 n0) := BE.out.cell 0
  have q1 : wr.cell? ⟨gb, 1, none⟩ = some (.int .i64 0) := BE.out.cell 1
  have q2 : wr.cell? ⟨gb, 2, none⟩ = some (.int .i64 0) := BE.out.cell 2
  have q3 : wr.cell? ⟨gb, 3, none⟩ = some (.int .i64 0) := BE.out.cell 3
  have q4 : wr.cell? ⟨gb, 4, none⟩ = some (.int .i64 0) := BE.out.cell 4
  have q5 : wr.cell? ⟨gb, 5, none⟩ = some (.bool false) := BE.out.cell 5
  go_wp2_with (fail)
  refine (LX.out _ (YR.out.tr (by (repeat (first | assumption | exact Ext.rf _ | apply Ext.drew | apply Ext.drewN | apply Ext.alloc))))).mono ?_
  rintro e wl ⟨rfl, xl⟩
  have YL := Lib.hid (YR.out.tr (Ext.tr (by (repeat (first | assumption | exact Ext.rf _ | apply Ext.drew | apply Ext.drewN | apply Ext.alloc))) xl))
  have BL := Lib.hid (Blk.ext (Blk.ext (w' := _) BE.out (by (repeat (first | assumption | exact Ext.rf _ | apply Ext.drew | apply Ext.drewN | apply Ext.alloc)))) xl)
  have BZ := Lib.hid (Blk.ext (Blk.ext (w' := _) BR.out (by (repeat (first | assumption | exact Ext.rf _ | apply Ext.drew | apply Ext.drewN | apply Ext.alloc)))) xl)
  have RL := Lib.hid (RdV.ext (RdV.ext (w' := _) RW.out (by (repeat (first | assumption | exact Ext.rf _ | apply Ext.drew | apply Ext.drewN | apply Ext.alloc)))) xl)
  have zl := Ext.tr (a := wr) (by (repeat (first | assumption | exact Ext.rf _ | apply Ext.drew | apply Ext.drewN | apply Ext.alloc))) xl |>.size
  have zb2 := BE.out.lt
  have zr2 := BR.out.lt
  clear q0 q1 q2 q3 q4 q5 xl BE BR RW YR LX
  have q0 : wl.cell? ⟨gb, 0, none⟩ = some (.int .i64 n0) := BL.out.cell 0
  have q1 : wl.cell? ⟨gb, 1, none⟩ = some (.int .i64 0) := BL.out.cell 1
  have q2 : wl.cell? ⟨gb, 2, none⟩ = some (.int .i64 0) := BL.out.cell 2
  have q3 : wl.cell? ⟨gb, 3, none⟩ = some (.int .i64 0) := BL.out.cell 3
  have q4 : wl.cell? ⟨gb, 4, none⟩ = some (.int .i64 0) := BL.out.cell 4
  have q5 : wl.cell? ⟨gb, 5, none⟩ = some (.bool false) := BL.out.cell 5
  cases ok with
  | false =>
    have HR := RES1.out rfl
    have r0 : wl.cell? ⟨w.heap.size, 0, none⟩ = some (.int .i64 0) := BZ.out.cell 0
    have r1 : wl.cell? ⟨w.heap.size, 1, none⟩ = some (.int .i64 0) := BZ.out.cell 1
    have r2 : wl.cell? ⟨w.heap.size, 2, none⟩ = some (.int .i64 0) := BZ.out.cell 2
    have r3 : wl.cell? ⟨w.heap.size, 3, none⟩ = some (.int .i64 0) := BZ.out.cell 3
    have r4 : wl.cell? ⟨w.heap.size, 4, none⟩ = some (.int .i64 0) := BZ.out.cell 4
    have r5 : wl.cell? ⟨w.heap.size, 5, none⟩ = some (.bool false) := BZ.out.cell 5
    have f0 := BZ.out.free 0
    have f1 := BZ.out.free 1
    have f2 := BZ.out.free 2
    have f3 := BZ.out.free 3
    have f4 := BZ.out.free 4
    have f5 := BZ.out.free 5
    have BF := Lib.hid (ent_put BZ.out (.int .i64 n0) (.int .i64 0) (.int .i64 0) (.int .i64 0) (.int .i64 0) (.bool false))
    have YF : Hid (Ext w (ent6W wl w.heap.size (.int .i64 n0) (.int .i64 0) (.int .i64 0) (.int .i64 0) (.int .i64 0) (.bool false))) := Lib.hid (YL.out.ent6 (Nat.le_refl _))
    unfold ent6W at BF YF
    go_wp2_with (fail)
    refine wp_region_any (by kernel_rfl) ?_
    change wpAny _ _ _ _ _ _ _ (World.drew _)
    refine wpAny_T (i := 1) (op := Op.move (Operand.tmp 8)) (t := 4) (d := some 56) (v := ?_) rfl (by decide +kernel) (by decide +kernel) (by decide +kernel) (fun _ _ _ h => h) ?_ ?_
    case refine_2 => (intro _; unfold exec2; go_simp; try with_reducible rfl)
    try simp only [Act.put, List.setIfInBounds_toArray, List.set_cons_zero, List.set_cons_succ]
    refine wpAny_T (i := 2) (op := Op.move (Operand.tmp 56)) (t := 4) (d := some 57) (v := ?_) rfl (by decide +kernel) (by decide +kernel) (by decide +kernel) (fun _ _ _ h => h) ?_ ?_
    case refine_2 => (intro _; unfold exec2; go_simp; try with_reducible rfl)
    try simp only [Act.put, List.setIfInBounds_toArray, List.set_cons_zero, List.set_cons_succ]
    refine wpAny_S (i := 3) (op := Op.move (Operand.tmp 7)) (t := 9) (d := some 58) (b := false) (g := (2, true)) rfl (by decide +kernel) (by decide +kernel) (by decide +kernel) (fun _ _ _ h => h) (by kernel_rfl) rfl ?_
    try simp only [Act.put, List.setIfInBounds_toArray, List.set_cons_zero, List.set_cons_succ]
    refine wpAny_S (i := 4) (op := Op.move (Operand.tmp 0)) (t := 9) (d := some 59) (b := false) (g := (2, true)) rfl (by decide +kernel) (by decide +kernel) (by decide +kernel) (fun _ _ _ h => h) (by kernel_rfl) rfl ?_
    try simp only [Act.put, List.setIfInBounds_toArray, List.set_cons_zero, List.set_cons_succ]
    refine wpAny_S (i := 5) (op := Op.binOp BinOp.eql 9 (Operand.tmp 58) (Operand.tmp 59) 9) (t := 4) (d := some 60) (b := false) (g := (2, true)) rfl (by decide +kernel) (by decide +kernel) (by decide +kernel) (fun _ _ _ h => h) (by kernel_rfl) rfl ?_
    try simp only [Act.put, List.setIfInBounds_toArray, List.set_cons_zero, List.set_cons_succ]
    refine wpAny_T (i := 6) (op := Op.pick (Operand.tmp 57) (Operand.tmp 60) (Operand.const (Value.bool false))) (t := 4) (d := some 61) (v := ?_) rfl (by decide +kernel) (by decide +kernel) (by decide +kernel) (fun _ _ _ h => h) ?_ ?_
    case refine_2 => (intro _; unfold exec2; go_simp; try with_reducible rfl)
    try simp only [Act.put, List.setIfInBounds_toArray, List.set_cons_zero, List.set_cons_succ]
    refine wpAny_T (i := 7) (op := Op.move (Operand.tmp 61)) (t := 4) (d := some 62) (v := ?_) rfl (by decide +kernel) (by decide +kernel) (by decide +kernel) (fun _ _ _ h => h) ?_ ?_
    case refine_2 => (intro _; unfold exec2; go_simp; try with_reducible rfl)
    try simp only [Act.put, List.setIfInBounds_toArray, List.set_cons_zero, List.set_cons_succ]
    refine wpAny_S (i := 8) (op := Op.move (Operand.tmp 4)) (t := 64) (d := some 63) (b := false) (g := (7, true)) rfl (by decide +kernel) (by decide +kernel) (by decide +kernel) (fun _ _ _ h => h) (by kernel_rfl) rfl ?_
    try simp only [Act.put, List.setIfInBounds_toArray, List.set_cons_zero, List.set_cons_succ]
    refine wpAny_S (i := 9) (op := Op.call { callee := Callee.value (Operand.func 34), args := #[Operand.tmp 63], argTypes := #[64] }) (t := 4) (d := some 64) (b := false) (g := (7, true)) rfl (by decide +kernel) (by decide +kernel) (by decide +kernel) (fun _ _ _ h => h) (by kernel_rfl) rfl ?_
    try simp only [Act.put, List.setIfInBounds_toArray, List.set_cons_zero, List.set_cons_succ]
    refine wpAny_T (i := 10) (op := Op.pick (Operand.tmp 62) (Operand.tmp 64) (Operand.const (Value.bool false))) (t := 4) (d := some 65) (v := ?_) rfl (by decide +kernel) (by decide +kernel) (by decide +kernel) (fun _ _ _ h => h) ?_ ?_
    case refine_2 => (intro _; unfold exec2; go_simp; try with_reducible rfl)
    try simp only [Act.put, List.setIfInBounds_toArray, List.set_cons_zero, List.set_cons_succ]
    refine wpAny_next 0 (by decide +kernel) (op_ld (T := 50) (x := Operand.tmp 5) (t := 50) (d := some 55) rfl (.pointer (some ⟨gb, 0, none⟩)) (by kernel_rfl) (.agg #[.int .i64 n0, .int .i64 0, .int .i64 0, .int .i64 0, .int .i64 0, .bool false]) (by go_simp) ?_)
    try simp only [Act.put, List.setIfInBounds_toArray, List.set_cons_zero, List.set_cons_succ]
    refine wpAny_next 11 (by kernel_rfl) (op_st rfl (.pointer (some ⟨w.heap.size, 0, none⟩)) (.agg #[.int .i64 n0, .int .i64 0, .int .i64 0, .int .i64 0, .int .i64 0, .bool false]) (by kernel_rfl) (by kernel_rfl) (by go_simp; rfl) ?_)
    try simp only [Act.put, List.setIfInBounds_toArray, List.set_cons_zero, List.set_cons_succ]
    refine wpAny_T (i := 12) (op := Op.assign (Operand.tmp 65)) (t := 4) (d := some 3) (v := ?_) rfl (by decide +kernel) (by decide +kernel) (by decide +kernel) (fun _ _ _ h => h) ?_ ?_
    case refine_2 => (intro _; unfold exec2; go_simp; try with_reducible rfl)
    try simp only [Act.put, List.setIfInBounds_toArray, List.set_cons_zero, List.set_cons_succ]
    refine wpAny_done (by kernel_rfl) ?_ _
    go_simp
    generalize ((((((wl.setCell ⟨w.heap.size, 0, none⟩ (.int .i64 n0)).setCell ⟨w.heap.size, 1, none⟩ (.int .i64 0)).setCell ⟨w.heap.size, 2, none⟩ (.int .i64 0)).setCell ⟨w.heap.size, 3, none⟩ (.int .i64 0)).setCell ⟨w.heap.size, 4, none⟩ (.int .i64 0)).setCell ⟨w.heap.size, 5, none⟩ (.bool false)) = wf at *
    clear r0 r1 r2 r3 r4 r5 f0 f1 f2 f3 f4 f5 q0 q1 q2 q3 q4 q5
    have r0 : wf.drew.cell? ⟨w.heap.size, 0, none⟩ = some (.int .i64 n0) := BF.out.drew.cell 0
    have r1 : wf.drew.cell? ⟨w.heap.size, 1, none⟩ = some (.int .i64 0) := BF.out.drew.cell 1
    have r2 : wf.drew.cell? ⟨w.heap.size, 2, none⟩ = some (.int .i64 0) := BF.out.drew.cell 2
    have r3 : wf.drew.cell? ⟨w.heap.size, 3, none⟩ = some (.int .i64 0) := BF.out.drew.cell 3
    have r4 : wf.drew.cell? ⟨w.heap.size, 4, none⟩ = some (.int .i64 0) := BF.out.drew.cell 4
    have r5 : wf.drew.cell? ⟨w.heap.size, 5, none⟩ = some (.bool false) := BF.out.drew.cell 5
    go_wp2_with (fail)
    refine bodyPost_ret (v := .tuple #[.agg #[.int .i64 n0, .int .i64 0, .int .i64 0, .int .i64 0, .int .i64 0, .bool false], .bool false]) (by simp [results, Tryd.results20, go_sem, *]) rfl ⟨by rw [HR], YF.out.drew⟩
  | true =>
    by_cases ht : t = s
    · skip
      subst ht
      have HR2 := Lib.hid (RES3.out rfl rfl)
      have h0 := BL.out.lt
      go_wp2_with (fail)
      go_region_held3 (fun W' => W'.cell? ⟨gb, 0, none⟩ = some (.int .i64 n0) ∧ W'.cell? ⟨gb, 1, none⟩ = some (.int .i64 0) ∧ W'.cell? ⟨gb, 2, none⟩ = some (.int .i64 0) ∧ W'.cell? ⟨gb, 3, none⟩ = some (.int .i64 0) ∧ W'.cell? ⟨gb, 4, none⟩ = some (.int .i64 0) ∧ W'.cell? ⟨gb, 5, none⟩ = some (.bool false)) (first | go_keep | (focus (go_simp; done)))
        (first
        | (go_at_call 34; refine (SX.out _ _ _ (RL.out.ext (by (repeat (first | assumption | exact Ext.rf _ | apply Ext.drew | apply Ext.drewN | apply Ext.alloc))))).mono ?_; rintro e wm ⟨rfl, xm⟩; have ym := Ext.tr (a := wl) (by (repeat (first | assumption | exact Ext.rf _ | apply Ext.drew | apply Ext.drewN | apply Ext.alloc))) xm; have s1 := keepEL ym h0 q0; have s2 := keepEL ym h0 q1; have s3 := keepEL ym h0 q2; have s4 := keepEL ym h0 q3; have s5 := keepEL ym h0 q4; have s6 := keepEL ym h0 q5; have Zm := Lib.hid (BZ.out.ext ym); have t0 := Zm.out.cell 0; have t1 := Zm.out.cell 1; have t2 := Zm.out.cell 2; have t3 := Zm.out.cell 3; have t4 := Zm.out.cell 4; have t5 := Zm.out.cell 5; have f0 := Zm.out.free 0; have f1 := Zm.out.free 1; have f2 := Zm.out.free 2; have f3 := Zm.out.free 3; have f4 := Zm.out.free 4; have f5 := Zm.out.free 5; simp only [List.getElem?_toArray, List.getElem?_cons_zero, List.getElem?_cons_succ] at t0 t1 t2 t3 t4 t5; have BF := Lib.hid (ent_put Zm.out (.int .i64 n0) (.int .i64 0) (.int .i64 0) (.int .i64 0) (.int .i64 0) (.bool false)); have YF : Hid (Ext w (ent6W wm w.heap.size (.int .i64 n0) (.int .i64 0) (.int .i64 0) (.int .i64 0) (.int .i64 0) (.bool false))) := Lib.hid ((YL.out.tr ym).ent6 (Nat.le_refl _)); unfold ent6W at BF YF))
      generalize ((((((wm.setCell ⟨w.heap.size, 0, none⟩ (.int .i64 n0)).setCell ⟨w.heap.size, 1, none⟩ (.int .i64 0)).setCell ⟨w.heap.size, 2, none⟩ (.int .i64 0)).setCell ⟨w.heap.size, 3, none⟩ (.int .i64 0)).setCell ⟨w.heap.size, 4, none⟩ (.int .i64 0)).setCell ⟨w.heap.size, 5, none⟩ (.bool false)) = wf at *
      clear t0 t1 t2 t3 t4 t5 f0 f1 f2 f3 f4 f5 q0 q1 q2 q3 q4 q5 s1 s2 s3 s4 s5 s6
      have r0 : wf.cell? ⟨w.heap.size, 0, none⟩ = some (.int .i64 n0) := BF.out.cell 0
      have r1 : wf.cell? ⟨w.heap.size, 1, none⟩ = some (.int .i64 0) := BF.out.cell 1
      have r2 : wf.cell? ⟨w.heap.size, 2, none⟩ = some (.int .i64 0) := BF.out.cell 2
      have r3 : wf.cell? ⟨w.heap.size, 3, none⟩ = some (.int .i64 0) := BF.out.cell 3
      have r4 : wf.cell? ⟨w.heap.size, 4, none⟩ = some (.int .i64 0) := BF.out.cell 4
      have r5 : wf.cell? ⟨w.heap.size, 5, none⟩ = some (.bool false) := BF.out.cell 5
      go_wp2_with (fail)
      refine bodyPost_ret (v := .tuple #[.agg #[.int .i64 n0, .int .i64 0, .int .i64 0, .int .i64 0, .int .i64 0, .bool false], .bool (shortT [a0, a1])]) (by simp [results, Tryd.results20, go_sem, *]) rfl ⟨by rw [HR2.out], YF.out⟩
    · have HR := RES2.out ht
      have ht2 : @BEq.beq (List UInt8) _ t s = false := beq_eq_false_iff_ne.2 ht
      have r0 : wl.cell? ⟨w.heap.size, 0, none⟩ = some (.int .i64 0) := BZ.out.cell 0
      have r1 : wl.cell? ⟨w.heap.size, 1, none⟩ = some (.int .i64 0) := BZ.out.cell 1
      have r2 : wl.cell? ⟨w.heap.size, 2, none⟩ = some (.int .i64 0) := BZ.out.cell 2
      have r3 : wl.cell? ⟨w.heap.size, 3, none⟩ = some (.int .i64 0) := BZ.out.cell 3
      have r4 : wl.cell? ⟨w.heap.size, 4, none⟩ = some (.int .i64 0) := BZ.out.cell 4
      have r5 : wl.cell? ⟨w.heap.size, 5, none⟩ = some (.bool false) := BZ.out.cell 5
      have f0 := BZ.out.free 0
      have f1 := BZ.out.free 1
      have f2 := BZ.out.free 2
      have f3 := BZ.out.free 3
      have f4 := BZ.out.free 4
      have f5 := BZ.out.free 5
      have BF := Lib.hid (ent_put BZ.out (.int .i64 n0) (.int .i64 0) (.int .i64 0) (.int .i64 0) (.int .i64 0) (.bool false))
      have YF : Hid (Ext w (ent6W wl w.heap.size (.int .i64 n0) (.int .i64 0) (.int .i64 0) (.int .i64 0) (.int .i64 0) (.bool false))) := Lib.hid (YL.out.ent6 (Nat.le_refl _))
      unfold ent6W at BF YF
      go_wp2_with (fail)
      refine wp_region_any (by kernel_rfl) ?_
      change wpAny _ _ _ _ _ _ _ (World.drew _)
      refine wpAny_T (i := 1) (op := Op.move (Operand.tmp 8)) (t := 4) (d := some 56) (v := ?_) rfl (by decide +kernel) (by decide +kernel) (by decide +kernel) (fun _ _ _ h => h) ?_ ?_
      case refine_2 => (intro _; unfold exec2; go_simp; try with_reducible rfl)
      try simp only [Act.put, List.setIfInBounds_toArray, List.set_cons_zero, List.set_cons_succ]
      refine wpAny_T (i := 2) (op := Op.move (Operand.tmp 56)) (t := 4) (d := some 57) (v := ?_) rfl (by decide +kernel) (by decide +kernel) (by decide +kernel) (fun _ _ _ h => h) ?_ ?_
      case refine_2 => (intro _; unfold exec2; go_simp; try with_reducible rfl)
      try simp only [Act.put, List.setIfInBounds_toArray, List.set_cons_zero, List.set_cons_succ]
      refine wpAny_G (i := 3) (op := Op.move (Operand.tmp 7)) (t := 9) (d := some 58) (g := (2, true)) (v := ?_) rfl (by decide +kernel) (by decide +kernel) (by decide +kernel) (fun _ _ _ h => h) (by kernel_rfl) ?_ ?_
      case refine_2 => (intro _; unfold exec2; go_simp; try with_reducible rfl)
      try simp only [Act.put, List.setIfInBounds_toArray, List.set_cons_zero, List.set_cons_succ]
      refine wpAny_G (i := 4) (op := Op.move (Operand.tmp 0)) (t := 9) (d := some 59) (g := (2, true)) (v := ?_) rfl (by decide +kernel) (by decide +kernel) (by decide +kernel) (fun _ _ _ h => h) (by kernel_rfl) ?_ ?_
      case refine_2 => (intro _; unfold exec2; go_simp; try with_reducible rfl)
      try simp only [Act.put, List.setIfInBounds_toArray, List.set_cons_zero, List.set_cons_succ]
      refine wpAny_G (i := 5) (op := Op.binOp BinOp.eql 9 (Operand.tmp 58) (Operand.tmp 59) 9) (t := 4) (d := some 60) (g := (2, true)) (v := .bool false) rfl (by decide +kernel) (by decide +kernel) (by decide +kernel) (fun _ _ _ h => h) (by kernel_rfl) ?_ ?_
      · (intro _; unfold exec2; go_simp; skip)
      try simp only [Act.put, List.setIfInBounds_toArray, List.set_cons_zero, List.set_cons_succ]
      refine wpAny_T (i := 6) (op := Op.pick (Operand.tmp 57) (Operand.tmp 60) (Operand.const (Value.bool false))) (t := 4) (d := some 61) (v := ?_) rfl (by decide +kernel) (by decide +kernel) (by decide +kernel) (fun _ _ _ h => h) ?_ ?_
      case refine_2 => (intro _; unfold exec2; go_simp; try with_reducible rfl)
      try simp only [Act.put, List.setIfInBounds_toArray, List.set_cons_zero, List.set_cons_succ]
      refine wpAny_T (i := 7) (op := Op.move (Operand.tmp 61)) (t := 4) (d := some 62) (v := ?_) rfl (by decide +kernel) (by decide +kernel) (by decide +kernel) (fun _ _ _ h => h) ?_ ?_
      case refine_2 => (intro _; unfold exec2; go_simp; try with_reducible rfl)
      try simp only [Act.put, List.setIfInBounds_toArray, List.set_cons_zero, List.set_cons_succ]
      refine wpAny_S (i := 8) (op := Op.move (Operand.tmp 4)) (t := 64) (d := some 63) (b := false) (g := (7, true)) rfl (by decide +kernel) (by decide +kernel) (by decide +kernel) (fun _ _ _ h => h) (by kernel_rfl) rfl ?_
      try simp only [Act.put, List.setIfInBounds_toArray, List.set_cons_zero, List.set_cons_succ]
      refine wpAny_S (i := 9) (op := Op.call { callee := Callee.value (Operand.func 34), args := #[Operand.tmp 63], argTypes := #[64] }) (t := 4) (d := some 64) (b := false) (g := (7, true)) rfl (by decide +kernel) (by decide +kernel) (by decide +kernel) (fun _ _ _ h => h) (by kernel_rfl) rfl ?_
      try simp only [Act.put, List.setIfInBounds_toArray, List.set_cons_zero, List.set_cons_succ]
      refine wpAny_T (i := 10) (op := Op.pick (Operand.tmp 62) (Operand.tmp 64) (Operand.const (Value.bool false))) (t := 4) (d := some 65) (v := ?_) rfl (by decide +kernel) (by decide +kernel) (by decide +kernel) (fun _ _ _ h => h) ?_ ?_
      case refine_2 => (intro _; unfold exec2; go_simp; try with_reducible rfl)
      try simp only [Act.put, List.setIfInBounds_toArray, List.set_cons_zero, List.set_cons_succ]
      refine wpAny_next 0 (by decide +kernel) (op_ld (T := 50) (x := Operand.tmp 5) (t := 50) (d := some 55) rfl (.pointer (some ⟨gb, 0, none⟩)) (by kernel_rfl) (.agg #[.int .i64 n0, .int .i64 0, .int .i64 0, .int .i64 0, .int .i64 0, .bool false]) (by go_simp) ?_)
      try simp only [Act.put, List.setIfInBounds_toArray, List.set_cons_zero, List.set_cons_succ]
      refine wpAny_next 11 (by kernel_rfl) (op_st rfl (.pointer (some ⟨w.heap.size, 0, none⟩)) (.agg #[.int .i64 n0, .int .i64 0, .int .i64 0, .int .i64 0, .int .i64 0, .bool false]) (by kernel_rfl) (by kernel_rfl) (by go_simp; rfl) ?_)
      try simp only [Act.put, List.setIfInBounds_toArray, List.set_cons_zero, List.set_cons_succ]
      refine wpAny_T (i := 12) (op := Op.assign (Operand.tmp 65)) (t := 4) (d := some 3) (v := ?_) rfl (by decide +kernel) (by decide +kernel) (by decide +kernel) (fun _ _ _ h => h) ?_ ?_
      case refine_2 => (intro _; unfold exec2; go_simp; try with_reducible rfl)
      try simp only [Act.put, List.setIfInBounds_toArray, List.set_cons_zero, List.set_cons_succ]
      refine wpAny_done (by kernel_rfl) ?_ _
      go_simp
      generalize ((((((wl.setCell ⟨w.heap.size, 0, none⟩ (.int .i64 n0)).setCell ⟨w.heap.size, 1, none⟩ (.int .i64 0)).setCell ⟨w.heap.size, 2, none⟩ (.int .i64 0)).setCell ⟨w.heap.size, 3, none⟩ (.int .i64 0)).setCell ⟨w.heap.size, 4, none⟩ (.int .i64 0)).setCell ⟨w.heap.size, 5, none⟩ (.bool false)) = wf at *
      clear r0 r1 r2 r3 r4 r5 f0 f1 f2 f3 f4 f5 q0 q1 q2 q3 q4 q5
      have r0 : wf.drew.cell? ⟨w.heap.size, 0, none⟩ = some (.int .i64 n0) := BF.out.drew.cell 0
      have r1 : wf.drew.cell? ⟨w.heap.size, 1, none⟩ = some (.int .i64 0) := BF.out.drew.cell 1
      have r2 : wf.drew.cell? ⟨w.heap.size, 2, none⟩ = some (.int .i64 0) := BF.out.drew.cell 2
      have r3 : wf.drew.cell? ⟨w.heap.size, 3, none⟩ = some (.int .i64 0) := BF.out.drew.cell 3
      have r4 : wf.drew.cell? ⟨w.heap.size, 4, none⟩ = some (.int .i64 0) := BF.out.drew.cell 4
      have r5 : wf.drew.cell? ⟨w.heap.size, 5, none⟩ = some (.bool false) := BF.out.drew.cell 5
      go_wp2_with (fail)
      refine bodyPost_ret (v := .tuple #[.agg #[.int .i64 n0, .int .i64 0, .int .i64 0, .int .i64 0, .int .i64 0, .bool false], .bool false]) (by simp [results, Tryd.results20, go_sem, *]) rfl ⟨by rw [HR], YF.out.drew⟩
end Go.Proofs.YtcpadkaljnnieaaDoor
namespace Go.Proofs.YtcpadkaljnnieaaDoor
open Go.RowKit Go.ChangeShapes Go.WideShapes Go.ChangeAt Go.Deep

theorem kindT_inj {a b : Int} (ha : 1 ≤ a ∧ a ≤ 4) (hb : 1 ≤ b ∧ b ≤ 4) (h : kindT a = kindT b) : a = b := by
  have := congrArg kindN h
  rwa [kindN_kindT ha, kindN_kindT hb] at this
/-- the kind that was found among the ones below k -/
def kUp (kd : Int) (k : Nat) : Int := if kd < k then kd else 0
theorem kUp_one {kd : Int} (h : 1 ≤ kd) : kUp kd 1 = 0 := by unfold kUp; rw [if_neg (by omega)]
theorem kUp_at (k : Nat) : kUp k (k + 1) = k := by unfold kUp; rw [if_pos (by omega)]
theorem kUp_ne {kd : Int} {k : Nat} (h : ¬ (k : Int) = kd) : kUp kd (k + 1) = kUp kd k := by
  unfold kUp
  by_cases h1 : kd < k
  · rw [if_pos h1, if_pos (by omega)]
  · rw [if_neg h1, if_neg (by omega)]
theorem kUp_five {kd : Int} (h : kd ≤ 4) : kUp kd 5 = kd := by unfold kUp; rw [if_pos (by omega)]
/-- an entry's step is put in -/
def opW (W : World) (g : Nat) (a1 a2 a3 a4 a5 : Value) : World := (((((W.setCell ⟨g, 1, none⟩ a1).setCell ⟨g, 2, none⟩ a2).setCell ⟨g, 3, none⟩ a3).setCell ⟨g, 4, none⟩ a4).setCell ⟨g, 5, none⟩ a5)
theorem op_put {W : World} {g : Nat} {t : TypeId} {o0 o1 o2 o3 o4 o5 : Value} (h : Blk W g t #[o0, o1, o2, o3, o4, o5]) (a1 a2 a3 a4 a5 : Value) : Blk (opW W g a1 a2 a3 a4 a5) g t #[o0, a1, a2, a3, a4, a5] :=
  ((((h.set 1 a1).set 2 a2).set 3 a3).set 4 a4).set 5 a5
theorem op_far {W : World} {g g' : Nat} {t : TypeId} {cs : Array Value} (h : Blk W g' t cs) (hne : g' ≠ g) (a1 a2 a3 a4 a5 : Value) : Blk (opW W g a1 a2 a3 a4 a5) g' t cs :=
  ((((h.far (p := ⟨g, 1, none⟩) hne a1).far (p := ⟨g, 2, none⟩) hne a2).far (p := ⟨g, 3, none⟩) hne a3).far (p := ⟨g, 4, none⟩) hne a4).far (p := ⟨g, 5, none⟩) hne a5
theorem Ext.op {w W : World} {g : Nat} {a1 a2 a3 a4 a5 : Value} (h : Ext w W) (hg : w.heap.size ≤ g) : Ext w (opW W g a1 a2 a3 a4 a5) :=
  ((((h.setNew (p := ⟨g, 1, none⟩) hg a1).setNew (p := ⟨g, 2, none⟩) hg a2).setNew (p := ⟨g, 3, none⟩) hg a3).setNew (p := ⟨g, 4, none⟩) hg a4).setNew (p := ⟨g, 5, none⟩) hg a5
set_option maxRecDepth 100000 in
set_option maxHeartbeats 8000000 in
theorem entry6_true (s a0 a2 a3 a4 : Txt) (kd : Int) (hk1 : 1 ≤ kd) (hk4 : kd ≤ 4) (hs : splitC 32 s = [a0, kindT kd, a2, a3, a4, [121, 101, 115]]) (hl : s.length ≤ 1000) (hp : ∀ x ∈ [a0, kindT kd, a2, a3, a4, [121, 101, 115]], Plain x ∧ x.length ≤ 1000) (w : World) (hT : Ten w) :
    Calls Tryd.prog 20 #[.string ⟨s.toArray⟩] w (EntryPost s w) := by
  have SP := fun (W : World) => split1_any s 32 W (by omega)
  rw [hs] at SP
  have NU0 := Lib.hid (fun (W : World) => number_t a0 W (hp a0 (by simp)).1 (by have := (hp a0 (by simp)).2; omega))
  have NU2 := Lib.hid (fun (W : World) => number_t a2 W (hp a2 (by simp)).1 (by have := (hp a2 (by simp)).2; omega))
  have NU3 := Lib.hid (fun (W : World) => number_t a3 W (hp a3 (by simp)).1 (by have := (hp a3 (by simp)).2; omega))
  have NU4 := Lib.hid (fun (W : World) => number_t a4 W (hp a4 (by simp)).1 (by have := (hp a4 (by simp)).2; omega))
  have KD := Lib.hid (fun (W : World) (k : Int) => kindt_any k W)
  have SX := Lib.hid (fun (W : World) (A : Option Addr) (c : Nat) (h : RdV W 9 A (txV [a0, kindT kd, a2, a3, a4, [121, 101, 115]])) => short_any A c [a0, kindT kd, a2, a3, a4, [121, 101, 115]] W h (by simp [maxLen]) (fun x hx => ⟨(hp x hx).1, by have := (hp x hx).2; omega⟩))
  have hE : entryE [a0, kindT kd, a2, a3, a4, [121, 101, 115]] = ⟨numT a0, kd, numT a2, numT a3, numT a4, true⟩ := by
    unfold entryE
    rw [if_pos (by simp)]
    simp only [List.getD_cons_zero, List.getD_cons_succ, kindN_kindT ⟨hk1, hk4⟩]
    simp
  have hI : (Ent.mk (numT a0) kd (numT a2) (numT a3) (numT a4) true).In := ⟨numT_i64 a0, ⟨by show _ ≤ kd; omega, by show kd ≤ _; omega⟩, numT_i64 a2, numT_i64 a3, numT_i64 a4⟩
  have LX := Lib.hid (fun (W : World) (x : Ext w W) => line_any ⟨numT a0, kd, numT a2, numT a3, numT a4, true⟩ W hI (hT.ext x))
  unfold EntryPost
  have hR : entryT s = (⟨numT a0, kd, numT a2, numT a3, numT a4, true⟩, (Ent.mk (numT a0) kd (numT a2) (numT a3) (numT a4) true).line.2 && decide ((Ent.mk (numT a0) kd (numT a2) (numT a3) (numT a4) true).line.1 = s) && shortT [a0, kindT kd, a2, a3, a4, [121, 101, 115]]) := by
    unfold entryT
    simp only [hs, hE]
  rw [hR]
  clear hR hE hI hT hp hs
  generalize (Ent.mk (numT a0) kd (numT a2) (numT a3) (numT a4) true).line = lr at *
  obtain ⟨t, ok⟩ := lr
  simp only at LX ⊢
  obtain ⟨st, hst⟩ : ∃ st, Hid (shortT [a0, kindT kd, a2, a3, a4, [121, 101, 115]] = st) := ⟨_, rfl⟩
  rw [hst.out] at SX ⊢
  obtain ⟨res, hres⟩ : ∃ res, Hid ((ok && decide (t = s) && st) = res) := ⟨_, rfl⟩
  rw [hres.out]
  have RES1 : Hid (ok = false → res = false) := Lib.hid (by rintro rfl; have := hres.out; simpa using this.symm)
  have RES2 : Hid (t ≠ s → res = false) := Lib.hid (by intro h; have := hres.out; simpa [h] using this.symm)
  have RES3 : Hid (ok = true → t = s → res = st) := Lib.hid (by rintro rfl rfl; have := hres.out; simpa using this.symm)
  clear hres hst
  generalize numT a0 = n0 at *
  generalize numT a2 = n2 at *
  generalize numT a3 = n3 at *
  generalize numT a4 = n4 at *
  simp only [txV, txS, List.map_cons, List.map_nil, List.length_cons, List.length_nil, Nat.zero_add, Nat.reduceAdd] at SP
  unfold txS at LX KD
  unfold entC at LX ⊢
  simp only at LX ⊢
  replace SP := Lib.hid SP
  go_enter Tryd.func20, Tryd.ntmps20
  go_wp2_with (fail)
  refine (SP.out _).mono ?_
  rintro e w1 ⟨rfl, rfl⟩
  have BR1 : Hid (Blk ((w.alloc (.cells #[.int .i64 0, .int .i64 0, .int .i64 0, .int .i64 0, .int .i64 0, .bool false] 50)).alloc (.cells #[.string ⟨a0.toArray⟩, .string ⟨(kindT kd).toArray⟩, .string ⟨a2.toArray⟩, .string ⟨a3.toArray⟩, .string ⟨a4.toArray⟩, .string ⟨#[121, 101, 115]⟩] 9)) w.heap.size 50 #[.int .i64 0, .int .i64 0, .int .i64 0, .int .i64 0, .int .i64 0, .bool false]) := .alloc (.new rfl) _
  have BW1 : Hid (Blk ((w.alloc (.cells #[.int .i64 0, .int .i64 0, .int .i64 0, .int .i64 0, .int .i64 0, .bool false] 50)).alloc (.cells #[.string ⟨a0.toArray⟩, .string ⟨(kindT kd).toArray⟩, .string ⟨a2.toArray⟩, .string ⟨a3.toArray⟩, .string ⟨a4.toArray⟩, .string ⟨#[121, 101, 115]⟩] 9)) (w.heap.size + 1) 9 #[.string ⟨a0.toArray⟩, .string ⟨(kindT kd).toArray⟩, .string ⟨a2.toArray⟩, .string ⟨a3.toArray⟩, .string ⟨a4.toArray⟩, .string ⟨#[121, 101, 115]⟩]) := .new (by simp)
  have XW1 : Hid (Ext w ((w.alloc (.cells #[.int .i64 0, .int .i64 0, .int .i64 0, .int .i64 0, .int .i64 0, .bool false] 50)).alloc (.cells #[.string ⟨a0.toArray⟩, .string ⟨(kindT kd).toArray⟩, .string ⟨a2.toArray⟩, .string ⟨a3.toArray⟩, .string ⟨a4.toArray⟩, .string ⟨#[121, 101, 115]⟩] 9))) := by (repeat (first | assumption | exact Ext.rf _ | apply Ext.drew | apply Ext.drewN | apply Ext.alloc))
  go_upto_region 3 with (go_at_call 33; refine (NU0.out _).mono ?_; rintro e w2 ⟨rfl, x2⟩)
  have BE0 : Hid (Blk (w2.alloc (.cells #[.int .i64 n0, .int .i64 0, .int .i64 0, .int .i64 0, .int .i64 0, .bool false] 50)) w2.heap.size 50 #[.int .i64 n0, .int .i64 0, .int .i64 0, .int .i64 0, .int .i64 0, .bool false]) := .new rfl
  have BR0 := Lib.hid ((BR1.out.ext x2).alloc (.cells #[.int .i64 n0, .int .i64 0, .int .i64 0, .int .i64 0, .int .i64 0, .bool false] 50))
  have BW0 := Lib.hid ((BW1.out.ext x2).alloc (.cells #[.int .i64 n0, .int .i64 0, .int .i64 0, .int .i64 0, .int .i64 0, .bool false] 50))
  have YR0 := Lib.hid ((XW1.out.tr x2).alloc (.cells #[.int .i64 n0, .int .i64 0, .int .i64 0, .int .i64 0, .int .i64 0, .bool false] 50))
  have zb : w.heap.size < w2.heap.size := (BR1.out.ext x2).lt
  have zb1 : w.heap.size + 1 < w2.heap.size := (BW1.out.ext x2).lt
  clear BR1 BW1 XW1 x2
  obtain ⟨gb, hgb⟩ : ∃ gb, gb = w2.heap.size := ⟨_, rfl⟩
  rw [← hgb] at zb zb1 BE0 ⊢
  clear hgb
  go_upto_region 4 with (fail)
  generalize (w2.alloc (.cells #[.int .i64 n0, .int .i64 0, .int .i64 0, .int .i64 0, .int .i64 0, .bool false] 50)) = wa at *
  have zW := BW0.out.lt
  have c2 : wa.cell? ⟨w.heap.size + 1, 2, none⟩ = some (.string ⟨a2.toArray⟩) := BW0.out.cell 2
  have c3 : wa.cell? ⟨w.heap.size + 1, 3, none⟩ = some (.string ⟨a3.toArray⟩) := BW0.out.cell 3
  have c4 : wa.cell? ⟨w.heap.size + 1, 4, none⟩ = some (.string ⟨a4.toArray⟩) := BW0.out.cell 4
  have c5 : wa.cell? ⟨w.heap.size + 1, 5, none⟩ = some (.string ⟨#[121, 101, 115]⟩) := BW0.out.cell 5
  go_region_held3 (fun W' => W'.cell? ⟨w.heap.size + 1, 2, none⟩ = some (.string ⟨a2.toArray⟩) ∧ W'.cell? ⟨w.heap.size + 1, 3, none⟩ = some (.string ⟨a3.toArray⟩) ∧ W'.cell? ⟨w.heap.size + 1, 4, none⟩ = some (.string ⟨a4.toArray⟩) ∧ W'.cell? ⟨w.heap.size + 1, 5, none⟩ = some (.string ⟨#[121, 101, 115]⟩)) (first | go_keep | (focus (go_simp; done)))
    (first
    | (go_at_call_of 33 (Value.string ⟨a2.toArray⟩); refine (NU2.out _).mono ?_; rintro e w3 ⟨rfl, x3⟩; have y3 := Ext.tr (a := wa) (by (repeat (first | assumption | exact Ext.rf _ | apply Ext.drew | apply Ext.drewN | apply Ext.alloc))) x3; have s1 := keepEL y3 zW c2; have s2 := keepEL y3 zW c3; have s3 := keepEL y3 zW c4; have s4 := keepEL y3 zW c5)
    | (go_at_call_of 33 (Value.string ⟨a3.toArray⟩); refine (NU3.out _).mono ?_; rintro e w4 ⟨rfl, x4⟩; have y4 := Ext.tr (a := wa) (by (repeat (first | assumption | exact Ext.rf _ | apply Ext.drew | apply Ext.drewN | apply Ext.alloc))) x4; have s1 := keepEL y4 zW c2; have s2 := keepEL y4 zW c3; have s3 := keepEL y4 zW c4; have s4 := keepEL y4 zW c5)
    | (go_at_call_of 33 (Value.string ⟨a4.toArray⟩); refine (NU4.out _).mono ?_; rintro e w5 ⟨rfl, x5⟩; have y5 := Ext.tr (a := wa) (by (repeat (first | assumption | exact Ext.rf _ | apply Ext.drew | apply Ext.drewN | apply Ext.alloc))) x5; have s1 := keepEL y5 zW c2; have s2 := keepEL y5 zW c3; have s3 := keepEL y5 zW c4; have s4 := keepEL y5 zW c5; have Zm := Lib.hid (BE0.out.ext y5); have t1 := Zm.out.cell 1; have t2 := Zm.out.cell 2; have t3 := Zm.out.cell 3; have t4 := Zm.out.cell 4; have t5 := Zm.out.cell 5; have f1 := Zm.out.free 1; have f2 := Zm.out.free 2; have f3 := Zm.out.free 3; have f4 := Zm.out.free 4; have f5 := Zm.out.free 5; simp only [List.getElem?_toArray, List.getElem?_cons_zero, List.getElem?_cons_succ] at t1 t2 t3 t4 t5;
       have BE5 := Lib.hid (op_put Zm.out (.int .i64 0) (.int .i64 n2) (.int .i64 n3) (.int .i64 n4) (.bool true)); have BR5 := Lib.hid (op_far (BR0.out.ext y5) (show w.heap.size ≠ gb by omega) (.int .i64 0) (.int .i64 n2) (.int .i64 n3) (.int .i64 n4) (.bool true)); have BW5 := Lib.hid (op_far (BW0.out.ext y5) (show w.heap.size + 1 ≠ gb by omega) (.int .i64 0) (.int .i64 n2) (.int .i64 n3) (.int .i64 n4) (.bool true)); have YR5 : Hid (Ext w (opW w5 gb (.int .i64 0) (.int .i64 n2) (.int .i64 n3) (.int .i64 n4) (.bool true))) := Lib.hid ((YR0.out.tr y5).op (Nat.le_of_lt zb)); unfold opW at BE5 BR5 BW5 YR5))
  generalize (((((w5.setCell ⟨gb, 1, none⟩ (.int .i64 0)).setCell ⟨gb, 2, none⟩ (.int .i64 n2)).setCell ⟨gb, 3, none⟩ (.int .i64 n3)).setCell ⟨gb, 4, none⟩ (.int .i64 n4)).setCell ⟨gb, 5, none⟩ (.bool true)) = wb at *
  clear s1 s2 s3 s4 t1 t2 t3 t4 t5 f1 f2 f3 f4 f5 Zm x3 x4 x5 y3 y4 y5 c2 c3 c4 c5 zW NU0 NU2 NU3 NU4 SP BE0 BR0 BW0 YR0
  go_wp2_with (fail)
  go_loopw [6] (fun kv wr => ∃ k : Nat, kv = .int .i64 k ∧ 1 ≤ k ∧ k ≤ 5 ∧ Hid (Blk wr gb 50 #[.int .i64 n0, .int .i64 (kUp kd k), .int .i64 n2, .int .i64 n3, .int .i64 n4, .bool true]) ∧ Hid (Blk wr w.heap.size 50 #[.int .i64 0, .int .i64 0, .int .i64 0, .int .i64 0, .int .i64 0, .bool false]) ∧ Hid (Blk wr (w.heap.size + 1) 9 #[.string ⟨a0.toArray⟩, .string ⟨(kindT kd).toArray⟩, .string ⟨a2.toArray⟩, .string ⟨a3.toArray⟩, .string ⟨a4.toArray⟩, .string ⟨#[121, 101, 115]⟩]) ∧ Hid (Ext w wr)) (fun kv _ => 5 - (intOf kv).toNat)
  case atStart => exact ⟨1, rfl, by omega, by omega, by rw [kUp_one hk1]; exact BE5, BR5, BW5, YR5⟩
  case round =>
    clear BE5 BR5 BW5 YR5
    obtain ⟨k, rfl, k1, k5, BE, BR, BW, YR⟩ := hrel
    by_cases k4 : k ≤ 4
    · have zW := BW.out.lt
      have c1 : wr.cell? ⟨w.heap.size + 1, 1, none⟩ = some (.string ⟨(kindT kd).toArray⟩) := BW.out.cell 1
      have q1 : (k : Int) ≤ 4 := by omega
      by_cases hkd : (k : Int) = kd
      · have e0 : Hid (kindT (k : Int) = kindT kd) := Lib.hid (by rw [hkd])
        have KU : Hid (kUp kd (k + 1) = (k : Int)) := Lib.hid (by rw [← hkd]; exact kUp_at k)
        replace KD := Lib.hid (KD.out · (k : Int))
        rw [e0.out] at KD
        have hkdH := Lib.hid hkd
        clear hkd e0
        obtain ⟨kt, hkt⟩ : ∃ kt, kindT kd = kt := ⟨_, rfl⟩
        rw [hkt] at KD c1
        clear hkt
        go_wp2_with (fail)
        go_region_held3 (fun W' => W'.cell? ⟨w.heap.size + 1, 1, none⟩ = some (.string ⟨kt.toArray⟩)) (first | go_keep | (focus (go_simp; done)))
          (first
          | (go_at_call 27; refine (KD.out _).mono ?_; rintro e w6 ⟨rfl, x6⟩; have y6 := Ext.tr (a := wr) (by (repeat (first | assumption | exact Ext.rf _ | apply Ext.drew | apply Ext.drewN | apply Ext.alloc))) x6; have s1 := keepEL y6 zW c1; have Zm := Lib.hid (BE.out.ext y6); have t1 := Zm.out.cell 1; have f1 := Zm.out.free 1; simp only [List.getElem?_toArray, List.getElem?_cons_zero, List.getElem?_cons_succ] at t1))
        have BE6 : Hid (Blk (w6.setCell ⟨gb, 1, none⟩ (.int .i64 k)) gb 50 #[.int .i64 n0, .int .i64 (kUp kd (k + 1)), .int .i64 n2, .int .i64 n3, .int .i64 n4, .bool true]) := by rw [KU.out]; exact Lib.hid (Zm.out.set 1 (.int .i64 k))
        have BR6 := Lib.hid ((BR.out.ext y6).far (p := ⟨gb, 1, none⟩) (show w.heap.size ≠ gb by omega) (.int .i64 k))
        have BW6 := Lib.hid ((BW.out.ext y6).far (p := ⟨gb, 1, none⟩) (show w.heap.size + 1 ≠ gb by omega) (.int .i64 k))
        have YR6 : Hid (Ext w (w6.setCell ⟨gb, 1, none⟩ (.int .i64 k))) := Lib.hid ((YR.out.tr y6).setNew (p := ⟨gb, 1, none⟩) (Nat.le_of_lt zb) _)
        clear s1 Zm y6 x6 BE BR BW YR c1 KU
        go_wp2_with (fail)
        go_roundw
        case rel => exact ⟨k + 1, by go_num, by omega, by omega, BE6, BR6, BW6, YR6⟩
        case measure => simp [intOf]; omega
      · have e0 : kindT (k : Int) ≠ kindT kd := fun h => hkd (kindT_inj ⟨by omega, by omega⟩ ⟨hk1, hk4⟩ h)
        have KU : Hid (kUp kd (k + 1) = kUp kd k) := Lib.hid (kUp_ne hkd)
        replace KD := Lib.hid (KD.out · (k : Int))
        obtain ⟨kt, hkt⟩ : ∃ kt, kindT kd = kt := ⟨_, rfl⟩
        obtain ⟨kx, hkx⟩ : ∃ kx, kindT (k : Int) = kx := ⟨_, rfl⟩
        rw [hkt] at c1 e0
        rw [hkx] at KD e0
        have e1 : @BEq.beq (List UInt8) _ kx kt = false := beq_eq_false_iff_ne.2 e0
        clear hkt hkx hkd e0
        go_wp2_with (fail)
        go_region_held3 (fun W' => W'.cell? ⟨w.heap.size + 1, 1, none⟩ = some (.string ⟨kt.toArray⟩)) (first | go_keep | (focus (go_simp; done)))
          (first
          | (go_at_call 27; refine (KD.out _).mono ?_; rintro e w6 ⟨rfl, x6⟩; have y6 := Ext.tr (a := wr) (by (repeat (first | assumption | exact Ext.rf _ | apply Ext.drew | apply Ext.drewN | apply Ext.alloc))) x6; have s1 := keepEL y6 zW c1))
        have BE6 : Hid (Blk w6 gb 50 #[.int .i64 n0, .int .i64 (kUp kd (k + 1)), .int .i64 n2, .int .i64 n3, .int .i64 n4, .bool true]) := by rw [KU.out]; exact Lib.hid (BE.out.ext y6)
        have BR6 := Lib.hid (BR.out.ext y6)
        have BW6 := Lib.hid (BW.out.ext y6)
        have YR6 := Lib.hid (YR.out.tr y6)
        clear s1 y6 x6 BE BR BW YR c1 KU
        go_wp2_with (fail)
        go_roundw
        case rel => exact ⟨k + 1, by go_num, by omega, by omega, BE6, BR6, BW6, YR6⟩
        case measure => simp [intOf]; omega
    · obtain rfl : k = 5 := by omega
      rw [kUp_five hk4] at BE
      have RW := Lib.hid (RdV.blk BW.out)
      clear k4 k5 k1 BW KD
      have q0 : wr.cell? ⟨gb, 0, none⟩ = some (.int .i64 n0) := BE.out.cell 0
      have q1 : wr.cell? ⟨gb, 1, none⟩ = some (.int .i64 kd) := BE.out.cell 1
      have q2 : wr.cell? ⟨gb, 2, none⟩ = some (.int .i64 n2) := BE.out.cell 2
      have q3 : wr.cell? ⟨gb, 3, none⟩ = some (.int .i64 n3) := BE.out.cell 3
      have q4 : wr.cell? ⟨gb, 4, none⟩ = some (.int .i64 n4) := BE.out.cell 4
      have q5 : wr.cell? ⟨gb, 5, none⟩ = some (.bool true) := BE.out.cell 5
      go_wp2_with (fail)
      refine (LX.out _ (YR.out.tr (by (repeat (first | assumption | exact Ext.rf _ | apply Ext.drew | apply Ext.drewN | apply Ext.alloc))))).mono ?_
      rintro e wl ⟨rfl, xl⟩
      have YL := Lib.hid (YR.out.tr (Ext.tr (by (repeat (first | assumption | exact Ext.rf _ | apply Ext.drew | apply Ext.drewN | apply Ext.alloc))) xl))
      have BL := Lib.hid (Blk.ext (Blk.ext (w' := _) BE.out (by (repeat (first | assumption | exact Ext.rf _ | apply Ext.drew | apply Ext.drewN | apply Ext.alloc)))) xl)
      have BZ := Lib.hid (Blk.ext (Blk.ext (w' := _) BR.out (by (repeat (first | assumption | exact Ext.rf _ | apply Ext.drew | apply Ext.drewN | apply Ext.alloc)))) xl)
      have RL := Lib.hid (RdV.ext (RdV.ext (w' := _) RW.out (by (repeat (first | assumption | exact Ext.rf _ | apply Ext.drew | apply Ext.drewN | apply Ext.alloc)))) xl)
      have zl := Ext.tr (a := wr) (by (repeat (first | assumption | exact Ext.rf _ | apply Ext.drew | apply Ext.drewN | apply Ext.alloc))) xl |>.size
      have zb2 := BE.out.lt
      have zr2 := BR.out.lt
      clear q0 q1 q2 q3 q4 q5 xl BE BR RW YR LX
      have q0 : wl.cell? ⟨gb, 0, none⟩ = some (.int .i64 n0) := BL.out.cell 0
      have q1 : wl.cell? ⟨gb, 1, none⟩ = some (.int .i64 kd) := BL.out.cell 1
      have q2 : wl.cell? ⟨gb, 2, none⟩ = some (.int .i64 n2) := BL.out.cell 2
      have q3 : wl.cell? ⟨gb, 3, none⟩ = some (.int .i64 n3) := BL.out.cell 3
      have q4 : wl.cell? ⟨gb, 4, none⟩ = some (.int .i64 n4) := BL.out.cell 4
      have q5 : wl.cell? ⟨gb, 5, none⟩ = some (.bool true) := BL.out.cell 5
      cases ok with
      | false =>
        have HR := RES1.out rfl
        have r0 : wl.cell? ⟨w.heap.size, 0, none⟩ = some (.int .i64 0) := BZ.out.cell 0
        have r1 : wl.cell? ⟨w.heap.size, 1, none⟩ = some (.int .i64 0) := BZ.out.cell 1
        have r2 : wl.cell? ⟨w.heap.size, 2, none⟩ = some (.int .i64 0) := BZ.out.cell 2
        have r3 : wl.cell? ⟨w.heap.size, 3, none⟩ = some (.int .i64 0) := BZ.out.cell 3
        have r4 : wl.cell? ⟨w.heap.size, 4, none⟩ = some (.int .i64 0) := BZ.out.cell 4
        have r5 : wl.cell? ⟨w.heap.size, 5, none⟩ = some (.bool false) := BZ.out.cell 5
        have f0 := BZ.out.free 0
        have f1 := BZ.out.free 1
        have f2 := BZ.out.free 2
        have f3 := BZ.out.free 3
        have f4 := BZ.out.free 4
        have f5 := BZ.out.free 5
        have BF := Lib.hid (ent_put BZ.out (.int .i64 n0) (.int .i64 kd) (.int .i64 n2) (.int .i64 n3) (.int .i64 n4) (.bool true))
        have YF : Hid (Ext w (ent6W wl w.heap.size (.int .i64 n0) (.int .i64 kd) (.int .i64 n2) (.int .i64 n3) (.int .i64 n4) (.bool true))) := Lib.hid (YL.out.ent6 (Nat.le_refl _))
        unfold ent6W at BF YF
        go_wp2_with (fail)
        refine wp_region_any (by kernel_rfl) ?_
        change wpAny _ _ _ _ _ _ _ (World.drew _)
        refine wpAny_T (i := 1) (op := Op.move (Operand.tmp 8)) (t := 4) (d := some 56) (v := ?_) rfl (by decide +kernel) (by decide +kernel) (by decide +kernel) (fun _ _ _ h => h) ?_ ?_
        case refine_2 => (intro _; unfold exec2; go_simp; try with_reducible rfl)
        try simp only [Act.put, List.setIfInBounds_toArray, List.set_cons_zero, List.set_cons_succ]
        refine wpAny_T (i := 2) (op := Op.move (Operand.tmp 56)) (t := 4) (d := some 57) (v := ?_) rfl (by decide +kernel) (by decide +kernel) (by decide +kernel) (fun _ _ _ h => h) ?_ ?_
        case refine_2 => (intro _; unfold exec2; go_simp; try with_reducible rfl)
        try simp only [Act.put, List.setIfInBounds_toArray, List.set_cons_zero, List.set_cons_succ]
        refine wpAny_S (i := 3) (op := Op.move (Operand.tmp 7)) (t := 9) (d := some 58) (b := false) (g := (2, true)) rfl (by decide +kernel) (by decide +kernel) (by decide +kernel) (fun _ _ _ h => h) (by kernel_rfl) rfl ?_
        try simp only [Act.put, List.setIfInBounds_toArray, List.set_cons_zero, List.set_cons_succ]
        refine wpAny_S (i := 4) (op := Op.move (Operand.tmp 0)) (t := 9) (d := some 59) (b := false) (g := (2, true)) rfl (by decide +kernel) (by decide +kernel) (by decide +kernel) (fun _ _ _ h => h) (by kernel_rfl) rfl ?_
        try simp only [Act.put, List.setIfInBounds_toArray, List.set_cons_zero, List.set_cons_succ]
        refine wpAny_S (i := 5) (op := Op.binOp BinOp.eql 9 (Operand.tmp 58) (Operand.tmp 59) 9) (t := 4) (d := some 60) (b := false) (g := (2, true)) rfl (by decide +kernel) (by decide +kernel) (by decide +kernel) (fun _ _ _ h => h) (by kernel_rfl) rfl ?_
        try simp only [Act.put, List.setIfInBounds_toArray, List.set_cons_zero, List.set_cons_succ]
        refine wpAny_T (i := 6) (op := Op.pick (Operand.tmp 57) (Operand.tmp 60) (Operand.const (Value.bool false))) (t := 4) (d := some 61) (v := ?_) rfl (by decide +kernel) (by decide +kernel) (by decide +kernel) (fun _ _ _ h => h) ?_ ?_
        case refine_2 => (intro _; unfold exec2; go_simp; try with_reducible rfl)
        try simp only [Act.put, List.setIfInBounds_toArray, List.set_cons_zero, List.set_cons_succ]
        refine wpAny_T (i := 7) (op := Op.move (Operand.tmp 61)) (t := 4) (d := some 62) (v := ?_) rfl (by decide +kernel) (by decide +kernel) (by decide +kernel) (fun _ _ _ h => h) ?_ ?_
        case refine_2 => (intro _; unfold exec2; go_simp; try with_reducible rfl)
        try simp only [Act.put, List.setIfInBounds_toArray, List.set_cons_zero, List.set_cons_succ]
        refine wpAny_S (i := 8) (op := Op.move (Operand.tmp 4)) (t := 64) (d := some 63) (b := false) (g := (7, true)) rfl (by decide +kernel) (by decide +kernel) (by decide +kernel) (fun _ _ _ h => h) (by kernel_rfl) rfl ?_
        try simp only [Act.put, List.setIfInBounds_toArray, List.set_cons_zero, List.set_cons_succ]
        refine wpAny_S (i := 9) (op := Op.call { callee := Callee.value (Operand.func 34), args := #[Operand.tmp 63], argTypes := #[64] }) (t := 4) (d := some 64) (b := false) (g := (7, true)) rfl (by decide +kernel) (by decide +kernel) (by decide +kernel) (fun _ _ _ h => h) (by kernel_rfl) rfl ?_
        try simp only [Act.put, List.setIfInBounds_toArray, List.set_cons_zero, List.set_cons_succ]
        refine wpAny_T (i := 10) (op := Op.pick (Operand.tmp 62) (Operand.tmp 64) (Operand.const (Value.bool false))) (t := 4) (d := some 65) (v := ?_) rfl (by decide +kernel) (by decide +kernel) (by decide +kernel) (fun _ _ _ h => h) ?_ ?_
        case refine_2 => (intro _; unfold exec2; go_simp; try with_reducible rfl)
        try simp only [Act.put, List.setIfInBounds_toArray, List.set_cons_zero, List.set_cons_succ]
        refine wpAny_next 0 (by decide +kernel) (op_ld (T := 50) (x := Operand.tmp 5) (t := 50) (d := some 55) rfl (.pointer (some ⟨gb, 0, none⟩)) (by kernel_rfl) (.agg #[.int .i64 n0, .int .i64 kd, .int .i64 n2, .int .i64 n3, .int .i64 n4, .bool true]) (by go_simp) ?_)
        try simp only [Act.put, List.setIfInBounds_toArray, List.set_cons_zero, List.set_cons_succ]
        refine wpAny_next 11 (by kernel_rfl) (op_st rfl (.pointer (some ⟨w.heap.size, 0, none⟩)) (.agg #[.int .i64 n0, .int .i64 kd, .int .i64 n2, .int .i64 n3, .int .i64 n4, .bool true]) (by kernel_rfl) (by kernel_rfl) (by go_simp; rfl) ?_)
        try simp only [Act.put, List.setIfInBounds_toArray, List.set_cons_zero, List.set_cons_succ]
        refine wpAny_T (i := 12) (op := Op.assign (Operand.tmp 65)) (t := 4) (d := some 3) (v := ?_) rfl (by decide +kernel) (by decide +kernel) (by decide +kernel) (fun _ _ _ h => h) ?_ ?_
        case refine_2 => (intro _; unfold exec2; go_simp; try with_reducible rfl)
        try simp only [Act.put, List.setIfInBounds_toArray, List.set_cons_zero, List.set_cons_succ]
        refine wpAny_done (by kernel_rfl) ?_ _
        go_simp
        generalize ((((((wl.setCell ⟨w.heap.size, 0, none⟩ (.int .i64 n0)).setCell ⟨w.heap.size, 1, none⟩ (.int .i64 kd)).setCell ⟨w.heap.size, 2, none⟩ (.int .i64 n2)).setCell ⟨w.heap.size, 3, none⟩ (.int .i64 n3)).setCell ⟨w.heap.size, 4, none⟩ (.int .i64 n4)).setCell ⟨w.heap.size, 5, none⟩ (.bool true)) = wf at *
        clear r0 r1 r2 r3 r4 r5 f0 f1 f2 f3 f4 f5 q0 q1 q2 q3 q4 q5
        have r0 : wf.drew.cell? ⟨w.heap.size, 0, none⟩ = some (.int .i64 n0) := BF.out.drew.cell 0
        have r1 : wf.drew.cell? ⟨w.heap.size, 1, none⟩ = some (.int .i64 kd) := BF.out.drew.cell 1
        have r2 : wf.drew.cell? ⟨w.heap.size, 2, none⟩ = some (.int .i64 n2) := BF.out.drew.cell 2
        have r3 : wf.drew.cell? ⟨w.heap.size, 3, none⟩ = some (.int .i64 n3) := BF.out.drew.cell 3
        have r4 : wf.drew.cell? ⟨w.heap.size, 4, none⟩ = some (.int .i64 n4) := BF.out.drew.cell 4
        have r5 : wf.drew.cell? ⟨w.heap.size, 5, none⟩ = some (.bool true) := BF.out.drew.cell 5
        go_wp2_with (fail)
        refine bodyPost_ret (v := .tuple #[.agg #[.int .i64 n0, .int .i64 kd, .int .i64 n2, .int .i64 n3, .int .i64 n4, .bool true], .bool false]) (by simp [results, Tryd.results20, go_sem, *]) rfl ⟨by rw [HR], YF.out.drew⟩
      | true =>
        by_cases ht : t = s
        · skip
          subst ht
          have HR2 := Lib.hid (RES3.out rfl rfl)
          have h0 := BL.out.lt
          go_wp2_with (fail)
          go_region_held3 (fun W' => W'.cell? ⟨gb, 0, none⟩ = some (.int .i64 n0) ∧ W'.cell? ⟨gb, 1, none⟩ = some (.int .i64 kd) ∧ W'.cell? ⟨gb, 2, none⟩ = some (.int .i64 n2) ∧ W'.cell? ⟨gb, 3, none⟩ = some (.int .i64 n3) ∧ W'.cell? ⟨gb, 4, none⟩ = some (.int .i64 n4) ∧ W'.cell? ⟨gb, 5, none⟩ = some (.bool true)) (first | go_keep | (focus (go_simp; done)))
            (first
            | (go_at_call 34; refine (SX.out _ _ _ (RL.out.ext (by (repeat (first | assumption | exact Ext.rf _ | apply Ext.drew | apply Ext.drewN | apply Ext.alloc))))).mono ?_; rintro e wm ⟨rfl, xm⟩; have ym := Ext.tr (a := wl) (by (repeat (first | assumption | exact Ext.rf _ | apply Ext.drew | apply Ext.drewN | apply Ext.alloc))) xm; have s1 := keepEL ym h0 q0; have s2 := keepEL ym h0 q1; have s3 := keepEL ym h0 q2; have s4 := keepEL ym h0 q3; have s5 := keepEL ym h0 q4; have s6 := keepEL ym h0 q5; have Zm := Lib.hid (BZ.out.ext ym); have t0 := Zm.out.cell 0; have t1 := Zm.out.cell 1; have t2 := Zm.out.cell 2; have t3 := Zm.out.cell 3; have t4 := Zm.out.cell 4; have t5 := Zm.out.cell 5; have f0 := Zm.out.free 0; have f1 := Zm.out.free 1; have f2 := Zm.out.free 2; have f3 := Zm.out.free 3; have f4 := Zm.out.free 4; have f5 := Zm.out.free 5; simp only [List.getElem?_toArray, List.getElem?_cons_zero, List.getElem?_cons_succ] at t0 t1 t2 t3 t4 t5; have BF := Lib.hid (ent_put Zm.out (.int .i64 n0) (.int .i64 kd) (.int .i64 n2) (.int .i64 n3) (.int .i64 n4) (.bool true)); have YF : Hid (Ext w (ent6W wm w.heap.size (.int .i64 n0) (.int .i64 kd) (.int .i64 n2) (.int .i64 n3) (.int .i64 n4) (.bool true))) := Lib.hid ((YL.out.tr ym).ent6 (Nat.le_refl _)); unfold ent6W at BF YF))
          generalize ((((((wm.setCell ⟨w.heap.size, 0, none⟩ (.int .i64 n0)).setCell ⟨w.heap.size, 1, none⟩ (.int .i64 kd)).setCell ⟨w.heap.size, 2, none⟩ (.int .i64 n2)).setCell ⟨w.heap.size, 3, none⟩ (.int .i64 n3)).setCell ⟨w.heap.size, 4, none⟩ (.int .i64 n4)).setCell ⟨w.heap.size, 5, none⟩ (.bool true)) = wf at *
          clear t0 t1 t2 t3 t4 t5 f0 f1 f2 f3 f4 f5 q0 q1 q2 q3 q4 q5 s1 s2 s3 s4 s5 s6
          have r0 : wf.cell? ⟨w.heap.size, 0, none⟩ = some (.int .i64 n0) := BF.out.cell 0
          have r1 : wf.cell? ⟨w.heap.size, 1, none⟩ = some (.int .i64 kd) := BF.out.cell 1
          have r2 : wf.cell? ⟨w.heap.size, 2, none⟩ = some (.int .i64 n2) := BF.out.cell 2
          have r3 : wf.cell? ⟨w.heap.size, 3, none⟩ = some (.int .i64 n3) := BF.out.cell 3
          have r4 : wf.cell? ⟨w.heap.size, 4, none⟩ = some (.int .i64 n4) := BF.out.cell 4
          have r5 : wf.cell? ⟨w.heap.size, 5, none⟩ = some (.bool true) := BF.out.cell 5
          go_wp2_with (fail)
          refine bodyPost_ret (v := .tuple #[.agg #[.int .i64 n0, .int .i64 kd, .int .i64 n2, .int .i64 n3, .int .i64 n4, .bool true], .bool st]) (by simp [results, Tryd.results20, go_sem, *]) rfl ⟨by rw [HR2.out], YF.out⟩
        · have HR := RES2.out ht
          have ht2 : @BEq.beq (List UInt8) _ t s = false := beq_eq_false_iff_ne.2 ht
          have r0 : wl.cell? ⟨w.heap.size, 0, none⟩ = some (.int .i64 0) := BZ.out.cell 0
          have r1 : wl.cell? ⟨w.heap.size, 1, none⟩ = some (.int .i64 0) := BZ.out.cell 1
          have r2 : wl.cell? ⟨w.heap.size, 2, none⟩ = some (.int .i64 0) := BZ.out.cell 2
          have r3 : wl.cell? ⟨w.heap.size, 3, none⟩ = some (.int .i64 0) := BZ.out.cell 3
          have r4 : wl.cell? ⟨w.heap.size, 4, none⟩ = some (.int .i64 0) := BZ.out.cell 4
          have r5 : wl.cell? ⟨w.heap.size, 5, none⟩ = some (.bool false) := BZ.out.cell 5
          have f0 := BZ.out.free 0
          have f1 := BZ.out.free 1
          have f2 := BZ.out.free 2
          have f3 := BZ.out.free 3
          have f4 := BZ.out.free 4
          have f5 := BZ.out.free 5
          have BF := Lib.hid (ent_put BZ.out (.int .i64 n0) (.int .i64 kd) (.int .i64 n2) (.int .i64 n3) (.int .i64 n4) (.bool true))
          have YF : Hid (Ext w (ent6W wl w.heap.size (.int .i64 n0) (.int .i64 kd) (.int .i64 n2) (.int .i64 n3) (.int .i64 n4) (.bool true))) := Lib.hid (YL.out.ent6 (Nat.le_refl _))
          unfold ent6W at BF YF
          go_wp2_with (fail)
          refine wp_region_any (by kernel_rfl) ?_
          change wpAny _ _ _ _ _ _ _ (World.drew _)
          refine wpAny_T (i := 1) (op := Op.move (Operand.tmp 8)) (t := 4) (d := some 56) (v := ?_) rfl (by decide +kernel) (by decide +kernel) (by decide +kernel) (fun _ _ _ h => h) ?_ ?_
          case refine_2 => (intro _; unfold exec2; go_simp; try with_reducible rfl)
          try simp only [Act.put, List.setIfInBounds_toArray, List.set_cons_zero, List.set_cons_succ]
          refine wpAny_T (i := 2) (op := Op.move (Operand.tmp 56)) (t := 4) (d := some 57) (v := ?_) rfl (by decide +kernel) (by decide +kernel) (by decide +kernel) (fun _ _ _ h => h) ?_ ?_
          case refine_2 => (intro _; unfold exec2; go_simp; try with_reducible rfl)
          try simp only [Act.put, List.setIfInBounds_toArray, List.set_cons_zero, List.set_cons_succ]
          refine wpAny_G (i := 3) (op := Op.move (Operand.tmp 7)) (t := 9) (d := some 58) (g := (2, true)) (v := ?_) rfl (by decide +kernel) (by decide +kernel) (by decide +kernel) (fun _ _ _ h => h) (by kernel_rfl) ?_ ?_
          case refine_2 => (intro _; unfold exec2; go_simp; try with_reducible rfl)
          try simp only [Act.put, List.setIfInBounds_toArray, List.set_cons_zero, List.set_cons_succ]
          refine wpAny_G (i := 4) (op := Op.move (Operand.tmp 0)) (t := 9) (d := some 59) (g := (2, true)) (v := ?_) rfl (by decide +kernel) (by decide +kernel) (by decide +kernel) (fun _ _ _ h => h) (by kernel_rfl) ?_ ?_
          case refine_2 => (intro _; unfold exec2; go_simp; try with_reducible rfl)
          try simp only [Act.put, List.setIfInBounds_toArray, List.set_cons_zero, List.set_cons_succ]
          refine wpAny_G (i := 5) (op := Op.binOp BinOp.eql 9 (Operand.tmp 58) (Operand.tmp 59) 9) (t := 4) (d := some 60) (g := (2, true)) (v := .bool false) rfl (by decide +kernel) (by decide +kernel) (by decide +kernel) (fun _ _ _ h => h) (by kernel_rfl) ?_ ?_
          · (intro _; unfold exec2; go_simp; skip)
          try simp only [Act.put, List.setIfInBounds_toArray, List.set_cons_zero, List.set_cons_succ]
          refine wpAny_T (i := 6) (op := Op.pick (Operand.tmp 57) (Operand.tmp 60) (Operand.const (Value.bool false))) (t := 4) (d := some 61) (v := ?_) rfl (by decide +kernel) (by decide +kernel) (by decide +kernel) (fun _ _ _ h => h) ?_ ?_
          case refine_2 => (intro _; unfold exec2; go_simp; try with_reducible rfl)
          try simp only [Act.put, List.setIfInBounds_toArray, List.set_cons_zero, List.set_cons_succ]
          refine wpAny_T (i := 7) (op := Op.move (Operand.tmp 61)) (t := 4) (d := some 62) (v := ?_) rfl (by decide +kernel) (by decide +kernel) (by decide +kernel) (fun _ _ _ h => h) ?_ ?_
          case refine_2 => (intro _; unfold exec2; go_simp; try with_reducible rfl)
          try simp only [Act.put, List.setIfInBounds_toArray, List.set_cons_zero, List.set_cons_succ]
          refine wpAny_S (i := 8) (op := Op.move (Operand.tmp 4)) (t := 64) (d := some 63) (b := false) (g := (7, true)) rfl (by decide +kernel) (by decide +kernel) (by decide +kernel) (fun _ _ _ h => h) (by kernel_rfl) rfl ?_
          try simp only [Act.put, List.setIfInBounds_toArray, List.set_cons_zero, List.set_cons_succ]
          refine wpAny_S (i := 9) (op := Op.call { callee := Callee.value (Operand.func 34), args := #[Operand.tmp 63], argTypes := #[64] }) (t := 4) (d := some 64) (b := false) (g := (7, true)) rfl (by decide +kernel) (by decide +kernel) (by decide +kernel) (fun _ _ _ h => h) (by kernel_rfl) rfl ?_
          try simp only [Act.put, List.setIfInBounds_toArray, List.set_cons_zero, List.set_cons_succ]
          refine wpAny_T (i := 10) (op := Op.pick (Operand.tmp 62) (Operand.tmp 64) (Operand.const (Value.bool false))) (t := 4) (d := some 65) (v := ?_) rfl (by decide +kernel) (by decide +kernel) (by decide +kernel) (fun _ _ _ h => h) ?_ ?_
          case refine_2 => (intro _; unfold exec2; go_simp; try with_reducible rfl)
          try simp only [Act.put, List.setIfInBounds_toArray, List.set_cons_zero, List.set_cons_succ]
          refine wpAny_next 0 (by decide +kernel) (op_ld (T := 50) (x := Operand.tmp 5) (t := 50) (d := some 55) rfl (.pointer (some ⟨gb, 0, none⟩)) (by kernel_rfl) (.agg #[.int .i64 n0, .int .i64 kd, .int .i64 n2, .int .i64 n3, .int .i64 n4, .bool true]) (by go_simp) ?_)
          try simp only [Act.put, List.setIfInBounds_toArray, List.set_cons_zero, List.set_cons_succ]
          refine wpAny_next 11 (by kernel_rfl) (op_st rfl (.pointer (some ⟨w.heap.size, 0, none⟩)) (.agg #[.int .i64 n0, .int .i64 kd, .int .i64 n2, .int .i64 n3, .int .i64 n4, .bool true]) (by kernel_rfl) (by kernel_rfl) (by go_simp; rfl) ?_)
          try simp only [Act.put, List.setIfInBounds_toArray, List.set_cons_zero, List.set_cons_succ]
          refine wpAny_T (i := 12) (op := Op.assign (Operand.tmp 65)) (t := 4) (d := some 3) (v := ?_) rfl (by decide +kernel) (by decide +kernel) (by decide +kernel) (fun _ _ _ h => h) ?_ ?_
          case refine_2 => (intro _; unfold exec2; go_simp; try with_reducible rfl)
          try simp only [Act.put, List.setIfInBounds_toArray, List.set_cons_zero, List.set_cons_succ]
          refine wpAny_done (by kernel_rfl) ?_ _
          go_simp
          generalize ((((((wl.setCell ⟨w.heap.size, 0, none⟩ (.int .i64 n0)).setCell ⟨w.heap.size, 1, none⟩ (.int .i64 kd)).setCell ⟨w.heap.size, 2, none⟩ (.int .i64 n2)).setCell ⟨w.heap.size, 3, none⟩ (.int .i64 n3)).setCell ⟨w.heap.size, 4, none⟩ (.int .i64 n4)).setCell ⟨w.heap.size, 5, none⟩ (.bool true)) = wf at *
          clear r0 r1 r2 r3 r4 r5 f0 f1 f2 f3 f4 f5 q0 q1 q2 q3 q4 q5
          have r0 : wf.drew.cell? ⟨w.heap.size, 0, none⟩ = some (.int .i64 n0) := BF.out.drew.cell 0
          have r1 : wf.drew.cell? ⟨w.heap.size, 1, none⟩ = some (.int .i64 kd) := BF.out.drew.cell 1
          have r2 : wf.drew.cell? ⟨w.heap.size, 2, none⟩ = some (.int .i64 n2) := BF.out.drew.cell 2
          have r3 : wf.drew.cell? ⟨w.heap.size, 3, none⟩ = some (.int .i64 n3) := BF.out.drew.cell 3
          have r4 : wf.drew.cell? ⟨w.heap.size, 4, none⟩ = some (.int .i64 n4) := BF.out.drew.cell 4
          have r5 : wf.drew.cell? ⟨w.heap.size, 5, none⟩ = some (.bool true) := BF.out.drew.cell 5
          go_wp2_with (fail)
          refine bodyPost_ret (v := .tuple #[.agg #[.int .i64 n0, .int .i64 kd, .int .i64 n2, .int .i64 n3, .int .i64 n4, .bool true], .bool false]) (by simp [results, Tryd.results20, go_sem, *]) rfl ⟨by rw [HR], YF.out.drew⟩
set_option maxRecDepth 100000 in
set_option maxHeartbeats 8000000 in
theorem entry6_false (s a0 a2 a3 a4 : Txt) (kd : Int) (hk1 : 1 ≤ kd) (hk4 : kd ≤ 4) (hs : splitC 32 s = [a0, kindT kd, a2, a3, a4, [110, 111]]) (hl : s.length ≤ 1000) (hp : ∀ x ∈ [a0, kindT kd, a2, a3, a4, [110, 111]], Plain x ∧ x.length ≤ 1000) (w : World) (hT : Ten w) :
    Calls Tryd.prog 20 #[.string ⟨s.toArray⟩] w (EntryPost s w) := by
  have SP := fun (W : World) => split1_any s 32 W (by omega)
  rw [hs] at SP
  have NU0 := Lib.hid (fun (W : World) => number_t a0 W (hp a0 (by simp)).1 (by have := (hp a0 (by simp)).2; omega))
  have NU2 := Lib.hid (fun (W : World) => number_t a2 W (hp a2 (by simp)).1 (by have := (hp a2 (by simp)).2; omega))
  have NU3 := Lib.hid (fun (W : World) => number_t a3 W (hp a3 (by simp)).1 (by have := (hp a3 (by simp)).2; omega))
  have NU4 := Lib.hid (fun (W : World) => number_t a4 W (hp a4 (by simp)).1 (by have := (hp a4 (by simp)).2; omega))
  have KD := Lib.hid (fun (W : World) (k : Int) => kindt_any k W)
  have SX := Lib.hid (fun (W : World) (A : Option Addr) (c : Nat) (h : RdV W 9 A (txV [a0, kindT kd, a2, a3, a4, [110, 111]])) => short_any A c [a0, kindT kd, a2, a3, a4, [110, 111]] W h (by simp [maxLen]) (fun x hx => ⟨(hp x hx).1, by have := (hp x hx).2; omega⟩))
  have hE : entryE [a0, kindT kd, a2, a3, a4, [110, 111]] = ⟨numT a0, kd, numT a2, numT a3, numT a4, false⟩ := by
    unfold entryE
    rw [if_pos (by simp)]
    simp only [List.getD_cons_zero, List.getD_cons_succ, kindN_kindT ⟨hk1, hk4⟩]
    simp
  have hI : (Ent.mk (numT a0) kd (numT a2) (numT a3) (numT a4) false).In := ⟨numT_i64 a0, ⟨by show _ ≤ kd; omega, by show kd ≤ _; omega⟩, numT_i64 a2, numT_i64 a3, numT_i64 a4⟩
  have LX := Lib.hid (fun (W : World) (x : Ext w W) => line_any ⟨numT a0, kd, numT a2, numT a3, numT a4, false⟩ W hI (hT.ext x))
  unfold EntryPost
  have hR : entryT s = (⟨numT a0, kd, numT a2, numT a3, numT a4, false⟩, (Ent.mk (numT a0) kd (numT a2) (numT a3) (numT a4) false).line.2 && decide ((Ent.mk (numT a0) kd (numT a2) (numT a3) (numT a4) false).line.1 = s) && shortT [a0, kindT kd, a2, a3, a4, [110, 111]]) := by
    unfold entryT
    simp only [hs, hE]
  rw [hR]
  clear hR hE hI hT hp hs
  generalize (Ent.mk (numT a0) kd (numT a2) (numT a3) (numT a4) false).line = lr at *
  obtain ⟨t, ok⟩ := lr
  simp only at LX ⊢
  obtain ⟨st, hst⟩ : ∃ st, Hid (shortT [a0, kindT kd, a2, a3, a4, [110, 111]] = st) := ⟨_, rfl⟩
  rw [hst.out] at SX ⊢
  obtain ⟨res, hres⟩ : ∃ res, Hid ((ok && decide (t = s) && st) = res) := ⟨_, rfl⟩
  rw [hres.out]
  have RES1 : Hid (ok = false → res = false) := Lib.hid (by rintro rfl; have := hres.out; simpa using this.symm)
  have RES2 : Hid (t ≠ s → res = false) := Lib.hid (by intro h; have := hres.out; simpa [h] using this.symm)
  have RES3 : Hid (ok = true → t = s → res = st) := Lib.hid (by rintro rfl rfl; have := hres.out; simpa using this.symm)
  clear hres hst
  generalize numT a0 = n0 at *
  generalize numT a2 = n2 at *
  generalize numT a3 = n3 at *
  generalize numT a4 = n4 at *
  simp only [txV, txS, List.map_cons, List.map_nil, List.length_cons, List.length_nil, Nat.zero_add, Nat.reduceAdd] at SP
  unfold txS at LX KD
  unfold entC at LX ⊢
  simp only at LX ⊢
  replace SP := Lib.hid SP
  go_enter Tryd.func20, Tryd.ntmps20
  go_wp2_with (fail)
  refine (SP.out _).mono ?_
  rintro e w1 ⟨rfl, rfl⟩
  have BR1 : Hid (Blk ((w.alloc (.cells #[.int .i64 0, .int .i64 0, .int .i64 0, .int .i64 0, .int .i64 0, .bool false] 50)).alloc (.cells #[.string ⟨a0.toArray⟩, .string ⟨(kindT kd).toArray⟩, .string ⟨a2.toArray⟩, .string ⟨a3.toArray⟩, .string ⟨a4.toArray⟩, .string ⟨#[110, 111]⟩] 9)) w.heap.size 50 #[.int .i64 0, .int .i64 0, .int .i64 0, .int .i64 0, .int .i64 0, .bool false]) := .alloc (.new rfl) _
  have BW1 : Hid (Blk ((w.alloc (.cells #[.int .i64 0, .int .i64 0, .int .i64 0, .int .i64 0, .int .i64 0, .bool false] 50)).alloc (.cells #[.string ⟨a0.toArray⟩, .string ⟨(kindT kd).toArray⟩, .string ⟨a2.toArray⟩, .string ⟨a3.toArray⟩, .string ⟨a4.toArray⟩, .string ⟨#[110, 111]⟩] 9)) (w.heap.size + 1) 9 #[.string ⟨a0.toArray⟩, .string ⟨(kindT kd).toArray⟩, .string ⟨a2.toArray⟩, .string ⟨a3.toArray⟩, .string ⟨a4.toArray⟩, .string ⟨#[110, 111]⟩]) := .new (by simp)
  have XW1 : Hid (Ext w ((w.alloc (.cells #[.int .i64 0, .int .i64 0, .int .i64 0, .int .i64 0, .int .i64 0, .bool false] 50)).alloc (.cells #[.string ⟨a0.toArray⟩, .string ⟨(kindT kd).toArray⟩, .string ⟨a2.toArray⟩, .string ⟨a3.toArray⟩, .string ⟨a4.toArray⟩, .string ⟨#[110, 111]⟩] 9))) := by (repeat (first | assumption | exact Ext.rf _ | apply Ext.drew | apply Ext.drewN | apply Ext.alloc))
  go_upto_region 3 with (go_at_call 33; refine (NU0.out _).mono ?_; rintro e w2 ⟨rfl, x2⟩)
  have BE0 : Hid (Blk (w2.alloc (.cells #[.int .i64 n0, .int .i64 0, .int .i64 0, .int .i64 0, .int .i64 0, .bool false] 50)) w2.heap.size 50 #[.int .i64 n0, .int .i64 0, .int .i64 0, .int .i64 0, .int .i64 0, .bool false]) := .new rfl
  have BR0 := Lib.hid ((BR1.out.ext x2).alloc (.cells #[.int .i64 n0, .int .i64 0, .int .i64 0, .int .i64 0, .int .i64 0, .bool false] 50))
  have BW0 := Lib.hid ((BW1.out.ext x2).alloc (.cells #[.int .i64 n0, .int .i64 0, .int .i64 0, .int .i64 0, .int .i64 0, .bool false] 50))
  have YR0 := Lib.hid ((XW1.out.tr x2).alloc (.cells #[.int .i64 n0, .int .i64 0, .int .i64 0, .int .i64 0, .int .i64 0, .bool false] 50))
  have zb : w.heap.size < w2.heap.size := (BR1.out.ext x2).lt
  have zb1 : w.heap.size + 1 < w2.heap.size := (BW1.out.ext x2).lt
  clear BR1 BW1 XW1 x2
  obtain ⟨gb, hgb⟩ : ∃ gb, gb = w2.heap.size := ⟨_, rfl⟩
  rw [← hgb] at zb zb1 BE0 ⊢
  clear hgb
  go_upto_region 4 with (fail)
  generalize (w2.alloc (.cells #[.int .i64 n0, .int .i64 0, .int .i64 0, .int .i64 0, .int .i64 0, .bool false] 50)) = wa at *
  have zW := BW0.out.lt
  have c2 : wa.cell? ⟨w.heap.size + 1, 2, none⟩ = some (.string ⟨a2.toArray⟩) := BW0.out.cell 2
  have c3 : wa.cell? ⟨w.heap.size + 1, 3, none⟩ = some (.string ⟨a3.toArray⟩) := BW0.out.cell 3
  have c4 : wa.cell? ⟨w.heap.size + 1, 4, none⟩ = some (.string ⟨a4.toArray⟩) := BW0.out.cell 4
  have c5 : wa.cell? ⟨w.heap.size + 1, 5, none⟩ = some (.string ⟨#[110, 111]⟩) := BW0.out.cell 5
  go_region_held3 (fun W' => W'.cell? ⟨w.heap.size + 1, 2, none⟩ = some (.string ⟨a2.toArray⟩) ∧ W'.cell? ⟨w.heap.size + 1, 3, none⟩ = some (.string ⟨a3.toArray⟩) ∧ W'.cell? ⟨w.heap.size + 1, 4, none⟩ = some (.string ⟨a4.toArray⟩) ∧ W'.cell? ⟨w.heap.size + 1, 5, none⟩ = some (.string ⟨#[110, 111]⟩)) (first | go_keep | (focus (go_simp; done)))
    (first
    | (go_at_call_of 33 (Value.string ⟨a2.toArray⟩); refine (NU2.out _).mono ?_; rintro e w3 ⟨rfl, x3⟩; have y3 := Ext.tr (a := wa) (by (repeat (first | assumption | exact Ext.rf _ | apply Ext.drew | apply Ext.drewN | apply Ext.alloc))) x3; have s1 := keepEL y3 zW c2; have s2 := keepEL y3 zW c3; have s3 := keepEL y3 zW c4; have s4 := keepEL y3 zW c5)
    | (go_at_call_of 33 (Value.string ⟨a3.toArray⟩); refine (NU3.out _).mono ?_; rintro e w4 ⟨rfl, x4⟩; have y4 := Ext.tr (a := wa) (by (repeat (first | assumption | exact Ext.rf _ | apply Ext.drew | apply Ext.drewN | apply Ext.alloc))) x4; have s1 := keepEL y4 zW c2; have s2 := keepEL y4 zW c3; have s3 := keepEL y4 zW c4; have s4 := keepEL y4 zW c5)
    | (go_at_call_of 33 (Value.string ⟨a4.toArray⟩); refine (NU4.out _).mono ?_; rintro e w5 ⟨rfl, x5⟩; have y5 := Ext.tr (a := wa) (by (repeat (first | assumption | exact Ext.rf _ | apply Ext.drew | apply Ext.drewN | apply Ext.alloc))) x5; have s1 := keepEL y5 zW c2; have s2 := keepEL y5 zW c3; have s3 := keepEL y5 zW c4; have s4 := keepEL y5 zW c5; have Zm := Lib.hid (BE0.out.ext y5); have t1 := Zm.out.cell 1; have t2 := Zm.out.cell 2; have t3 := Zm.out.cell 3; have t4 := Zm.out.cell 4; have t5 := Zm.out.cell 5; have f1 := Zm.out.free 1; have f2 := Zm.out.free 2; have f3 := Zm.out.free 3; have f4 := Zm.out.free 4; have f5 := Zm.out.free 5; simp only [List.getElem?_toArray, List.getElem?_cons_zero, List.getElem?_cons_succ] at t1 t2 t3 t4 t5;
       have BE5 := Lib.hid (op_put Zm.out (.int .i64 0) (.int .i64 n2) (.int .i64 n3) (.int .i64 n4) (.bool false)); have BR5 := Lib.hid (op_far (BR0.out.ext y5) (show w.heap.size ≠ gb by omega) (.int .i64 0) (.int .i64 n2) (.int .i64 n3) (.int .i64 n4) (.bool false)); have BW5 := Lib.hid (op_far (BW0.out.ext y5) (show w.heap.size + 1 ≠ gb by omega) (.int .i64 0) (.int .i64 n2) (.int .i64 n3) (.int .i64 n4) (.bool false)); have YR5 : Hid (Ext w (opW w5 gb (.int .i64 0) (.int .i64 n2) (.int .i64 n3) (.int .i64 n4) (.bool false))) := Lib.hid ((YR0.out.tr y5).op (Nat.le_of_lt zb)); unfold opW at BE5 BR5 BW5 YR5))
  generalize (((((w5.setCell ⟨gb, 1, none⟩ (.int .i64 0)).setCell ⟨gb, 2, none⟩ (.int .i64 n2)).setCell ⟨gb, 3, none⟩ (.int .i64 n3)).setCell ⟨gb, 4, none⟩ (.int .i64 n4)).setCell ⟨gb, 5, none⟩ (.bool false)) = wb at *
  clear s1 s2 s3 s4 t1 t2 t3 t4 t5 f1 f2 f3 f4 f5 Zm x3 x4 x5 y3 y4 y5 c2 c3 c4 c5 zW NU0 NU2 NU3 NU4 SP BE0 BR0 BW0 YR0
  go_wp2_with (fail)
  go_loopw [6] (fun kv wr => ∃ k : Nat, kv = .int .i64 k ∧ 1 ≤ k ∧ k ≤ 5 ∧ Hid (Blk wr gb 50 #[.int .i64 n0, .int .i64 (kUp kd k), .int .i64 n2, .int .i64 n3, .int .i64 n4, .bool false]) ∧ Hid (Blk wr w.heap.size 50 #[.int .i64 0, .int .i64 0, .int .i64 0, .int .i64 0, .int .i64 0, .bool false]) ∧ Hid (Blk wr (w.heap.size + 1) 9 #[.string ⟨a0.toArray⟩, .string ⟨(kindT kd).toArray⟩, .string ⟨a2.toArray⟩, .string ⟨a3.toArray⟩, .string ⟨a4.toArray⟩, .string ⟨#[110, 111]⟩]) ∧ Hid (Ext w wr)) (fun kv _ => 5 - (intOf kv).toNat)
  case atStart => exact ⟨1, rfl, by omega, by omega, by rw [kUp_one hk1]; exact BE5, BR5, BW5, YR5⟩
  case round =>
    clear BE5 BR5 BW5 YR5
    obtain ⟨k, rfl, k1, k5, BE, BR, BW, YR⟩ := hrel
    by_cases k4 : k ≤ 4
    · have zW := BW.out.lt
      have c1 : wr.cell? ⟨w.heap.size + 1, 1, none⟩ = some (.string ⟨(kindT kd).toArray⟩) := BW.out.cell 1
      have q1 : (k : Int) ≤ 4 := by omega
      by_cases hkd : (k : Int) = kd
      · have e0 : Hid (kindT (k : Int) = kindT kd) := Lib.hid (by rw [hkd])
        have KU : Hid (kUp kd (k + 1) = (k : Int)) := Lib.hid (by rw [← hkd]; exact kUp_at k)
        replace KD := Lib.hid (KD.out · (k : Int))
        rw [e0.out] at KD
        have hkdH := Lib.hid hkd
        clear hkd e0
        obtain ⟨kt, hkt⟩ : ∃ kt, kindT kd = kt := ⟨_, rfl⟩
        rw [hkt] at KD c1
        clear hkt
        go_wp2_with (fail)
        go_region_held3 (fun W' => W'.cell? ⟨w.heap.size + 1, 1, none⟩ = some (.string ⟨kt.toArray⟩)) (first | go_keep | (focus (go_simp; done)))
          (first
          | (go_at_call 27; refine (KD.out _).mono ?_; rintro e w6 ⟨rfl, x6⟩; have y6 := Ext.tr (a := wr) (by (repeat (first | assumption | exact Ext.rf _ | apply Ext.drew | apply Ext.drewN | apply Ext.alloc))) x6; have s1 := keepEL y6 zW c1; have Zm := Lib.hid (BE.out.ext y6); have t1 := Zm.out.cell 1; have f1 := Zm.out.free 1; simp only [List.getElem?_toArray, List.getElem?_cons_zero, List.getElem?_cons_succ] at t1))
        have BE6 : Hid (Blk (w6.setCell ⟨gb, 1, none⟩ (.int .i64 k)) gb 50 #[.int .i64 n0, .int .i64 (kUp kd (k + 1)), .int .i64 n2, .int .i64 n3, .int .i64 n4, .bool false]) := by rw [KU.out]; exact Lib.hid (Zm.out.set 1 (.int .i64 k))
        have BR6 := Lib.hid ((BR.out.ext y6).far (p := ⟨gb, 1, none⟩) (show w.heap.size ≠ gb by omega) (.int .i64 k))
        have BW6 := Lib.hid ((BW.out.ext y6).far (p := ⟨gb, 1, none⟩) (show w.heap.size + 1 ≠ gb by omega) (.int .i64 k))
        have YR6 : Hid (Ext w (w6.setCell ⟨gb, 1, none⟩ (.int .i64 k))) := Lib.hid ((YR.out.tr y6).setNew (p := ⟨gb, 1, none⟩) (Nat.le_of_lt zb) _)
        clear s1 Zm y6 x6 BE BR BW YR c1 KU
        go_wp2_with (fail)
        go_roundw
        case rel => exact ⟨k + 1, by go_num, by omega, by omega, BE6, BR6, BW6, YR6⟩
        case measure => simp [intOf]; omega
      · have e0 : kindT (k : Int) ≠ kindT kd := fun h => hkd (kindT_inj ⟨by omega, by omega⟩ ⟨hk1, hk4⟩ h)
        have KU : Hid (kUp kd (k + 1) = kUp kd k) := Lib.hid (kUp_ne hkd)
        replace KD := Lib.hid (KD.out · (k : Int))
        obtain ⟨kt, hkt⟩ : ∃ kt, kindT kd = kt := ⟨_, rfl⟩
        obtain ⟨kx, hkx⟩ : ∃ kx, kindT (k : Int) = kx := ⟨_, rfl⟩
        rw [hkt] at c1 e0
        rw [hkx] at KD e0
        have e1 : @BEq.beq (List UInt8) _ kx kt = false := beq_eq_false_iff_ne.2 e0
        clear hkt hkx hkd e0
        go_wp2_with (fail)
        go_region_held3 (fun W' => W'.cell? ⟨w.heap.size + 1, 1, none⟩ = some (.string ⟨kt.toArray⟩)) (first | go_keep | (focus (go_simp; done)))
          (first
          | (go_at_call 27; refine (KD.out _).mono ?_; rintro e w6 ⟨rfl, x6⟩; have y6 := Ext.tr (a := wr) (by (repeat (first | assumption | exact Ext.rf _ | apply Ext.drew | apply Ext.drewN | apply Ext.alloc))) x6; have s1 := keepEL y6 zW c1))
        have BE6 : Hid (Blk w6 gb 50 #[.int .i64 n0, .int .i64 (kUp kd (k + 1)), .int .i64 n2, .int .i64 n3, .int .i64 n4, .bool false]) := by rw [KU.out]; exact Lib.hid (BE.out.ext y6)
        have BR6 := Lib.hid (BR.out.ext y6)
        have BW6 := Lib.hid (BW.out.ext y6)
        have YR6 := Lib.hid (YR.out.tr y6)
        clear s1 y6 x6 BE BR BW YR c1 KU
        go_wp2_with (fail)
        go_roundw
        case rel => exact ⟨k + 1, by go_num, by omega, by omega, BE6, BR6, BW6, YR6⟩
        case measure => simp [intOf]; omega
    · obtain rfl : k = 5 := by omega
      rw [kUp_five hk4] at BE
      have RW := Lib.hid (RdV.blk BW.out)
      clear k4 k5 k1 BW KD
      have q0 : wr.cell? ⟨gb, 0, none⟩ = some (.int .i64 n0) := BE.out.cell 0
      have q1 : wr.cell? ⟨gb, 1, none⟩ = some (.int .i64 kd) := BE.out.cell 1
      have q2 : wr.cell? ⟨gb, 2, none⟩ = some (.int .i64 n2) := BE.out.cell 2
      have q3 : wr.cell? ⟨gb, 3, none⟩ = some (.int .i64 n3) := BE.out.cell 3
      have q4 : wr.cell? ⟨gb, 4, none⟩ = some (.int .i64 n4) := BE.out.cell 4
      have q5 : wr.cell? ⟨gb, 5, none⟩ = some (.bool false) := BE.out.cell 5
      go_wp2_with (fail)
      refine (LX.out _ (YR.out.tr (by (repeat (first | assumption | exact Ext.rf _ | apply Ext.drew | apply Ext.drewN | apply Ext.alloc))))).mono ?_
      rintro e wl ⟨rfl, xl⟩
      have YL := Lib.hid (YR.out.tr (Ext.tr (by (repeat (first | assumption | exact Ext.rf _ | apply Ext.drew | apply Ext.drewN | apply Ext.alloc))) xl))
      have BL := Lib.hid (Blk.ext (Blk.ext (w' := _) BE.out (by (repeat (first | assumption | exact Ext.rf _ | apply Ext.drew | apply Ext.drewN | apply Ext.alloc)))) xl)
      have BZ := Lib.hid (Blk.ext (Blk.ext (w' := _) BR.out (by (repeat (first | assumption | exact Ext.rf _ | apply Ext.drew | apply Ext.drewN | apply Ext.alloc)))) xl)
      have RL := Lib.hid (RdV.ext (RdV.ext (w' := _) RW.out (by (repeat (first | assumption | exact Ext.rf _ | apply Ext.drew | apply Ext.drewN | apply Ext.alloc)))) xl)
      have zl := Ext.tr (a := wr) (by (repeat (first | assumption | exact Ext.rf _ | apply Ext.drew | apply Ext.drewN | apply Ext.alloc))) xl |>.size
      have zb2 := BE.out.lt
      have zr2 := BR.out.lt
      clear q0 q1 q2 q3 q4 q5 xl BE BR RW YR LX
      have q0 : wl.cell? ⟨gb, 0, none⟩ = some (.int .i64 n0) := BL.out.cell 0
      have q1 : wl.cell? ⟨gb, 1, none⟩ = some (.int .i64 kd) := BL.out.cell 1
      have q2 : wl.cell? ⟨gb, 2, none⟩ = some (.int .i64 n2) := BL.out.cell 2
      have q3 : wl.cell? ⟨gb, 3, none⟩ = some (.int .i64 n3) := BL.out.cell 3
      have q4 : wl.cell? ⟨gb, 4, none⟩ = some (.int .i64 n4) := BL.out.cell 4
      have q5 : wl.cell? ⟨gb, 5, none⟩ = some (.bool false) := BL.out.cell 5
      cases ok with
      | false =>
        have HR := RES1.out rfl
        have r0 : wl.cell? ⟨w.heap.size, 0, none⟩ = some (.int .i64 0) := BZ.out.cell 0
        have r1 : wl.cell? ⟨w.heap.size, 1, none⟩ = some (.int .i64 0) := BZ.out.cell 1
        have r2 : wl.cell? ⟨w.heap.size, 2, none⟩ = some (.int .i64 0) := BZ.out.cell 2
        have r3 : wl.cell? ⟨w.heap.size, 3, none⟩ = some (.int .i64 0) := BZ.out.cell 3
        have r4 : wl.cell? ⟨w.heap.size, 4, none⟩ = some (.int .i64 0) := BZ.out.cell 4
        have r5 : wl.cell? ⟨w.heap.size, 5, none⟩ = some (.bool false) := BZ.out.cell 5
        have f0 := BZ.out.free 0
        have f1 := BZ.out.free 1
        have f2 := BZ.out.free 2
        have f3 := BZ.out.free 3
        have f4 := BZ.out.free 4
        have f5 := BZ.out.free 5
        have BF := Lib.hid (ent_put BZ.out (.int .i64 n0) (.int .i64 kd) (.int .i64 n2) (.int .i64 n3) (.int .i64 n4) (.bool false))
        have YF : Hid (Ext w (ent6W wl w.heap.size (.int .i64 n0) (.int .i64 kd) (.int .i64 n2) (.int .i64 n3) (.int .i64 n4) (.bool false))) := Lib.hid (YL.out.ent6 (Nat.le_refl _))
        unfold ent6W at BF YF
        go_wp2_with (fail)
        refine wp_region_any (by kernel_rfl) ?_
        change wpAny _ _ _ _ _ _ _ (World.drew _)
        refine wpAny_T (i := 1) (op := Op.move (Operand.tmp 8)) (t := 4) (d := some 56) (v := ?_) rfl (by decide +kernel) (by decide +kernel) (by decide +kernel) (fun _ _ _ h => h) ?_ ?_
        case refine_2 => (intro _; unfold exec2; go_simp; try with_reducible rfl)
        try simp only [Act.put, List.setIfInBounds_toArray, List.set_cons_zero, List.set_cons_succ]
        refine wpAny_T (i := 2) (op := Op.move (Operand.tmp 56)) (t := 4) (d := some 57) (v := ?_) rfl (by decide +kernel) (by decide +kernel) (by decide +kernel) (fun _ _ _ h => h) ?_ ?_
        case refine_2 => (intro _; unfold exec2; go_simp; try with_reducible rfl)
        try simp only [Act.put, List.setIfInBounds_toArray, List.set_cons_zero, List.set_cons_succ]
        refine wpAny_S (i := 3) (op := Op.move (Operand.tmp 7)) (t := 9) (d := some 58) (b := false) (g := (2, true)) rfl (by decide +kernel) (by decide +kernel) (by decide +kernel) (fun _ _ _ h => h) (by kernel_rfl) rfl ?_
        try simp only [Act.put, List.setIfInBounds_toArray, List.set_cons_zero, List.set_cons_succ]
        refine wpAny_S (i := 4) (op := Op.move (Operand.tmp 0)) (t := 9) (d := some 59) (b := false) (g := (2, true)) rfl (by decide +kernel) (by decide +kernel) (by decide +kernel) (fun _ _ _ h => h) (by kernel_rfl) rfl ?_
        try simp only [Act.put, List.setIfInBounds_toArray, List.set_cons_zero, List.set_cons_succ]
        refine wpAny_S (i := 5) (op := Op.binOp BinOp.eql 9 (Operand.tmp 58) (Operand.tmp 59) 9) (t := 4) (d := some 60) (b := false) (g := (2, true)) rfl (by decide +kernel) (by decide +kernel) (by decide +kernel) (fun _ _ _ h => h) (by kernel_rfl) rfl ?_
        try simp only [Act.put, List.setIfInBounds_toArray, List.set_cons_zero, List.set_cons_succ]
        refine wpAny_T (i := 6) (op := Op.pick (Operand.tmp 57) (Operand.tmp 60) (Operand.const (Value.bool false))) (t := 4) (d := some 61) (v := ?_) rfl (by decide +kernel) (by decide +kernel) (by decide +kernel) (fun _ _ _ h => h) ?_ ?_
        case refine_2 => (intro _; unfold exec2; go_simp; try with_reducible rfl)
        try simp only [Act.put, List.setIfInBounds_toArray, List.set_cons_zero, List.set_cons_succ]
        refine wpAny_T (i := 7) (op := Op.move (Operand.tmp 61)) (t := 4) (d := some 62) (v := ?_) rfl (by decide +kernel) (by decide +kernel) (by decide +kernel) (fun _ _ _ h => h) ?_ ?_
        case refine_2 => (intro _; unfold exec2; go_simp; try with_reducible rfl)
        try simp only [Act.put, List.setIfInBounds_toArray, List.set_cons_zero, List.set_cons_succ]
        refine wpAny_S (i := 8) (op := Op.move (Operand.tmp 4)) (t := 64) (d := some 63) (b := false) (g := (7, true)) rfl (by decide +kernel) (by decide +kernel) (by decide +kernel) (fun _ _ _ h => h) (by kernel_rfl) rfl ?_
        try simp only [Act.put, List.setIfInBounds_toArray, List.set_cons_zero, List.set_cons_succ]
        refine wpAny_S (i := 9) (op := Op.call { callee := Callee.value (Operand.func 34), args := #[Operand.tmp 63], argTypes := #[64] }) (t := 4) (d := some 64) (b := false) (g := (7, true)) rfl (by decide +kernel) (by decide +kernel) (by decide +kernel) (fun _ _ _ h => h) (by kernel_rfl) rfl ?_
        try simp only [Act.put, List.setIfInBounds_toArray, List.set_cons_zero, List.set_cons_succ]
        refine wpAny_T (i := 10) (op := Op.pick (Operand.tmp 62) (Operand.tmp 64) (Operand.const (Value.bool false))) (t := 4) (d := some 65) (v := ?_) rfl (by decide +kernel) (by decide +kernel) (by decide +kernel) (fun _ _ _ h => h) ?_ ?_
        case refine_2 => (intro _; unfold exec2; go_simp; try with_reducible rfl)
        try simp only [Act.put, List.setIfInBounds_toArray, List.set_cons_zero, List.set_cons_succ]
        refine wpAny_next 0 (by decide +kernel) (op_ld (T := 50) (x := Operand.tmp 5) (t := 50) (d := some 55) rfl (.pointer (some ⟨gb, 0, none⟩)) (by kernel_rfl) (.agg #[.int .i64 n0, .int .i64 kd, .int .i64 n2, .int .i64 n3, .int .i64 n4, .bool false]) (by go_simp) ?_)
        try simp only [Act.put, List.setIfInBounds_toArray, List.set_cons_zero, List.set_cons_succ]
        refine wpAny_next 11 (by kernel_rfl) (op_st rfl (.pointer (some ⟨w.heap.size, 0, none⟩)) (.agg #[.int .i64 n0, .int .i64 kd, .int .i64 n2, .int .i64 n3, .int .i64 n4, .bool false]) (by kernel_rfl) (by kernel_rfl) (by go_simp; rfl) ?_)
        try simp only [Act.put, List.setIfInBounds_toArray, List.set_cons_zero, List.set_cons_succ]
        refine wpAny_T (i := 12) (op := Op.assign (Operand.tmp 65)) (t := 4) (d := some 3) (v := ?_) rfl (by decide +kernel) (by decide +kernel) (by decide +kernel) (fun _ _ _ h => h) ?_ ?_
        case refine_2 => (intro _; unfold exec2; go_simp; try with_reducible rfl)
        try simp only [Act.put, List.setIfInBounds_toArray, List.set_cons_zero, List.set_cons_succ]
        refine wpAny_done (by kernel_rfl) ?_ _
        go_simp
        generalize ((((((wl.setCell ⟨w.heap.size, 0, none⟩ (.int .i64 n0)).setCell ⟨w.heap.size, 1, none⟩ (.int .i64 kd)).setCell ⟨w.heap.size, 2, none⟩ (.int .i64 n2)).setCell ⟨w.heap.size, 3, none⟩ (.int .i64 n3)).setCell ⟨w.heap.size, 4, none⟩ (.int .i64 n4)).setCell ⟨w.heap.size, 5, none⟩ (.bool false)) = wf at *
        clear r0 r1 r2 r3 r4 r5 f0 f1 f2 f3 f4 f5 q0 q1 q2 q3 q4 q5
        have r0 : wf.drew.cell? ⟨w.heap.size, 0, none⟩ = some (.int .i64 n0) := BF.out.drew.cell 0
        have r1 : wf.drew.cell? ⟨w.heap.size, 1, none⟩ = some (.int .i64 kd) := BF.out.drew.cell 1
        have r2 : wf.drew.cell? ⟨w.heap.size, 2, none⟩ = some (.int .i64 n2) := BF.out.drew.cell 2
        have r3 : wf.drew.cell? ⟨w.heap.size, 3, none⟩ = some (.int .i64 n3) := BF.out.drew.cell 3
        have r4 : wf.drew.cell? ⟨w.heap.size, 4, none⟩ = some (.int .i64 n4) := BF.out.drew.cell 4
        have r5 : wf.drew.cell? ⟨w.heap.size, 5, none⟩ = some (.bool false) := BF.out.drew.cell 5
        go_wp2_with (fail)
        refine bodyPost_ret (v := .tuple #[.agg #[.int .i64 n0, .int .i64 kd, .int .i64 n2, .int .i64 n3, .int .i64 n4, .bool false], .bool false]) (by simp [results, Tryd.results20, go_sem, *]) rfl ⟨by rw [HR], YF.out.drew⟩
      | true =>
        by_cases ht : t = s
        · skip
          subst ht
          have HR2 := Lib.hid (RES3.out rfl rfl)
          have h0 := BL.out.lt
          go_wp2_with (fail)
          go_region_held3 (fun W' => W'.cell? ⟨gb, 0, none⟩ = some (.int .i64 n0) ∧ W'.cell? ⟨gb, 1, none⟩ = some (.int .i64 kd) ∧ W'.cell? ⟨gb, 2, none⟩ = some (.int .i64 n2) ∧ W'.cell? ⟨gb, 3, none⟩ = some (.int .i64 n3) ∧ W'.cell? ⟨gb, 4, none⟩ = some (.int .i64 n4) ∧ W'.cell? ⟨gb, 5, none⟩ = some (.bool false)) (first | go_keep | (focus (go_simp; done)))
            (first
            | (go_at_call 34; refine (SX.out _ _ _ (RL.out.ext (by (repeat (first | assumption | exact Ext.rf _ | apply Ext.drew | apply Ext.drewN | apply Ext.alloc))))).mono ?_; rintro e wm ⟨rfl, xm⟩; have ym := Ext.tr (a := wl) (by (repeat (first | assumption | exact Ext.rf _ | apply Ext.drew | apply Ext.drewN | apply Ext.alloc))) xm; have s1 := keepEL ym h0 q0; have s2 := keepEL ym h0 q1; have s3 := keepEL ym h0 q2; have s4 := keepEL ym h0 q3; have s5 := keepEL ym h0 q4; have s6 := keepEL ym h0 q5; have Zm := Lib.hid (BZ.out.ext ym); have t0 := Zm.out.cell 0; have t1 := Zm.out.cell 1; have t2 := Zm.out.cell 2; have t3 := Zm.out.cell 3; have t4 := Zm.out.cell 4; have t5 := Zm.out.cell 5; have f0 := Zm.out.free 0; have f1 := Zm.out.free 1; have f2 := Zm.out.free 2; have f3 := Zm.out.free 3; have f4 := Zm.out.free 4; have f5 := Zm.out.free 5; simp only [List.getElem?_toArray, List.getElem?_cons_zero, List.getElem?_cons_succ] at t0 t1 t2 t3 t4 t5; have BF := Lib.hid (ent_put Zm.out (.int .i64 n0) (.int .i64 kd) (.int .i64 n2) (.int .i64 n3) (.int .i64 n4) (.bool false)); have YF : Hid (Ext w (ent6W wm w.heap.size (.int .i64 n0) (.int .i64 kd) (.int .i64 n2) (.int .i64 n3) (.int .i64 n4) (.bool false))) := Lib.hid ((YL.out.tr ym).ent6 (Nat.le_refl _)); unfold ent6W at BF YF))
          generalize ((((((wm.setCell ⟨w.heap.size, 0, none⟩ (.int .i64 n0)).setCell ⟨w.heap.size, 1, none⟩ (.int .i64 kd)).setCell ⟨w.heap.size, 2, none⟩ (.int .i64 n2)).setCell ⟨w.heap.size, 3, none⟩ (.int .i64 n3)).setCell ⟨w.heap.size, 4, none⟩ (.int .i64 n4)).setCell ⟨w.heap.size, 5, none⟩ (.bool false)) = wf at *
          clear t0 t1 t2 t3 t4 t5 f0 f1 f2 f3 f4 f5 q0 q1 q2 q3 q4 q5 s1 s2 s3 s4 s5 s6
          have r0 : wf.cell? ⟨w.heap.size, 0, none⟩ = some (.int .i64 n0) := BF.out.cell 0
          have r1 : wf.cell? ⟨w.heap.size, 1, none⟩ = some (.int .i64 kd) := BF.out.cell 1
          have r2 : wf.cell? ⟨w.heap.size, 2, none⟩ = some (.int .i64 n2) := BF.out.cell 2
          have r3 : wf.cell? ⟨w.heap.size, 3, none⟩ = some (.int .i64 n3) := BF.out.cell 3
          have r4 : wf.cell? ⟨w.heap.size, 4, none⟩ = some (.int .i64 n4) := BF.out.cell 4
          have r5 : wf.cell? ⟨w.heap.size, 5, none⟩ = some (.bool false) := BF.out.cell 5
          go_wp2_with (fail)
          refine bodyPost_ret (v := .tuple #[.agg #[.int .i64 n0, .int .i64 kd, .int .i64 n2, .int .i64 n3, .int .i64 n4, .bool false], .bool st]) (by simp [results, Tryd.results20, go_sem, *]) rfl ⟨by rw [HR2.out], YF.out⟩
        · have HR := RES2.out ht
          have ht2 : @BEq.beq (List UInt8) _ t s = false := beq_eq_false_iff_ne.2 ht
          have r0 : wl.cell? ⟨w.heap.size, 0, none⟩ = some (.int .i64 0) := BZ.out.cell 0
          have r1 : wl.cell? ⟨w.heap.size, 1, none⟩ = some (.int .i64 0) := BZ.out.cell 1
          have r2 : wl.cell? ⟨w.heap.size, 2, none⟩ = some (.int .i64 0) := BZ.out.cell 2
          have r3 : wl.cell? ⟨w.heap.size, 3, none⟩ = some (.int .i64 0) := BZ.out.cell 3
          have r4 : wl.cell? ⟨w.heap.size, 4, none⟩ = some (.int .i64 0) := BZ.out.cell 4
          have r5 : wl.cell? ⟨w.heap.size, 5, none⟩ = some (.bool false) := BZ.out.cell 5
          have f0 := BZ.out.free 0
          have f1 := BZ.out.free 1
          have f2 := BZ.out.free 2
          have f3 := BZ.out.free 3
          have f4 := BZ.out.free 4
          have f5 := BZ.out.free 5
          have BF := Lib.hid (ent_put BZ.out (.int .i64 n0) (.int .i64 kd) (.int .i64 n2) (.int .i64 n3) (.int .i64 n4) (.bool false))
          have YF : Hid (Ext w (ent6W wl w.heap.size (.int .i64 n0) (.int .i64 kd) (.int .i64 n2) (.int .i64 n3) (.int .i64 n4) (.bool false))) := Lib.hid (YL.out.ent6 (Nat.le_refl _))
          unfold ent6W at BF YF
          go_wp2_with (fail)
          refine wp_region_any (by kernel_rfl) ?_
          change wpAny _ _ _ _ _ _ _ (World.drew _)
          refine wpAny_T (i := 1) (op := Op.move (Operand.tmp 8)) (t := 4) (d := some 56) (v := ?_) rfl (by decide +kernel) (by decide +kernel) (by decide +kernel) (fun _ _ _ h => h) ?_ ?_
          case refine_2 => (intro _; unfold exec2; go_simp; try with_reducible rfl)
          try simp only [Act.put, List.setIfInBounds_toArray, List.set_cons_zero, List.set_cons_succ]
          refine wpAny_T (i := 2) (op := Op.move (Operand.tmp 56)) (t := 4) (d := some 57) (v := ?_) rfl (by decide +kernel) (by decide +kernel) (by decide +kernel) (fun _ _ _ h => h) ?_ ?_
          case refine_2 => (intro _; unfold exec2; go_simp; try with_reducible rfl)
          try simp only [Act.put, List.setIfInBounds_toArray, List.set_cons_zero, List.set_cons_succ]
          refine wpAny_G (i := 3) (op := Op.move (Operand.tmp 7)) (t := 9) (d := some 58) (g := (2, true)) (v := ?_) rfl (by decide +kernel) (by decide +kernel) (by decide +kernel) (fun _ _ _ h => h) (by kernel_rfl) ?_ ?_
          case refine_2 => (intro _; unfold exec2; go_simp; try with_reducible rfl)
          try simp only [Act.put, List.setIfInBounds_toArray, List.set_cons_zero, List.set_cons_succ]
          refine wpAny_G (i := 4) (op := Op.move (Operand.tmp 0)) (t := 9) (d := some 59) (g := (2, true)) (v := ?_) rfl (by decide +kernel) (by decide +kernel) (by decide +kernel) (fun _ _ _ h => h) (by kernel_rfl) ?_ ?_
          case refine_2 => (intro _; unfold exec2; go_simp; try with_reducible rfl)
          try simp only [Act.put, List.setIfInBounds_toArray, List.set_cons_zero, List.set_cons_succ]
          refine wpAny_G (i := 5) (op := Op.binOp BinOp.eql 9 (Operand.tmp 58) (Operand.tmp 59) 9) (t := 4) (d := some 60) (g := (2, true)) (v := .bool false) rfl (by decide +kernel) (by decide +kernel) (by decide +kernel) (fun _ _ _ h => h) (by kernel_rfl) ?_ ?_
          · (intro _; unfold exec2; go_simp; skip)
          try simp only [Act.put, List.setIfInBounds_toArray, List.set_cons_zero, List.set_cons_succ]
          refine wpAny_T (i := 6) (op := Op.pick (Operand.tmp 57) (Operand.tmp 60) (Operand.const (Value.bool false))) (t := 4) (d := some 61) (v := ?_) rfl (by decide +kernel) (by decide +kernel) (by decide +kernel) (fun _ _ _ h => h) ?_ ?_
          case refine_2 => (intro _; unfold exec2; go_simp; try with_reducible rfl)
          try simp only [Act.put, List.setIfInBounds_toArray, List.set_cons_zero, List.set_cons_succ]
          refine wpAny_T (i := 7) (op := Op.move (Operand.tmp 61)) (t := 4) (d := some 62) (v := ?_) rfl (by decide +kernel) (by decide +kernel) (by decide +kernel) (fun _ _ _ h => h) ?_ ?_
          case refine_2 => (intro _; unfold exec2; go_simp; try with_reducible rfl)
          try simp only [Act.put, List.setIfInBounds_toArray, List.set_cons_zero, List.set_cons_succ]
          refine wpAny_S (i := 8) (op := Op.move (Operand.tmp 4)) (t := 64) (d := some 63) (b := false) (g := (7, true)) rfl (by decide +kernel) (by decide +kernel) (by decide +kernel) (fun _ _ _ h => h) (by kernel_rfl) rfl ?_
          try simp only [Act.put, List.setIfInBounds_toArray, List.set_cons_zero, List.set_cons_succ]
          refine wpAny_S (i := 9) (op := Op.call { callee := Callee.value (Operand.func 34), args := #[Operand.tmp 63], argTypes := #[64] }) (t := 4) (d := some 64) (b := false) (g := (7, true)) rfl (by decide +kernel) (by decide +kernel) (by decide +kernel) (fun _ _ _ h => h) (by kernel_rfl) rfl ?_
          try simp only [Act.put, List.setIfInBounds_toArray, List.set_cons_zero, List.set_cons_succ]
          refine wpAny_T (i := 10) (op := Op.pick (Operand.tmp 62) (Operand.tmp 64) (Operand.const (Value.bool false))) (t := 4) (d := some 65) (v := ?_) rfl (by decide +kernel) (by decide +kernel) (by decide +kernel) (fun _ _ _ h => h) ?_ ?_
          case refine_2 => (intro _; unfold exec2; go_simp; try with_reducible rfl)
          try simp only [Act.put, List.setIfInBounds_toArray, List.set_cons_zero, List.set_cons_succ]
          refine wpAny_next 0 (by decide +kernel) (op_ld (T := 50) (x := Operand.tmp 5) (t := 50) (d := some 55) rfl (.pointer (some ⟨gb, 0, none⟩)) (by kernel_rfl) (.agg #[.int .i64 n0, .int .i64 kd, .int .i64 n2, .int .i64 n3, .int .i64 n4, .bool false]) (by go_simp) ?_)
          try simp only [Act.put, List.setIfInBounds_toArray, List.set_cons_zero, List.set_cons_succ]
          refine wpAny_next 11 (by kernel_rfl) (op_st rfl (.pointer (some ⟨w.heap.size, 0, none⟩)) (.agg #[.int .i64 n0, .int .i64 kd, .int .i64 n2, .int .i64 n3, .int .i64 n4, .bool false]) (by kernel_rfl) (by kernel_rfl) (by go_simp; rfl) ?_)
          try simp only [Act.put, List.setIfInBounds_toArray, List.set_cons_zero, List.set_cons_succ]
          refine wpAny_T (i := 12) (op := Op.assign (Operand.tmp 65)) (t := 4) (d := some 3) (v := ?_) rfl (by decide +kernel) (by decide +kernel) (by decide +kernel) (fun _ _ _ h => h) ?_ ?_
          case refine_2 => (intro _; unfold exec2; go_simp; try with_reducible rfl)
          try simp only [Act.put, List.setIfInBounds_toArray, List.set_cons_zero, List.set_cons_succ]
          refine wpAny_done (by kernel_rfl) ?_ _
          go_simp
          generalize ((((((wl.setCell ⟨w.heap.size, 0, none⟩ (.int .i64 n0)).setCell ⟨w.heap.size, 1, none⟩ (.int .i64 kd)).setCell ⟨w.heap.size, 2, none⟩ (.int .i64 n2)).setCell ⟨w.heap.size, 3, none⟩ (.int .i64 n3)).setCell ⟨w.heap.size, 4, none⟩ (.int .i64 n4)).setCell ⟨w.heap.size, 5, none⟩ (.bool false)) = wf at *
          clear r0 r1 r2 r3 r4 r5 f0 f1 f2 f3 f4 f5 q0 q1 q2 q3 q4 q5
          have r0 : wf.drew.cell? ⟨w.heap.size, 0, none⟩ = some (.int .i64 n0) := BF.out.drew.cell 0
          have r1 : wf.drew.cell? ⟨w.heap.size, 1, none⟩ = some (.int .i64 kd) := BF.out.drew.cell 1
          have r2 : wf.drew.cell? ⟨w.heap.size, 2, none⟩ = some (.int .i64 n2) := BF.out.drew.cell 2
          have r3 : wf.drew.cell? ⟨w.heap.size, 3, none⟩ = some (.int .i64 n3) := BF.out.drew.cell 3
          have r4 : wf.drew.cell? ⟨w.heap.size, 4, none⟩ = some (.int .i64 n4) := BF.out.drew.cell 4
          have r5 : wf.drew.cell? ⟨w.heap.size, 5, none⟩ = some (.bool false) := BF.out.drew.cell 5
          go_wp2_with (fail)
          refine bodyPost_ret (v := .tuple #[.agg #[.int .i64 n0, .int .i64 kd, .int .i64 n2, .int .i64 n3, .int .i64 n4, .bool false], .bool false]) (by simp [results, Tryd.results20, go_sem, *]) rfl ⟨by rw [HR], YF.out.drew⟩
end Go.Proofs.YtcpadkaljnnieaaDoor
namespace Go.Proofs.YtcpadkaljnnieaaDoor
open Go.RowKit Go.ChangeShapes Go.WideShapes Go.ChangeAt Go.Deep

theorem tent_info : (Tryd.prog.info? 50).map (fun i => (i.zero, i.size, i.bytes)) = some (some (.agg #[.int .i64 0, .int .i64 0, .int .i64 0, .int .i64 0, .int .i64 0, .bool false]), 6, 48) := by kernel_rfl
theorem words_each {e : Ent} (h : e.In) : ∀ x ∈ e.words, Plain x ∧ x.length ≤ 1000 := by
  intro x hx
  refine ⟨fun b hb => e.words_plain x hx b hb, ?_⟩
  have q1 := Lib.itoa_length_le e.worker h.worker.1 h.worker.2
  have q2 := Lib.itoa_length_le e.cell h.cell.1 h.cell.2
  have q3 := Lib.itoa_length_le e.old h.old.1 h.old.2
  have q4 := Lib.itoa_length_le e.new h.new.1 h.new.2
  have q5 := kindT_len e.kind
  have q6 : (yesT e.done).length ≤ 3 := by cases e.done <;> decide
  unfold Ent.words at hx
  split at hx
  · simp only [List.mem_cons, List.not_mem_nil, or_false] at hx
    rcases hx with rfl | rfl
    · omega
    · decide
  · simp only [List.mem_cons, List.not_mem_nil, or_false] at hx
    rcases hx with rfl | rfl | rfl | rfl | rfl | rfl <;> omega
theorem entry_line (e : Ent) (hf : e.fine = true) (hi : e.In) (w : World) (hT : Ten w) :
    Calls Tryd.prog 20 #[.string ⟨(Lib.join e.words [32]).toArray⟩] w (EntryPost (Lib.join e.words [32]) w) := by
  have hl := words_len hi
  have hs := splitC_join e.words e.words_ne e.words_clean
  have hp := words_each hi
  obtain ⟨h1, h2, h3⟩ := e.fine_parts hf
  rcases h3 with hq | ⟨hq, k1, k2, k3⟩
  · have hw2 : e.words = [Lib.itoa e.worker, [45]] := by unfold Ent.words; rw [if_pos hq]
    rw [hw2] at hs hp hl ⊢
    exact entry2_any _ _ _ hs (by omega) hp w hT
  · have hw2 : e.words = [Lib.itoa e.worker, kindT e.kind, Lib.itoa e.cell, Lib.itoa e.old, Lib.itoa e.new, yesT e.done] := by unfold Ent.words; rw [if_neg (by rw [hq]; decide)]
    cases hd : e.done with
    | true =>
      rw [hd] at hw2
      rw [hw2] at hs hp hl ⊢
      exact entry6_true _ _ _ _ _ _ k1 k2 hs (by omega) hp w hT
    | false =>
      rw [hd] at hw2
      rw [hw2] at hs hp hl ⊢
      exact entry6_false _ _ _ _ _ _ k1 k2 hs (by omega) hp w hT
theorem readE_at {l : List Ent} {k : Nat} {e : Ent} (h : l[k]? = some e) (acc : List Ent) (n : Int) : readE acc n (l.drop k) = if e.sh then readE (acc ++ [e]) (n + 1) (l.drop (k + 1)) else ([], n, 8) := by
  have hlt := (List.getElem?_eq_some_iff.1 h).1
  have he : l[k] = e := (List.getElem?_eq_some_iff.1 h).2
  rw [List.drop_eq_getElem_cons hlt, he, readE]
/-- what is told of the entries of a text -/
def ReadTo (R : List Ent × Int × Int) (w : World) (r : Ending) (w' : World) : Prop := ∃ (A : Option Addr) (c : Nat), r = .returned (.tuple #[.slice A R.1.length c, .int .i64 R.2.1, .int .i64 R.2.2]) ∧ OwV w' w.heap.size 50 6 A R.1.length c (entsL R.1) ∧ Ext w w'
set_option maxRecDepth 100000 in
set_option maxHeartbeats 1000000 in
theorem tread_any (l : List Ent) (w : World) (hl : l.length ≤ 1000) (hin : ∀ e ∈ l, e.In) (hfi : ∀ e ∈ l, e.fine = true) (hT : Ten w) :
    Calls Tryd.prog 9 #[.string ⟨(linesE l).toArray⟩] w (ReadTo (readE [] 1 l) w) := by
  have EN := Lib.hid (fun (W : World) (x : Ext w W) (e : Ent) (h : e ∈ l) => entry_line e (hfi e h) (hin e h) W (hT.ext x))
  have CU := Lib.hid (fun (W : World) (s : Txt) (h : s.length < 4294967281) => cut1_any s 10 W h)
  have LN := Lib.hid (fun (k : Nat) => linesE_len (l.drop k) (fun e he => hin e (List.mem_of_mem_drop he)))
  have SH := Lib.hid (fun (e : Ent) (h : e ∈ l) => entryT_line (hfi e h))
  obtain ⟨i0, hi, hz0, hz1, hz2⟩ := info_parts tent_info
  replace hi := Lib.hid hi
  replace hz0 := Lib.hid hz0
  replace hz1 := Lib.hid hz1
  replace hz2 := Lib.hid hz2
  have l0 : (linesE l).length ≤ 200000 := by have := LN.out 0; rw [List.drop_zero] at this; omega
  have l1 : ((linesE l).length : Int) ≤ 200000 := by omega
  clear hin hfi hT
  obtain ⟨R, hR⟩ : ∃ R, Hid (readE [] 1 l = R) := ⟨_, rfl⟩
  rw [hR.out]
  obtain ⟨s0, hs0⟩ : ∃ s0, Hid (linesE l = s0) := ⟨_, rfl⟩
  rw [hs0.out] at l0 l1 ⊢
  go_enter Tryd.func9, Tryd.ntmps9
  go_wp2_with (fail)
  go_loopw [0, 5, 6] (fun sv ov nv wr => ∃ (k : Nat) (A : Option Addr) (c : Nat), sv = .string ⟨(linesE (l.drop k)).toArray⟩ ∧ ov = .slice A k c ∧ nv = .int .i64 (k + 1) ∧ k ≤ l.length ∧ Hid (R = readE (l.take k) (k + 1) (l.drop k)) ∧ Hid (OwV wr w.heap.size 50 6 A k c (entsL (l.take k))) ∧ Hid (Ext w wr)) (fun _ _ nv _ => l.length + 1 - (intOf nv).toNat)
  case atStart => exact ⟨0, none, 0, by rw [List.drop_zero, hs0.out], rfl, rfl, by omega, Lib.hid (by rw [List.drop_zero, List.take_zero]; exact hR.out.symm), Lib.hid (OwV.nil _ _ _ _), Lib.hid (by (repeat (first | assumption | exact Ext.rf _ | apply Ext.drew | apply Ext.drewN | apply Ext.alloc)))⟩
  case round =>
    clear l0 l1 hR hs0
    obtain ⟨k, A, c, rfl, rfl, rfl, hk, HR, HO, Y⟩ := hrel
    by_cases hlt : k < l.length
    · obtain ⟨e, he⟩ : ∃ e, l[k]? = some e := ⟨_, List.getElem?_eq_getElem hlt⟩
      have hem := List.mem_of_getElem? he
      have hD : l.drop k = e :: l.drop (k + 1) := by rw [List.drop_eq_getElem_cons hlt]; congr 1; exact (List.getElem?_eq_some_iff.1 he).2
      have hTK : Hid (l.take (k + 1) = l.take k ++ [e]) := Lib.hid (by rw [List.take_add_one, he]; rfl)
      have hne : linesE (l.drop k) ≠ [] := by rw [hD]; exact linesE_ne _ _
      have CX := Lib.hid (fun (W : World) => CU.out W (linesE (l.drop k)) (by have := LN.out k; rw [List.length_drop] at this; omega))
      have HR2 := HR.out.trans (readE_at he (l.take k) (k + 1))
      have hcut : cutC 10 (linesE (l.drop k)) = (Lib.join e.words [32], linesE (l.drop (k + 1)), true) := by rw [hD, cut_lines]
      rw [hcut] at CX
      have EX := Lib.hid (fun (W : World) (x : Ext w W) => EN.out W x e hem)
      unfold EntryPost entC at EX
      obtain ⟨s1, s2⟩ := SH.out e hem
      cases hsh : e.sh with
      | false =>
        rw [hsh] at s1 HR2
        rw [if_neg (by decide)] at HR2
        rw [s1] at EX
        have HR3 := Lib.hid HR2
        unfold txS at CX
        generalize (entryT (Lib.join e.words [32])).1 = E at *
        generalize Lib.join e.words [32] = q at *
        generalize linesE (l.drop (k + 1)) = rest at *
        generalize linesE (l.drop k) = S at *
        have hne2 : S.isEmpty = false := by cases S <;> simp_all
        clear s1 s2 hsh HR HR2 he hD hcut CU LN SH EN hTK
        go_wp2_with (first | (go_at_call 19; with_reducible (refine (CX.out _).mono ?_); rintro r w2 ⟨rfl, x2⟩; have y2 := Ext.tr (a := wr) (by (repeat (first | assumption | exact Ext.rf _ | apply Ext.drew | apply Ext.drewN | apply Ext.alloc))) x2) | (go_at_call 20; with_reducible (refine (EX.out _ (Y.out.tr (by (repeat (first | assumption | exact Ext.rf _ | apply Ext.drew | apply Ext.drewN | apply Ext.alloc))))).mono ?_); rintro r w3 ⟨rfl, x3⟩; have y3 := Ext.tr (a := wr) (by (repeat (first | assumption | exact Ext.rf _ | apply Ext.drew | apply Ext.drewN | apply Ext.alloc))) x3))
        go_ret3
        rw [HR3.out]
        exact ⟨none, 0, rfl, OwV.nil _ _ _ _, Y.out.tr (by (repeat (first | assumption | exact Ext.rf _ | apply Ext.drew | apply Ext.drewN | apply Ext.alloc)))⟩
      | true =>
        rw [hsh] at s1 s2 HR2
        rw [if_pos rfl] at HR2
        rw [s1, s2 rfl] at EX
        have HR3 : Hid (R = readE (l.take (k + 1)) ((k + 1 : Nat) + 1) (l.drop (k + 1))) := Lib.hid (by rw [hTK.out, HR2]; congr 1)
        unfold txS at CX
        generalize Lib.join e.words [32] = q at *
        generalize linesE (l.drop k) = S at *
        have hne2 : S.isEmpty = false := by cases S <;> simp_all
        have kq : k < 1000 := by omega
        clear s1 s2 hsh HR HR2 he hD hcut CU LN SH EN
        go_wp2_with (first | (go_at_call 19; with_reducible (refine (CX.out _).mono ?_); rintro r w2 ⟨rfl, x2⟩; have y2 := Ext.tr (a := wr) (by (repeat (first | assumption | exact Ext.rf _ | apply Ext.drew | apply Ext.drewN | apply Ext.alloc))) x2) | (go_at_call 20; with_reducible (refine (EX.out _ (Y.out.tr (by (repeat (first | assumption | exact Ext.rf _ | apply Ext.drew | apply Ext.drewN | apply Ext.alloc))))).mono ?_); rintro r w3 ⟨rfl, x3⟩; have y3 := Ext.tr (a := wr) (by (repeat (first | assumption | exact Ext.rf _ | apply Ext.drew | apply Ext.drewN | apply Ext.alloc))) x3) | (at_builtin; refine wpl_app_v _ (e := 50) Tryd.underlying26 hi.out hz0.out hz1.out hz2.out (by simp [Value.cells]) (by omega) rfl _ _ rfl w.heap.size A k c (entsL (l.take k)) _ 1 1 (entL e) rfl rfl (HO.out.ext (by (repeat (first | assumption | exact Ext.rf _ | apply Ext.drew | apply Ext.drewN | apply Ext.alloc)))) (RdV.blk (by (first | exact .new (by simp) | exact .drew (.new (by simp)) | exact .alloc (.new (by simp)) _ | exact .drew (.alloc (.new (by simp)) _) | exact .alloc (.alloc (.new (by simp)) _) _ | exact .drew (.alloc (.alloc (.new (by simp)) _) _) | (repeat (first | assumption | (refine Blk.new ?_; (focus (simp; done))) | apply Blk.drew | apply Blk.drewN | apply Blk.alloc))))).rdC (by rfl) (by simp [Value.oneCell', entL]) (by simp only [maxLen]; omega) (by omega) (by have := (Y.out.tr y3).size; simp; omega) ?_; rintro A6 c6 w6 o6 g6 _))
        have M6 : ModT w.heap.size [50] wr w6 := (ModT.of_ext (by (repeat (first | assumption | exact Ext.rf _ | apply Ext.drew | apply Ext.drewN | apply Ext.alloc)))).tr ((HO.out.ext (by (repeat (first | assumption | exact Ext.rf _ | apply Ext.drew | apply Ext.drewN | apply Ext.alloc)))).grownT g6)
        have O6 : Hid (OwV w6 w.heap.size 50 6 A6 (k + 1) c6 (entsL (l.take (k + 1)))) := by rw [hTK.out, entsL_snoc]; exact Lib.hid o6
        have Y6 := Lib.hid (Y.out.modT M6 (Nat.le_refl _))
        clear M6 o6 g6 x2 x3 y2 y3 HO
        go_roundw
        case rel => exact ⟨k + 1, A6, c6, rfl, rfl, by go_num, by omega, HR3, O6, Y6⟩
        case measure => simp [intOf]; omega
    · obtain rfl : k = l.length := by omega
      have HR3 : Hid (R = (l, 0, 0)) := Lib.hid (by have := HR.out; rwa [List.take_length, List.drop_length, readE] at this)
      have HO2 : Hid (OwV wr w.heap.size 50 6 A l.length c (entsL l)) := by have := HO.out; rw [List.take_length] at this; exact Lib.hid this
      have hS : linesE (l.drop l.length) = [] := by rw [List.drop_length]; rfl
      rw [hS]
      clear HR HO CU EN LN SH hS
      go_wp2_with (fail)
      go_ret3
      rw [HR3.out]
      exact ⟨A, c, rfl, HO2.out, Y.out⟩
/-! the law's own example -/
def exA : Ent := ⟨0, 3, 3, 1, 2, true⟩
def exB : Ent := ⟨2, 0, 0, 0, 0, false⟩
theorem exA_in : exA.In := ⟨by unfold i64 exA; simp, by unfold i64 exA; simp, by unfold i64 exA; simp, by unfold i64 exA; simp, by unfold i64 exA; simp⟩
theorem exB_in : exB.In := ⟨by unfold i64 exB; simp, by unfold i64 exB; simp, by unfold i64 exB; simp, by unfold i64 exB; simp, by unfold i64 exB; simp⟩
theorem itoa_dig {n : Nat} (h : n < 10) : Lib.itoa (n : Int) = [UInt8.ofNat (48 + n)] := by
  unfold Lib.itoa
  rw [if_neg (by omega), Int.toNat_natCast, Lib.decDigits, dif_pos h]
theorem exA_write : writeE [exA] = ([48, 32, 115, 119, 97, 112, 32, 51, 32, 49, 32, 50, 32, 121, 101, 115, 10], 0) := by
  have h0 := itoa_dig (n := 0) (by omega)
  have h1 := itoa_dig (n := 1) (by omega)
  have h2 := itoa_dig (n := 2) (by omega)
  have h3 := itoa_dig (n := 3) (by omega)
  have hw : exA.words = [[48], [115, 119, 97, 112], [51], [49], [50], [121, 101, 115]] := by
    unfold Ent.words
    rw [if_neg (by decide)]
    show [Lib.itoa ((0 : Nat) : Int), kindT 3, Lib.itoa ((3 : Nat) : Int), Lib.itoa ((1 : Nat) : Int), Lib.itoa ((2 : Nat) : Int), yesT true] = _
    rw [h0, h1, h2, h3]
    decide
  rw [writeE_good (by decide) (by decide)]
  unfold linesE
  simp only [List.flatMap_cons, List.flatMap_nil, hw]
  decide
theorem exB_lines : linesE [exB] = [50, 32, 45, 10] := by
  have h2 := itoa_dig (n := 2) (by omega)
  have hw : exB.words = [[50], [45]] := by
    unfold Ent.words
    rw [if_pos (by decide)]
    show [Lib.itoa ((2 : Nat) : Int), [45]] = _
    rw [h2]
    decide
  unfold linesE
  simp only [List.flatMap_cons, List.flatMap_nil, hw]
  decide
theorem exB_read : readE [] 1 [exB] = ([exB], 0, 0) := by decide
end Go.Proofs.YtcpadkaljnnieaaDoor
namespace Go.Proofs.YtcpadkaljnnieaaDoor
open Go.RowKit Go.ChangeShapes Go.WideShapes Go.ChangeAt Go.Deep

set_option maxRecDepth 100000 in
set_option maxHeartbeats 1000000 in
theorem traces_any (w : World) (hT : Ten w) :
    Calls Tryd.prog 8 #[] w fun e w' => e = .returned (.bool true) ∧ Ext w w' := by
  have TW := Lib.hid (fun (W : World) (x : Ext w W) (A : Option Addr) (c : Nat) (h : RdV W 50 A (entsL [exA])) => twrite_any A c [exA] W h (by decide) (fun e he => by rw [List.mem_singleton.1 he]; exact exA_in) (hT.ext x))
  rw [exA_write] at TW
  have TR := Lib.hid (fun (W : World) (x : Ext w W) => tread_any [exB] W (by decide) (fun e he => by rw [List.mem_singleton.1 he]; exact exB_in) (fun e he => by rw [List.mem_singleton.1 he]; decide) (hT.ext x))
  rw [exB_read, exB_lines] at TR
  unfold ReadTo at TR
  simp only [List.length_cons, List.length_nil, Nat.zero_add] at TR
  unfold txS at TW
  clear hT
  go_enter Tryd.func8, Tryd.ntmps8
  go_wp2_with (fail)
  refine (TW.out _ (by (repeat (first | assumption | exact Ext.rf _ | apply Ext.drew | apply Ext.drewN | apply Ext.alloc))) (some ⟨w.heap.size, 0, none⟩) 1 (RdV.blk (by (first | exact .new (by simp) | exact .drew (.new (by simp)) | exact .alloc (.new (by simp)) _ | exact .drew (.alloc (.new (by simp)) _) | exact .alloc (.alloc (.new (by simp)) _) _ | exact .drew (.alloc (.alloc (.new (by simp)) _) _) | (repeat (first | assumption | (refine Blk.new ?_; (focus (simp; done))) | apply Blk.drew | apply Blk.drewN | apply Blk.alloc)))))).mono ?_
  rintro r w2 ⟨rfl, x2⟩
  have y2 := Lib.hid (Ext.tr (a := w) (by (repeat (first | assumption | exact Ext.rf _ | apply Ext.drew | apply Ext.drewN | apply Ext.alloc))) x2)
  clear x2
  go_wp2_with (fail)
  refine (TR.out _ (y2.out.tr (by (repeat (first | assumption | exact Ext.rf _ | apply Ext.drew | apply Ext.drewN | apply Ext.alloc))))).mono ?_
  rintro r w3 ⟨A, c, rfl, o3, x3⟩
  have y3 := Lib.hid (Ext.tr (a := w) (y2.out.tr (by (repeat (first | assumption | exact Ext.rf _ | apply Ext.drew | apply Ext.drewN | apply Ext.alloc)))) x3)
  obtain ⟨b, off, e, rfl, hb, he, c0, c1, c2, c3, c4, c5⟩ := o3.read.ent (k := 0) (by decide)
  have hee : e = exB := by have := he.out; simpa using this.symm
  rw [hee] at c0 c1 c2 c3 c4 c5
  simp only [exB, Nat.zero_mul, Nat.add_zero] at c0 c1 c2 c3 c4 c5
  clear o3 x3 he hee
  go_wp2_with (fail)
  go_ret
  exact ⟨rfl, y3.out.tr (by (repeat (first | assumption | exact Ext.rf _ | apply Ext.drew | apply Ext.drewN | apply Ext.alloc)))⟩
def ToPost (l : List Ent) (w : World) (r : Ending) (w' : World) : Prop := ∃ (A : Option Addr) (c : Nat), r = .returned (.slice A l.length c) ∧ OwV w' w.heap.size 50 6 A l.length c (entsL l) ∧ Ext w w'
set_option maxRecDepth 100000 in
set_option maxHeartbeats 1000000 in
theorem to_any (A : Option Addr) (c : Nat) (l : List Ent) (w : World) (hA : RdV w 39 A (entsL l)) (hl : l.length ≤ 1000) :
    Calls Tryd.prog 6 #[.slice A l.length c] w (ToPost l w) := by
  obtain ⟨i0, hi, hz0, hz1, hz2⟩ := info_parts tent_info
  replace hi := Lib.hid hi
  replace hz0 := Lib.hid hz0
  replace hz1 := Lib.hid hz1
  replace hz2 := Lib.hid hz2
  have RA := Lib.hid (fun (W : World) (x : Ext w W) => hA.ext x)
  clear hA
  go_enter Tryd.func6, Tryd.ntmps6
  go_wp2_with (fail)
  go_loopw [3, 4] (fun ov iv wr => ∃ (k : Nat) (B : Option Addr) (d : Nat), ov = .slice B k d ∧ iv = .int .i64 k ∧ k ≤ l.length ∧ Hid (OwV wr w.heap.size 50 6 B k d (entsL (l.take k))) ∧ Hid (Ext w wr)) (fun _ iv _ => l.length - (intOf iv).toNat)
  case atStart => exact ⟨0, none, 0, rfl, rfl, by omega, Lib.hid (OwV.nil _ _ _ _), Lib.hid (by (repeat (first | assumption | exact Ext.rf _ | apply Ext.drew | apply Ext.drewN | apply Ext.alloc)))⟩
  case round =>
    obtain ⟨k, B, d, rfl, rfl, hk, HO, Y⟩ := hrel
    by_cases hlt : k < l.length
    · obtain ⟨b, off, e, rfl, hb, he, c0, c1, c2, c3, c4, c5⟩ := (RA.out _ Y.out).ent hlt
      have hTK : Hid (l.take (k + 1) = l.take k ++ [e]) := Lib.hid (by rw [List.take_add_one, he.out]; rfl)
      clear he
      go_wp2_with (at_builtin; refine wpl_app_v _ (e := 50) Tryd.underlying26 hi.out hz0.out hz1.out hz2.out (by simp [Value.cells]) (by omega) rfl _ _ rfl w.heap.size B k d (entsL (l.take k)) _ 1 1 (entL e) rfl rfl (HO.out.ext (by (repeat (first | assumption | exact Ext.rf _ | apply Ext.drew | apply Ext.drewN | apply Ext.alloc)))) (RdV.blk (by (first | exact .new (by simp) | exact .drew (.new (by simp)) | exact .alloc (.new (by simp)) _ | exact .drew (.alloc (.new (by simp)) _) | exact .alloc (.alloc (.new (by simp)) _) _ | exact .drew (.alloc (.alloc (.new (by simp)) _) _) | (repeat (first | assumption | (refine Blk.new ?_; (focus (simp; done))) | apply Blk.drew | apply Blk.drewN | apply Blk.alloc))))).rdC (by rfl) (by simp [Value.oneCell', entL]) (by simp only [maxLen]; omega) (by omega) (by have := Y.out.size; simp; omega) ?_; rintro A6 c6 w6 o6 g6 _)
      have M6 : ModT w.heap.size [50] wr w6 := (ModT.of_ext (by (repeat (first | assumption | exact Ext.rf _ | apply Ext.drew | apply Ext.drewN | apply Ext.alloc)))).tr ((HO.out.ext (by (repeat (first | assumption | exact Ext.rf _ | apply Ext.drew | apply Ext.drewN | apply Ext.alloc)))).grownT g6)
      have O6 : Hid (OwV w6 w.heap.size 50 6 A6 (k + 1) c6 (entsL (l.take (k + 1)))) := by rw [hTK.out, entsL_snoc]; exact Lib.hid o6
      have Y6 := Lib.hid (Y.out.modT M6 (Nat.le_refl _))
      clear M6 o6 g6 HO
      go_roundw
      case rel => exact ⟨k + 1, A6, c6, rfl, by go_num, by omega, O6, Y6⟩
      case measure => simp [intOf]; omega
    · obtain rfl : k = l.length := by omega
      have HO2 : Hid (OwV wr w.heap.size 50 6 B l.length d (entsL l)) := by have := HO.out; rw [List.take_length] at this; exact Lib.hid this
      clear HO
      go_wp2_with (fail)
      go_ret
      exact ⟨B, d, rfl, HO2.out, Y.out⟩
end Go.Proofs.YtcpadkaljnnieaaDoor
namespace Go.Proofs.YtcpadkaljnnieaaDoor
open Go.Shelf

def slsort_ren : Go.Shelf.Ren := ⟨fun | 189 => 24 | 125 => 37 | 257 => 36 | 128 => 58 | 129 => 59 | 294 => 49 | 295 => 50 | 296 => 51 | 297 => 52 | 298 => 53 | 299 => 54 | 216 => 55 | 300 => 56 | 301 => 57 | 328 => 74 | 329 => 75 | 330 => 76 | 331 => 77 | 332 => 78 | 215 => 79 | 343 => 89 | n => n, fun | 28 => 68 | 3 => 3 | 46 => 83 | 0 => 0 | 51 => 104 | 53 => 106 | 4 => 4 | 183 => 97 | 182 => 96 | 131 => 78 | 5 => 5 | 9 => 9 | 218 => 112 | 222 => 116 | 228 => 127 | 229 => 128 | n => n, fun n => n⟩
set_option maxRecDepth 100000 in
theorem slsort : Lays.n189 Tryd.prog slsort_ren where
  mixed := by kernel_rfl
  f125 := Tryd.func37.trans (congrArg some (by kernel_rfl))
  f128 := Tryd.func58.trans (congrArg some (by kernel_rfl))
  f129 := Tryd.func59.trans (congrArg some (by kernel_rfl))
  f189 := Tryd.func24.trans (congrArg some (by kernel_rfl))
  f215 := Tryd.func79.trans (congrArg some (by kernel_rfl))
  f216 := Tryd.func55.trans (congrArg some (by kernel_rfl))
  f257 := Tryd.func36.trans (congrArg some (by kernel_rfl))
  f294 := Tryd.func49.trans (congrArg some (by kernel_rfl))
  f295 := Tryd.func50.trans (congrArg some (by kernel_rfl))
  f296 := Tryd.func51.trans (congrArg some (by kernel_rfl))
  f297 := Tryd.func52.trans (congrArg some (by kernel_rfl))
  f298 := Tryd.func53.trans (congrArg some (by kernel_rfl))
  f299 := Tryd.func54.trans (congrArg some (by kernel_rfl))
  f300 := Tryd.func56.trans (congrArg some (by kernel_rfl))
  f301 := Tryd.func57.trans (congrArg some (by kernel_rfl))
  f328 := Tryd.func74.trans (congrArg some (by kernel_rfl))
  f329 := Tryd.func75.trans (congrArg some (by kernel_rfl))
  f330 := Tryd.func76.trans (congrArg some (by kernel_rfl))
  f331 := Tryd.func77.trans (congrArg some (by kernel_rfl))
  f332 := Tryd.func78.trans (congrArg some (by kernel_rfl))
  f343 := Tryd.func89.trans (congrArg some (by kernel_rfl))
  t0 := Tryd.underlying0
  a0 := Tryd.isAgg0
  z0 := Tryd.sizeOf0
  v0 := Tryd.zeroValue0
  t3 := Tryd.underlying3
  a3 := Tryd.isAgg3
  z3 := Tryd.sizeOf3
  v3 := Tryd.zeroValue3
  t4 := Tryd.underlying4
  a4 := Tryd.isAgg4
  z4 := Tryd.sizeOf4
  v4 := Tryd.zeroValue4
  t5 := Tryd.underlying5
  a5 := Tryd.isAgg5
  z5 := Tryd.sizeOf5
  v5 := Tryd.zeroValue5
  t9 := Tryd.underlying9
  a9 := Tryd.isAgg9
  z9 := Tryd.sizeOf9
  v9 := Tryd.zeroValue9
  t28 := Tryd.underlying68
  a28 := Tryd.isAgg68
  z28 := Tryd.sizeOf68
  v28 := Tryd.zeroValue68
  t46 := Tryd.underlying83
  a46 := Tryd.isAgg83
  z46 := Tryd.sizeOf83
  v46 := Tryd.zeroValue83
  t51 := Tryd.underlying104
  a51 := Tryd.isAgg104
  z51 := Tryd.sizeOf104
  v51 := Tryd.zeroValue104
  t53 := Tryd.underlying106
  a53 := Tryd.isAgg106
  z53 := Tryd.sizeOf106
  v53 := Tryd.zeroValue106
  t131 := Tryd.underlying78
  a131 := Tryd.isAgg78
  z131 := Tryd.sizeOf78
  v131 := Tryd.zeroValue78
  t182 := Tryd.underlying96
  a182 := Tryd.isAgg96
  z182 := Tryd.sizeOf96
  v182 := Tryd.zeroValue96
  t183 := Tryd.underlying97
  a183 := Tryd.isAgg97
  z183 := Tryd.sizeOf97
  v183 := Tryd.zeroValue97
  t218 := Tryd.underlying112
  a218 := Tryd.isAgg112
  z218 := Tryd.sizeOf112
  v218 := Tryd.zeroValue112
  t222 := Tryd.underlying116
  a222 := Tryd.isAgg116
  z222 := Tryd.sizeOf116
  v222 := Tryd.zeroValue116
  t228 := Tryd.underlying127
  a228 := Tryd.isAgg127
  z228 := Tryd.sizeOf127
  v228 := Tryd.zeroValue127
  t229 := Tryd.underlying128
  a229 := Tryd.isAgg128
  z229 := Tryd.sizeOf128
  v229 := Tryd.zeroValue128
end Go.Proofs.YtcpadkaljnnieaaDoor
namespace Go.Proofs.YtcpadkaljnnieaaDoor
open Go.Sort Go.RowKit Go.ChangeShapes Go.WideShapes Go.ChangeAt Go.Deep

def sortN (xs : List Int) : List Int := xs.mergeSort fun x y => decide (x ≤ y)
theorem sorti_some (base g c : Nat) (xs : List Int) (w : World) (h : OwI w base (some ⟨g, 0, none⟩) c xs) (hn : xs.length < 4611686018427387904) :
    Calls Tryd.prog 24 #[.slice (some ⟨g, 0, none⟩) xs.length c] w fun e w' => e = .returned (.tuple #[]) ∧ OwI w' base (some ⟨g, 0, none⟩) c (sortN xs) ∧ ModT base [3] w w' := by
  rcases h.cases with ⟨e, _⟩ | ⟨g', cur, e, hb, hg, hnc, hcm, hs, ht⟩
  · cases e
  obtain rfl : g = g' := by simpa using e
  have hcur : ∀ j, j < xs.length → cur[j]? = (xs.map (Value.int .i64))[j]? := fun j hj => by
    have h1 : (cur.toList.take (xs.length * 1))[j]? = cur.toList[j]? := List.getElem?_take_of_lt (by omega)
    rw [ht] at h1
    rw [h1]
    simp
  have hH : Holds (Value.int .i64) w g 0 xs.toArray := fun j hj => by
    have hj' : j < xs.length := by simpa using hj
    refine ⟨?_, by simp [World.frozen?, hg]⟩
    rw [Nat.zero_add, cell_of_row w g _ cur _ (0, 0) hg, hcur j hj', getElem!_pos _ j hj]
    simp [hj']
  have hblk : g < w.heap.size := (Array.getElem?_eq_some_iff.1 hg).1
  have C : Calls Tryd.prog 24 #[.slice (some ⟨g, 0, none⟩) xs.length c] w fun e w' =>
      e = .returned (.tuple #[]) ∧ ∃ n os, w' = grow (putRow (Value.int .i64) (Sort.ahead w n) g 0 (sortN xs).toArray) os :=
    calls_of_every_depth fun D => AnyS.slices_Sort_int_in (ρ := slsort_ren) slsort D g 0 c xs w hH hblk hn
  refine C.mono ?_
  rintro e w' ⟨rfl, m, os, rfl⟩
  have hl : (sortN xs).length = xs.length := List.length_mergeSort _
  refine ⟨rfl, ?_, ?_⟩
  · refine .mk (cur := putCells (Value.int .i64) 0 (sortN xs).toArray cur) hb ?_ (by rw [hl]; exact hnc) hcm (by simp [putCells, hs]) ?_
    · unfold putRow mapBlock grow
      simp only [Array.getElem?_append_left (show g < (w.heap.modify g _).size by simpa using hblk)]
      rw [show (Sort.ahead w m).heap = w.heap from rfl, Array.getElem?_append_left (by simpa using hblk), Array.getElem?_modify, if_pos rfl, hg]
      rfl
    · refine List.ext_getElem? fun j => ?_
      by_cases hj : j < xs.length
      · rw [List.getElem?_take_of_lt (by rw [hl]; omega)]
        have hjc : j < cur.size := by rw [hs]; omega
        have hj2 : j < (sortN xs).length := by rw [hl]; exact hj
        simp only [putCells, Array.getElem?_toList, Array.getElem?_mapIdx]
        rw [Array.getElem?_eq_getElem hjc]
        simp [hj2]
      · rw [List.getElem?_eq_none (by rw [List.length_take, hl]; omega), List.getElem?_eq_none (by rw [List.length_map, hl]; omega)]
  · refine ⟨rfl, rfl, rfl, ?_, fun k hk hne => ?_⟩
    · simp [putRow, mapBlock, grow, Sort.ahead]
    · have hkg : k ≠ g := fun e => hne (e ▸ ⟨hb, cur, _, hg, by simp⟩)
      unfold putRow mapBlock grow
      rw [Array.getElem?_append_left (by simpa [Sort.ahead] using hk), Array.getElem?_modify, if_neg (fun e => hkg e.symm)]
      rfl
theorem sorti_any (base c : Nat) (A : Option Addr) (xs : List Int) (w : World) (h : OwI w base A c xs) (hn : xs.length < 4611686018427387904) :
    Calls Tryd.prog 24 #[.slice A xs.length c] w fun e w' => e = .returned (.tuple #[]) ∧ OwI w' base A c (sortN xs) ∧ ModT base [3] w w' := by
  rcases h.cases with ⟨rfl, rfl, rfl⟩ | ⟨g, cur, rfl, _⟩
  · refine Calls.mono (Any.slices_Sort_int_none (ρ := slsort_ren) slsort none 0 w) ?_
    rintro e w' ⟨rfl, rfl⟩
    exact ⟨rfl, by rw [show sortN [] = [] from List.mergeSort_nil]; exact OwI.nil _ _, ModT.rf _⟩
  · exact sorti_some base g c xs w h hn
end Go.Proofs.YtcpadkaljnnieaaDoor
namespace Go.Proofs.YtcpadkaljnnieaaDoor

/-- of the cells pre (all of them: cs), best is the one that stands oftenest in cs, the least of those; top: how often -/
def BestIn (cs pre : List Int) (best : Int) (top : Nat) : Prop :=
  (pre = [] ∧ best = -1 ∧ top = 0) ∨ (best ∈ pre ∧ top = cs.count best ∧ ∀ c ∈ pre, cs.count c < top ∨ (cs.count c = top ∧ best ≤ c))
theorem BestIn.start (cs : List Int) : BestIn cs [] (-1) 0 := .inl ⟨rfl, rfl, rfl⟩
theorem BestIn.uniq {cs ds : List Int} {b d : Int} {t u : Nat} (hp : cs.Perm ds) (h : BestIn cs cs b t) (k : BestIn ds ds d u) : b = d ∧ t = u := by
  have hc : ∀ c, cs.count c = ds.count c := fun c => hp.count_eq c
  rcases h with ⟨e, rfl, rfl⟩ | ⟨h1, h2, h3⟩
  · rcases k with ⟨_, rfl, rfl⟩ | ⟨k1, _, _⟩
    · exact ⟨rfl, rfl⟩
    · exact absurd (hp.mem_iff.2 k1) (by rw [e]; exact List.not_mem_nil)
  · rcases k with ⟨e, rfl, rfl⟩ | ⟨k1, k2, k3⟩
    · exact absurd (hp.mem_iff.1 h1) (by rw [e]; exact List.not_mem_nil)
    · have a := h3 d (hp.mem_iff.2 k1)
      have b' := k3 b (hp.mem_iff.1 h1)
      rw [hc] at h2 a
      rw [← k2] at a
      rw [← h2] at b'
      omega
theorem BestIn.pos {cs pre : List Int} {b : Int} {t : Nat} (hm : ∀ c ∈ pre, c ∈ cs) (h : BestIn cs pre b t) : t = 0 ↔ pre = [] := by
  rcases h with ⟨e, _, rfl⟩ | ⟨h1, h2, _⟩
  · simp [e]
  · have := List.count_pos_iff.2 (hm b h1)
    constructor
    · omega
    · rintro rfl; exact absurd h1 List.not_mem_nil
/-- one more: as the document goes on -/
theorem BestIn.snoc {cs pre : List Int} {b : Int} {t : Nat} {c : Int} (hc : c ∈ cs) (h : BestIn cs pre b t) :
    BestIn cs (pre ++ [c]) (if t < cs.count c ∨ (cs.count c = t ∧ c < b) then c else b) (if t < cs.count c ∨ (cs.count c = t ∧ c < b) then cs.count c else t) := by
  have p := List.count_pos_iff.2 hc
  right
  rcases h with ⟨rfl, rfl, rfl⟩ | ⟨h1, h2, h3⟩
  · rw [if_pos (.inl p), if_pos (.inl p)]
    refine ⟨by simp, rfl, fun x hx => ?_⟩
    obtain rfl : x = c := by simpa using hx
    exact .inr ⟨rfl, Int.le_refl _⟩
  · split
    · rename_i hq
      refine ⟨by simp, rfl, fun x hx => ?_⟩
      rcases List.mem_append.1 hx with hx | hx
      · have := h3 x hx
        omega
      · obtain rfl : x = c := by simpa using hx
        exact .inr ⟨rfl, Int.le_refl _⟩
    · rename_i hq
      refine ⟨by simp [h1], h2, fun x hx => ?_⟩
      rcases List.mem_append.1 hx with hx | hx
      · exact h3 x hx
      · obtain rfl : x = c := by simpa using hx
        omega
/-- it rises -/
def Up (ss : List Int) : Prop := ss.Pairwise (· ≤ ·)
/-- where a run ends: as the program goes on; m cells of the same value x lie before, all that is behind is greater -/
theorem BestIn.run {ss pre post : List Int} {b : Int} {t : Nat} {x : Int} {m : Nat} (e : ss = pre ++ (List.replicate (m + 1) x ++ post)) (h1 : ∀ y ∈ pre, y < x) (h2 : ∀ y ∈ post, x < y) (h : BestIn ss pre b t) :
    BestIn ss (pre ++ List.replicate (m + 1) x) (if t < m + 1 then x else b) (if t < m + 1 then m + 1 else t) := by
  have n1 : pre.count x = 0 := List.count_eq_zero.2 fun h => absurd (h1 x h) (by omega)
  have n2 : post.count x = 0 := List.count_eq_zero.2 fun h => absurd (h2 x h) (by omega)
  have hc : ss.count x = m + 1 := by rw [e]; simp [n1, n2]
  right
  rcases h with ⟨rfl, rfl, rfl⟩ | ⟨k1, k2, k3⟩
  · rw [if_pos (by omega), if_pos (by omega)]
    refine ⟨by simp, hc.symm, fun y hy => ?_⟩
    obtain rfl : y = x := by simpa using hy
    exact .inr ⟨hc, Int.le_refl _⟩
  · split
    · rename_i hq
      refine ⟨by simp, hc.symm, fun y hy => ?_⟩
      rcases List.mem_append.1 hy with hy | hy
      · have := k3 y hy
        omega
      · obtain rfl : y = x := by simpa using hy
        exact .inr ⟨hc, Int.le_refl _⟩
    · rename_i hq
      refine ⟨by simp [k1], k2, fun y hy => ?_⟩
      rcases List.mem_append.1 hy with hy | hy
      · exact k3 y hy
      · obtain rfl : y = x := by simpa using hy
        have := h1 b k1
        omega
/-- all before a place are less than all from it on -/
def Edge (ss : List Int) (k : Nat) : Prop := ∀ y ∈ ss.take k, ∀ z ∈ ss.drop k, y < z
theorem Edge.start (ss : List Int) : Edge ss 0 := fun y hy => by simp at hy
theorem run_split {ss : List Int} {f t : Nat} {x : Int} (hf : f < t) (ht : t ≤ ss.length) (hx : ∀ j, f ≤ j → j < t → ss[j]? = some x) : ss.take t = ss.take f ++ List.replicate (t - f) x := by
  refine List.ext_getElem? fun j => ?_
  rw [List.getElem?_take]
  by_cases h1 : j < t
  · rw [if_pos h1]
    by_cases h2 : j < f
    · rw [List.getElem?_append_left (by simp; omega), List.getElem?_take, if_pos h2]
    · rw [List.getElem?_append_right (by simp; omega), List.getElem?_replicate, hx j (by omega) h1]
      simp
      omega
  · rw [if_neg h1, List.getElem?_eq_none]
    simp
    omega
theorem BestIn.round {ss : List Int} (hu : Up ss) {f t : Nat} {x : Int} {b : Int} {top : Nat} (hf : f < t) (ht : t ≤ ss.length) (hx : ∀ j, f ≤ j → j < t → ss[j]? = some x) (hn : ∀ y, ss[t]? = some y → y ≠ x)
    (hE : Edge ss f) (h : BestIn ss (ss.take f) b top) : Edge ss t ∧ BestIn ss (ss.take t) (if top < t - f then x else b) (if top < t - f then t - f else top) := by
  have e := run_split hf ht hx
  obtain ⟨m, hm⟩ : ∃ m, t - f = m + 1 := ⟨t - f - 1, by omega⟩
  have hxd : x ∈ ss.drop f := by
    have := hx f (Nat.le_refl _) hf
    refine List.mem_of_getElem? (i := 0) ?_
    rw [List.getElem?_drop]
    simpa using this
  have h1 : ∀ y ∈ ss.take f, y < x := fun y hy => hE y hy x hxd
  have hub : ∀ y ∈ ss.take t, ∀ z ∈ ss.drop t, y ≤ z := by
    have := hu
    unfold Up at this
    rw [← List.take_append_drop t ss, List.pairwise_append] at this
    exact this.2.2
  have hut : (ss.drop t).Pairwise (· ≤ ·) := List.Pairwise.sublist (List.drop_sublist _ _) hu
  have hxt : x ∈ ss.take t := by rw [e, hm]; simp
  have h2 : ∀ z ∈ ss.drop t, x < z := by
    cases hd : ss.drop t with
    | nil => intro z hz; exact absurd hz List.not_mem_nil
    | cons y r =>
      have hy : ss[t]? = some y := by
        have : (ss.drop t)[0]? = some y := by rw [hd]; rfl
        rwa [List.getElem?_drop] at this
      have hxy := hub x hxt y (by rw [hd]; simp)
      have hne := hn y hy
      rw [hd] at hut
      intro z hz
      rcases List.mem_cons.1 hz with rfl | hz
      · omega
      · have := (List.pairwise_cons.1 hut).1 z hz
        omega
  constructor
  · intro y hy z hz
    rw [e] at hy
    rcases List.mem_append.1 hy with hy | hy
    · have := h1 y hy
      have := h2 z hz
      omega
    · obtain ⟨_, rfl⟩ := List.mem_replicate.1 hy
      exact h2 z hz
  · rw [e, hm]
    refine BestIn.run (post := ss.drop t) ?_ h1 h2 h
    rw [← List.append_assoc, ← hm, ← e, List.take_append_drop]
end Go.Proofs.YtcpadkaljnnieaaDoor
namespace Go.Proofs.YtcpadkaljnnieaaDoor
open Go.RowKit Go.ChangeShapes Go.WideShapes Go.ChangeAt Go.Deep

def b2i (b : Bool) : Int := if b then 1 else 0
/-- how many entries there are of which this is so -/
def cntE (p : Ent → Bool) (l : List Ent) : Int := ((l.filter p).length : Nat)
theorem cntE_snoc (p : Ent → Bool) (l : List Ent) (e : Ent) : cntE p (l ++ [e]) = cntE p l + b2i (p e) := by
  unfold cntE b2i
  rw [List.filter_append, List.length_append]
  cases h : p e <;> simp [h]
theorem cntE_bd (p : Ent → Bool) (l : List Ent) : 0 ≤ cntE p l ∧ cntE p l ≤ l.length := by
  have := List.length_filter_le p l
  unfold cntE
  omega
def ofKind (k : Int) (e : Ent) : Bool := !e.quiet && e.kind == k
def ofFail (e : Ent) : Bool := !e.quiet && (e.kind == 3 && !e.done)
/-- the cells of steps -/
def cellsE (l : List Ent) : List Int := (l.filter fun e => !e.quiet).map (·.cell)
theorem cellsE_quiet (l : List Ent) {e : Ent} (h : e.quiet = true) : cellsE (l ++ [e]) = cellsE l := by unfold cellsE; simp [h]
theorem cellsE_step (l : List Ent) {e : Ent} (h : e.quiet = false) : cellsE (l ++ [e]) = cellsE l ++ [e.cell] := by unfold cellsE; simp [h]
theorem cellsE_len (l : List Ent) : (cellsE l).length ≤ l.length := by unfold cellsE; rw [List.length_map]; exact List.length_filter_le _ _
/-- the seven numbers in memory -/
def sumC (a b c d f q m : Int) : Array Value := #[.int .i64 a, .int .i64 b, .int .i64 c, .int .i64 d, .int .i64 f, .int .i64 q, .int .i64 m]
set_option maxRecDepth 100000 in
set_option maxHeartbeats 1000000 in
theorem put_any (g : Nat) (a b c d f q m : Int) (ha : 0 ≤ a ∧ a ≤ 1000) (hb : 0 ≤ b ∧ b ≤ 1000) (hc : 0 ≤ c ∧ c ≤ 1000) (hd : 0 ≤ d ∧ d ≤ 1000) (hf : 0 ≤ f ∧ f ≤ 1000) (k ce od nw : Int) (dn : Bool) (w : World) (B : Blk w g 41 (sumC a b c d f q m)) :
    Calls Tryd.prog 23 #[.pointer (some ⟨g, 0, none⟩), .agg #[.int .i64 k, .int .i64 ce, .int .i64 od, .int .i64 nw, .bool dn]] w fun r w' => r = .returned (.tuple #[]) ∧ Blk w' g 41 (sumC (a + b2i (k == 1)) (b + b2i (k == 2)) (c + b2i (k == 3)) (d + b2i (k == 4)) (f + b2i (k == 3 && !dn)) q m) ∧ Mod (fun z => z = g) w w' := by
  have hlt := B.lt
  have B1 := B.alloc (.cells #[.int .i64 k, .int .i64 ce, .int .i64 od, .int .i64 nw, .bool dn] 48)
  have c0 : w.cell? ⟨g, 0, none⟩ = some (.int .i64 a) := B.cell 0
  have c1 : w.cell? ⟨g, 1, none⟩ = some (.int .i64 b) := B.cell 1
  have c2 : w.cell? ⟨g, 2, none⟩ = some (.int .i64 c) := B.cell 2
  have c3 : w.cell? ⟨g, 3, none⟩ = some (.int .i64 d) := B.cell 3
  have c4 : w.cell? ⟨g, 4, none⟩ = some (.int .i64 f) := B.cell 4
  have f0 := B.free 0
  have f1 := B.free 1
  have f2 := B.free 2
  have f3 := B.free 3
  have f4 := B.free 4
  have MA : Hid (Mod (fun z => z = g) w (w.alloc (.cells #[.int .i64 k, .int .i64 ce, .int .i64 od, .int .i64 nw, .bool dn] 48))) := Lib.hid ((Mod.rf w).alloc _)
  obtain ⟨a1, a2⟩ := ha
  obtain ⟨b1, b2⟩ := hb
  obtain ⟨c1', c2'⟩ := hc
  obtain ⟨d1, d2⟩ := hd
  obtain ⟨f1', f2'⟩ := hf
  replace B1 := Lib.hid B1
  replace B := Lib.hid B
  by_cases h1 : k = 1
  · subst h1
    go_enter Tryd.func23, Tryd.ntmps23
    go_wp2_with (fail)
    go_end0
    refine ⟨rfl, ?_, ((Mod.rf (S := fun z => z = g) w).set (p := ⟨g, 0, none⟩) (.inl rfl) _).alloc _⟩
    have h := (B.out.set 0 (.int .i64 (a + 1))).alloc
    simpa [sumC, b2i] using h _
  by_cases h2 : k = 2
  · subst h2
    go_enter Tryd.func23, Tryd.ntmps23
    go_wp2_with (fail)
    go_end0
    refine ⟨rfl, ?_, ((Mod.rf (S := fun z => z = g) w).set (p := ⟨g, 1, none⟩) (.inl rfl) _).alloc _⟩
    have h := (B.out.set 1 (.int .i64 (b + 1))).alloc
    simpa [sumC, b2i] using h _
  by_cases h3 : k = 3
  · subst h3
    cases dn with
    | true =>
      go_enter Tryd.func23, Tryd.ntmps23
      go_wp2_with (fail)
      go_end0
      refine ⟨rfl, ?_, ((Mod.rf (S := fun z => z = g) w).set (p := ⟨g, 2, none⟩) (.inl rfl) _).alloc _⟩
      have h := (B.out.set 2 (.int .i64 (c + 1))).alloc
      simpa [sumC, b2i] using h _
    | false =>
      go_enter Tryd.func23, Tryd.ntmps23
      go_wp2_with (fail)
      go_end0
      refine ⟨rfl, ?_, ((((Mod.rf (S := fun z => z = g) w).set (p := ⟨g, 2, none⟩) (.inl rfl) _).set (p := ⟨g, 4, none⟩) (.inl rfl) _).alloc _)⟩
      have h := ((B.out.set 2 (.int .i64 (c + 1))).set 4 (.int .i64 (f + 1))).alloc
      simpa [sumC, b2i] using h _
  by_cases h4 : k = 4
  · subst h4
    go_enter Tryd.func23, Tryd.ntmps23
    go_wp2_with (fail)
    go_end0
    refine ⟨rfl, ?_, ((Mod.rf (S := fun z => z = g) w).set (p := ⟨g, 3, none⟩) (.inl rfl) _).alloc _⟩
    have h := (B.out.set 3 (.int .i64 (d + 1))).alloc
    simpa [sumC, b2i] using h _
  · have g1 : (k == 1) = false := beq_eq_false_iff_ne.2 h1
    have g2 : (k == 2) = false := beq_eq_false_iff_ne.2 h2
    have g3 : (k == 3) = false := beq_eq_false_iff_ne.2 h3
    have g4 : (k == 4) = false := beq_eq_false_iff_ne.2 h4
    have e : sumC (a + b2i (k == 1)) (b + b2i (k == 2)) (c + b2i (k == 3)) (d + b2i (k == 4)) (f + b2i (k == 3 && !dn)) q m = sumC a b c d f q m := by
      rw [g1, g2, g3, g4]
      simp [b2i]
    rw [e]
    clear e h1 h2 h3 h4
    go_enter Tryd.func23, Tryd.ntmps23
    go_wp2_with (fail)
    go_end0
    exact ⟨rfl, B1.out, MA.out⟩
end Go.Proofs.YtcpadkaljnnieaaDoor
namespace Go.Proofs.YtcpadkaljnnieaaDoor
open Go.RowKit Go.ChangeShapes Go.WideShapes Go.ChangeAt Go.Deep

theorem owi_grown33 {w w' : World} {base : Nat} {A : Option Addr} {c : Nat} {xs : List Int} (h : OwI w base A c xs) (hg : w.grownBy w' (bl A)) : ModT base [3] w w' := by
  refine Mod.mono (Mod.grown (S := fun k => bl A = some k) hg fun g hA => hA) fun k _ hk => ?_
  rcases h.cases with ⟨rfl, _⟩ | ⟨g, cur, rfl, hb, hh, _⟩
  · simp [bl] at hk
  · simp [bl] at hk
    subst hk
    exact ⟨hb, cur, _, hh, by simp⟩
/-- the seven numbers of entries -/
def sumsE (l : List Ent) (m : Int) : Array Value := sumC (cntE (ofKind 1) l) (cntE (ofKind 2) l) (cntE (ofKind 3) l) (cntE (ofKind 4) l) (cntE ofFail l) (cntE Ent.quiet l) m
theorem sumsE_quiet (l : List Ent) (e : Ent) (m : Int) (h : e.quiet = true) : sumsE (l ++ [e]) m = sumC (cntE (ofKind 1) l) (cntE (ofKind 2) l) (cntE (ofKind 3) l) (cntE (ofKind 4) l) (cntE ofFail l) (cntE Ent.quiet l + 1) m := by
  unfold sumsE
  simp only [cntE_snoc, ofKind, ofFail, h]
  simp [b2i]
theorem sumsE_step (l : List Ent) (e : Ent) (m : Int) (h : e.quiet = false) : sumsE (l ++ [e]) m = sumC (cntE (ofKind 1) l + b2i (e.kind == 1)) (cntE (ofKind 2) l + b2i (e.kind == 2)) (cntE (ofKind 3) l + b2i (e.kind == 3)) (cntE (ofKind 4) l + b2i (e.kind == 4)) (cntE ofFail l + b2i (e.kind == 3 && !e.done)) (cntE Ent.quiet l) m := by
  unfold sumsE
  simp only [cntE_snoc, ofKind, ofFail, h]
  simp [b2i]
theorem sortN_up (xs : List Int) : Up (sortN xs) := by
  unfold Up sortN
  have := List.pairwise_mergeSort (le := fun x y : Int => decide (x ≤ y)) (fun a b c h1 h2 => by simp at h1 h2 ⊢; omega) (fun a b => by simp; omega) xs
  exact this.imp fun h => by simpa using h
theorem sortN_perm (xs : List Int) : (sortN xs).Perm xs := List.mergeSort_perm _ _
theorem sortN_len (xs : List Int) : (sortN xs).length = xs.length := List.length_mergeSort _
/-- what is counted -/
def CountPost (l : List Ent) (w : World) (r : Ending) (w' : World) : Prop := ∃ (best : Int) (top : Nat), r = .returned (.agg (sumsE l best)) ∧ BestIn (cellsE l) (cellsE l) best top ∧ Ext w w'
theorem BestIn.perm {cs ds pre pre' : List Int} {b : Int} {t : Nat} (h : BestIn cs pre b t) (hp : cs.Perm ds) (hq : pre.Perm pre') : BestIn ds pre' b t := by
  rcases h with ⟨rfl, h2, h3⟩ | ⟨h1, h2, h3⟩
  · exact .inl ⟨List.nil_perm.1 hq, h2, h3⟩
  · refine .inr ⟨hq.mem_iff.1 h1, by rw [h2]; exact hp.count_eq b, fun c hc => ?_⟩
    rw [← hp.count_eq c]
    exact h3 c (hq.mem_iff.2 hc)
set_option maxRecDepth 100000 in
set_option maxHeartbeats 4000000 in
theorem count_any (A : Option Addr) (c : Nat) (l : List Ent) (w : World) (hA : RdV w 50 A (entsL l)) (hl : l.length ≤ 1000) :
    Calls Tryd.prog 13 #[.slice A l.length c] w (CountPost l w) := by
  have RA := Lib.hid (fun (W : World) (x : Ext w W) => hA.ext x)
  have UPS := Lib.hid (sortN_up (cellsE l))
  have CL := cellsE_len l
  have PU := Lib.hid (fun (k : Nat) (h : k ≤ l.length) (m : Int) (kd ce od nw : Int) (dn : Bool) (W : World) (B : Blk W (w.heap.size + 1) 41 (sumsE (l.take k) m)) => put_any (w.heap.size + 1) _ _ _ _ _ _ m (by have := cntE_bd (ofKind 1) (l.take k); rw [List.length_take] at this; omega) (by have := cntE_bd (ofKind 2) (l.take k); rw [List.length_take] at this; omega) (by have := cntE_bd (ofKind 3) (l.take k); rw [List.length_take] at this; omega) (by have := cntE_bd (ofKind 4) (l.take k); rw [List.length_take] at this; omega) (by have := cntE_bd ofFail (l.take k); rw [List.length_take] at this; omega) kd ce od nw dn W B)
  have QB := Lib.hid (fun (k : Nat) (h : k ≤ l.length) => (show 0 ≤ cntE Ent.quiet (l.take k) ∧ cntE Ent.quiet (l.take k) ≤ 1000 by have := cntE_bd Ent.quiet (l.take k); rw [List.length_take] at this; omega))
  obtain ⟨i0, hi, hz0, hz1, hz2⟩ := info_parts int_info
  clear hA
  go_enter Tryd.func13, Tryd.ntmps13
  go_wp2_with (fail)
  go_loopw [4, 13] (fun cv iv wr => ∃ (k : Nat) (B : Option Addr) (d : Nat), cv = .slice B (cellsE (l.take k)).length d ∧ iv = .int .i64 k ∧ k ≤ l.length ∧ Hid (OwI wr w.heap.size B d (cellsE (l.take k))) ∧ Hid (Blk wr (w.heap.size + 1) 41 (sumsE (l.take k) (-1))) ∧ Hid (Blk wr w.heap.size 41 (sumC 0 0 0 0 0 0 0)) ∧ Hid (Ext w wr)) (fun _ iv _ => l.length - (intOf iv).toNat)
  case atStart => exact ⟨0, none, 0, rfl, rfl, by omega, Lib.hid (OwI.nil _ _), Lib.hid (.new (by simp)), Lib.hid (.alloc (.new rfl) _), Lib.hid (by (repeat (first | assumption | exact Ext.rf _ | apply Ext.drew | apply Ext.drewN | apply Ext.alloc)))⟩
  case round =>
    obtain ⟨k, B, d, rfl, rfl, hk, HO, HS, HZ, Y⟩ := hrel
    by_cases hlt : k < l.length
    · obtain ⟨b, off, e, rfl, hb, he, c0, c1, c2, c3, c4, c5⟩ := (RA.out _ Y.out).ent hlt
      have hTK : Hid (l.take (k + 1) = l.take k ++ [e]) := Lib.hid (by rw [List.take_add_one, he.out]; rfl)
      obtain ⟨wk, kd, cl, od, nw, dn⟩ := e
      have zY := Y.out.size
      have ZS := HS.out.lt
      simp only at c0 c1 c2 c3 c4 c5
      clear he
      go_upto_region 6 with (fail)
      have B6 : Hid (Blk (wr.alloc (.cells #[.int .i64 wk, .int .i64 kd, .int .i64 cl, .int .i64 od, .int .i64 nw, .bool dn] 50)) wr.heap.size 50 #[.int .i64 wk, .int .i64 kd, .int .i64 cl, .int .i64 od, .int .i64 nw, .bool dn]) := Lib.hid (.new rfl)
      have S6 := Lib.hid (HS.out.alloc (.cells #[.int .i64 wk, .int .i64 kd, .int .i64 cl, .int .i64 od, .int .i64 nw, .bool dn] 50))
      have Z6 := Lib.hid (HZ.out.alloc (.cells #[.int .i64 wk, .int .i64 kd, .int .i64 cl, .int .i64 od, .int .i64 nw, .bool dn] 50))
      have O6 := Lib.hid (HO.out.ext ((Ext.rf wr).alloc (.cells #[.int .i64 wk, .int .i64 kd, .int .i64 cl, .int .i64 od, .int .i64 nw, .bool dn] 50)))
      have Y6 := Lib.hid (Y.out.alloc (.cells #[.int .i64 wk, .int .i64 kd, .int .i64 cl, .int .i64 od, .int .i64 nw, .bool dn] 50))
      clear HO HS HZ Y c0 c1 c2 c3 c4 c5
      obtain ⟨ge, hge⟩ : ∃ ge, ge = wr.heap.size := ⟨_, rfl⟩
      rw [← hge] at B6 zY ZS ⊢
      generalize wr.alloc (.cells #[.int .i64 wk, .int .i64 kd, .int .i64 cl, .int .i64 od, .int .i64 nw, .bool dn] 50) = wa at *
      clear hge
      have C0 : wa.cell? ⟨ge, 0, none⟩ = some (.int .i64 wk) := B6.out.cell 0
      have C1 : wa.cell? ⟨ge, 1, none⟩ = some (.int .i64 kd) := B6.out.cell 1
      have C2 : wa.cell? ⟨ge, 2, none⟩ = some (.int .i64 cl) := B6.out.cell 2
      have C3 : wa.cell? ⟨ge, 3, none⟩ = some (.int .i64 od) := B6.out.cell 3
      have C4 : wa.cell? ⟨ge, 4, none⟩ = some (.int .i64 nw) := B6.out.cell 4
      have C5 : wa.cell? ⟨ge, 5, none⟩ = some (.bool dn) := B6.out.cell 5
      have WA : Hid (∃ x : World, x = wa) := Lib.hid ⟨_, rfl⟩
      obtain ⟨q, hq⟩ : ∃ q, Hid (Ent.quiet ⟨wk, kd, cl, od, nw, dn⟩ = q) := ⟨_, rfl⟩
      go_cut [20] (fun v wx => v = .bool q ∧ wx = wa)
      case first =>
        by_cases z0 : kd = 0
        case neg =>
          have y_z0 : (kd == 0) = false := beq_eq_false_iff_ne.2 z0
          have hqo := hq.out
          unfold Ent.quiet at hqo
          simp [y_z0] at hqo
          subst hqo
          clear hq
          go_wp2_with (fail)
          go_meet
          exact ⟨rfl, rfl⟩
        subst z0
        by_cases z1 : cl = 0
        case neg =>
          have y_z1 : (cl == 0) = false := beq_eq_false_iff_ne.2 z1
          have hqo := hq.out
          unfold Ent.quiet at hqo
          simp [y_z1] at hqo
          subst hqo
          clear hq
          go_wp2_with (fail)
          go_meet
          exact ⟨rfl, rfl⟩
        subst z1
        by_cases z2 : od = 0
        case neg =>
          have y_z2 : (od == 0) = false := beq_eq_false_iff_ne.2 z2
          have hqo := hq.out
          unfold Ent.quiet at hqo
          simp [y_z2] at hqo
          subst hqo
          clear hq
          go_wp2_with (fail)
          go_meet
          exact ⟨rfl, rfl⟩
        subst z2
        by_cases z3 : nw = 0
        case neg =>
          have y_z3 : (nw == 0) = false := beq_eq_false_iff_ne.2 z3
          have hqo := hq.out
          unfold Ent.quiet at hqo
          simp [y_z3] at hqo
          subst hqo
          clear hq
          go_wp2_with (fail)
          go_meet
          exact ⟨rfl, rfl⟩
        subst z3
        cases dn
        case true =>
          have hqo := hq.out
          unfold Ent.quiet at hqo
          simp at hqo
          subst hqo
          clear hq
          go_wp2_with (fail)
          go_meet
          exact ⟨rfl, rfl⟩
        have hqo := hq.out
        unfold Ent.quiet at hqo
        simp at hqo
        subst hqo
        clear hq
        go_wp2_with (fail)
        go_meet
        exact ⟨rfl, rfl⟩
      case rest =>
        obtain ⟨rfl, rfl⟩ := hcut
        cases q with
        | true =>
          have QS : Hid (sumsE (l.take (k + 1)) (-1) = sumC (cntE (ofKind 1) (l.take k)) (cntE (ofKind 2) (l.take k)) (cntE (ofKind 3) (l.take k)) (cntE (ofKind 4) (l.take k)) (cntE ofFail (l.take k)) (cntE Ent.quiet (l.take k) + 1) (-1)) := Lib.hid (by rw [hTK.out]; exact sumsE_quiet _ _ _ hq.out)
          have QC : Hid (cellsE (l.take (k + 1)) = cellsE (l.take k)) := Lib.hid (by rw [hTK.out]; exact cellsE_quiet _ hq.out)
          obtain ⟨q1, q2⟩ := QB.out k hk
          have m5 : wc.cell? ⟨w.heap.size + 1, 5, none⟩ = some (.int .i64 (cntE Ent.quiet (l.take k))) := S6.out.cell 5
          have f5 := S6.out.free 5
          have S7 : Hid (Blk (wc.setCell ⟨w.heap.size + 1, 5, none⟩ (.int .i64 (cntE Ent.quiet (l.take k) + 1))) (w.heap.size + 1) 41 (sumsE (l.take (k + 1)) (-1))) := by rw [QS.out]; exact Lib.hid (S6.out.set 5 (.int .i64 (cntE Ent.quiet (l.take k) + 1)))
          have Z7 := Lib.hid (Z6.out.far (p := ⟨w.heap.size + 1, 5, none⟩) (show w.heap.size ≠ w.heap.size + 1 by omega) (.int .i64 (cntE Ent.quiet (l.take k) + 1)))
          have O7 := Lib.hid (O6.out.far S6.out (by decide) 5 (.int .i64 (cntE Ent.quiet (l.take k) + 1)))
          have Y7 : Hid (Ext w (wc.setCell ⟨w.heap.size + 1, 5, none⟩ (.int .i64 (cntE Ent.quiet (l.take k) + 1)))) := Lib.hid (Y6.out.setNew (p := ⟨w.heap.size + 1, 5, none⟩) (by show w.heap.size ≤ w.heap.size + 1; omega) _)
          clear QS S6 Z6 O6 Y6 B6 hq
          generalize cntE Ent.quiet (l.take k) = nq at *
          go_wp2_with (fail)
          go_roundw
          case rel => exact ⟨k + 1, B, d, by rw [QC.out], by go_num, by omega, by rw [QC.out]; exact O7, S7, Z7, Y7⟩
          case measure => simp [intOf]; omega
        | false =>
          have QS : Hid (sumsE (l.take (k + 1)) (-1) = sumC (cntE (ofKind 1) (l.take k) + b2i (kd == 1)) (cntE (ofKind 2) (l.take k) + b2i (kd == 2)) (cntE (ofKind 3) (l.take k) + b2i (kd == 3)) (cntE (ofKind 4) (l.take k) + b2i (kd == 4)) (cntE ofFail (l.take k) + b2i (kd == 3 && !dn)) (cntE Ent.quiet (l.take k)) (-1)) := Lib.hid (by rw [hTK.out]; exact sumsE_step _ _ _ hq.out)
          have QC : Hid (cellsE (l.take (k + 1)) = cellsE (l.take k) ++ [cl]) := Lib.hid (by rw [hTK.out]; exact cellsE_step _ hq.out)
          have PX := Lib.hid (fun (W : World) (B : Blk W (w.heap.size + 1) 41 (sumsE (l.take k) (-1))) => PU.out k hk (-1) kd cl od nw dn W B)
          have cl2 := cellsE_len (l.take k)
          rw [List.length_take] at cl2
          have cl3 : (cellsE (l.take k)).length ≤ 1000 := by omega
          clear hq cl2
          go_wp2_with (fail)
          refine (PX.out _ S6.out).mono ?_
          rintro r w7 ⟨rfl, s7, m7⟩
          have S7 : Hid (Blk w7 (w.heap.size + 1) 41 (sumsE (l.take (k + 1)) (-1))) := by rw [QS.out]; exact Lib.hid s7
          have Z7 := Lib.hid (Z6.out.mod m7 (by omega))
          have O7 := Lib.hid (O6.out.mod m7 (O6.out.ne S6.out (by decide)))
          have Y7 := Lib.hid (Y6.out.mod m7 (fun z hz => by omega))
          have B7 := B6.out.mod m7 (by omega)
          have D2 : w7.cell? ⟨ge, 2, none⟩ = some (.int .i64 cl) := B7.cell 2
          have z7 := Y7.out.size
          clear QS S6 Z6 O6 Y6 B6 B7 m7 s7 C0 C1 C2 C3 C4 C5 PX
          go_wp2_with (at_builtin; refine wpl_app_i _ rfl _ _ rfl w.heap.size B (cellsE (l.take k)).length d (cellsE (l.take k)) [cl] _ 1 rfl rfl rfl (O7.out.ext (by (repeat (first | assumption | exact Ext.rf _ | apply Ext.drew | apply Ext.drewN | apply Ext.alloc)))) (.blk (by (first | exact .new (by simp) | exact .drew (.new (by simp)) | exact .alloc (.new (by simp)) _ | exact .drew (.alloc (.new (by simp)) _) | exact .alloc (.alloc (.new (by simp)) _) _ | exact .drew (.alloc (.alloc (.new (by simp)) _) _) | (repeat (first | assumption | (refine Blk.new ?_; (focus (simp; done))) | apply Blk.drew | apply Blk.drewN | apply Blk.alloc)))) rfl) (by simp; omega) (by simp; omega) ?_; rintro A8 c8 w8 o8 g8 _)
          have M8 : ModT w.heap.size [3] w7 w8 := (ModT.of_ext (by (repeat (first | assumption | exact Ext.rf _ | apply Ext.drew | apply Ext.drewN | apply Ext.alloc)))).tr (owi_grown33 (OwI.ext O7.out (by (repeat (first | assumption | exact Ext.rf _ | apply Ext.drew | apply Ext.drewN | apply Ext.alloc)))) g8)
          have S8 := Lib.hid (S7.out.modT M8 (by decide))
          have Z8 := Lib.hid (Z7.out.modT M8 (by decide))
          have Y8 := Lib.hid (Y7.out.modT M8 (Nat.le_refl _))
          have O8 : Hid (OwI w8 w.heap.size A8 c8 (cellsE (l.take (k + 1)))) := by rw [QC.out]; exact Lib.hid o8
          clear M8 g8 o8 S7 Z7 O7 Y7 D2
          go_wp2_with (fail)
          go_roundw
          case rel => exact ⟨k + 1, A8, c8, by rw [QC.out, List.length_append]; rfl, by go_num, by omega, O8, S8, Z8, Y8⟩
          case measure => simp [intOf]; omega
    · obtain rfl : k = l.length := by omega
      rw [List.take_length] at HO HS ⊢
      have lc2 : (cellsE l).length < 4611686018427387904 := by omega
      clear hlt PU QB hk hi hz0 hz1 hz2 RA
      go_wp2_with (fail)
      refine (sorti_any w.heap.size d B (cellsE l) _ HO.out lc2).mono ?_
      rintro r w2 ⟨rfl, o2, m2⟩
      have OC0 := Lib.hid o2
      have BS0 := Lib.hid (HS.out.modT m2 (by decide))
      have BZ0 := Lib.hid (HZ.out.modT m2 (by decide))
      have YY0 := Lib.hid (Y.out.modT m2 (Nat.le_refl _))
      obtain ⟨n, hn⟩ : ∃ n, (cellsE l).length = n := ⟨_, rfl⟩
      have NL : Hid ((sortN (cellsE l)).length = n) := Lib.hid (by rw [sortN_len, hn])
      rw [hn] at CL ⊢
      clear o2 m2 HO HS HZ Y lc2 hn
      go_wp2_with (fail)
      go_loopw [7, 8] (fun mv fv wr => ∃ (f top : Nat) (best : Int), mv = .int .i64 top ∧ fv = .int .i64 f ∧ f ≤ n ∧ Hid (Blk wr (w.heap.size + 1) 41 (sumsE l best)) ∧ Hid (Blk wr w.heap.size 41 (sumC 0 0 0 0 0 0 0)) ∧ Hid (OwI wr w.heap.size B d (sortN (cellsE l))) ∧ Hid (Edge (sortN (cellsE l)) f) ∧ Hid (BestIn (sortN (cellsE l)) ((sortN (cellsE l)).take f) best top) ∧ Hid (Ext w wr)) (fun _ fv _ => n - (intOf fv).toNat)
      case atStart => exact ⟨0, 0, -1, rfl, rfl, by omega, BS0, BZ0, OC0, Lib.hid (Edge.start _), Lib.hid (by rw [List.take_zero]; exact BestIn.start _), YY0⟩
      case round =>
        clear OC0 BS0 BZ0 YY0
        obtain ⟨wo, rfl⟩ : ∃ wo : World, wo = wr := ⟨_, rfl⟩
        obtain ⟨f, top, best, rfl, rfl, hf, BS, BZ, OC, HE, HB, Y⟩ := hrel
        by_cases hfn : f < n
        · obtain ⟨C, hC⟩ : ∃ C, B = C := ⟨_, rfl⟩
          subst hC
          have R3 := Lib.hid OC.out.read
          obtain ⟨x, hx⟩ : ∃ x, (sortN (cellsE l))[f]? = some x := ⟨_, List.getElem?_eq_getElem (by rw [NL.out]; exact hfn)⟩
          have XF := Lib.hid hx
          clear hx
          have n1 : n ≤ 1000 := by omega
          have tb : top ≤ 1000 := by
            rcases HB.out with ⟨_, _, e⟩ | ⟨_, e, _⟩
            · omega
            · have := List.count_le_length (a := best) (l := sortN (cellsE l)); have := NL.out; omega
          go_wp2_with (fail)
          go_loopw [9] (fun tv wr => ∃ t : Nat, tv = .int .i64 t ∧ f ≤ t ∧ t ≤ n ∧ Hid (∀ j, f ≤ j → j < t → (sortN (cellsE l))[j]? = some x) ∧ Hid (Ext wo wr)) (fun tv _ => n - (intOf tv).toNat)
          case atStart => exact ⟨f, rfl, Nat.le_refl _, by omega, Lib.hid (fun j h1 h2 => by omega), Lib.hid (by (repeat (first | assumption | exact Ext.rf _ | apply Ext.drew | apply Ext.drewN | apply Ext.alloc)))⟩
          case round =>
            obtain ⟨w3, rfl⟩ : ∃ w3 : World, w3 = wr := ⟨_, rfl⟩
            obtain ⟨t, rfl, hft0, htn, HX, Y3⟩ := hrel
            obtain ⟨b, off, xf, hCe, hbl, hcf, hxf, _⟩ := (R3.out.ext Y3.out).at (k := f) (by have := NL.out; omega)
            have hxf2 : xf = x := by have h1 := hxf.out; have h2 := XF.out; rw [h1] at h2; injection h2
            subst hxf2
            subst hCe
            by_cases htl : t < n
            · obtain ⟨b', off', y, hCe', hbl', hct, hyt, _⟩ := (R3.out.ext Y3.out).at (k := t) (by have := NL.out; omega)
              injection hCe' with hCe'
              injection hCe' with h1 h2
              subst h1
              subst h2
              by_cases hyx : y = xf
              · subst hyx
                have HX2 : Hid (∀ j, f ≤ j → j < t + 1 → (sortN (cellsE l))[j]? = some y) := Lib.hid (fun j h1 h2 => by
                  by_cases hj : j < t
                  · exact HX.out j h1 hj
                  · obtain rfl : j = t := by omega
                    exact hyt.out)
                clear HX hyt hxf XF
                go_wp2_with (fail)
                go_quiet (fail)
                go_wp2_with (fail)
                go_roundw
                case rel => exact ⟨t + 1, by go_num, by omega, by omega, HX2, Lib.hid (Y3.out.drewN _)⟩
                case measure => simp [intOf]; omega
              · have hft : f < t := by
                  rcases Nat.lt_or_ge f t with h | h
                  · exact h
                  · obtain rfl : t = f := by omega
                    have h1 := hyt.out
                    rw [hxf.out] at h1
                    injection h1 with h1
                    exact absurd h1.symm hyx
                have hyxb : (y == xf) = false := beq_eq_false_iff_ne.2 hyx
                have NE : ∀ z, (sortN (cellsE l))[t]? = some z → z ≠ xf := fun z hz => by rw [hyt.out] at hz; injection hz with hz; rw [← hz]; exact hyx
                have NEH := Lib.hid NE
                clear NE hyx
                go_wp2_with (fail)
                go_quiet (fail)
                rename_i nq _
                have Y4 := Lib.hid (Y3.out.drewN nq)
                have hcx : (w3.drewN nq).cell? ⟨b, off + f, none⟩ = some (.int .i64 xf) := hcf
                generalize w3.drewN nq = w4 at *
                clear hcf hct hyt hxf hyxb
                have T0 : BestIn (sortN (cellsE l)) ((sortN (cellsE l)).take t) (if top < t - f then xf else best) (if top < t - f then t - f else top) ∧ Edge (sortN (cellsE l)) t := by
                  have h := BestIn.round UPS.out (f := f) (t := t) (x := xf) hft (by have := NL.out; omega) HX.out NEH.out HE.out HB.out
                  exact ⟨h.2, h.1⟩
                obtain ⟨TB0, TE0⟩ := T0
                have TE := Lib.hid TE0
                have BS3 := Lib.hid (BS.out.ext Y4.out)
                have BZ3 := Lib.hid (BZ.out.ext Y4.out)
                have OC3 := Lib.hid (OC.out.ext Y4.out)
                have YY3 := Lib.hid (Y.out.tr Y4.out)
                clear TE0 HX HE HB BS BZ OC Y Y3 Y4
                by_cases hm : top < t - f
                · rw [if_pos hm, if_pos hm] at TB0
                  have TB := Lib.hid TB0
                  have m6 : w4.cell? ⟨w.heap.size + 1, 6, none⟩ = some (.int .i64 best) := BS3.out.cell 6
                  have fz6 := BS3.out.free 6
                  have d1 : decide ((top : Int) < (t : Int) - (f : Int)) = true := decide_eq_true (by omega)
                  have d2 : (top : Int) < (t : Int) - (f : Int) := by omega
                  have wr1 : IntKind.i64.wrap ((t : Int) - (f : Int)) = (t : Int) - (f : Int) := IntWalk.i64_in _ (by omega)
                  have BS4 : Hid (Blk (w4.setCell ⟨w.heap.size + 1, 6, none⟩ (.int .i64 xf)) (w.heap.size + 1) 41 (sumsE l xf)) := Lib.hid (BS3.out.set 6 (.int .i64 xf))
                  have BZ4 := Lib.hid (BZ3.out.far (p := ⟨w.heap.size + 1, 6, none⟩) (show w.heap.size ≠ w.heap.size + 1 by omega) (.int .i64 xf))
                  have OC4 := Lib.hid (OC3.out.far BS3.out (by decide) 6 (.int .i64 xf))
                  have YY4 : Hid (Ext w (w4.setCell ⟨w.heap.size + 1, 6, none⟩ (.int .i64 xf))) := Lib.hid (YY3.out.setNew (p := ⟨w.heap.size + 1, 6, none⟩) (by show w.heap.size ≤ w.heap.size + 1; omega) _)
                  clear BS3 BZ3 OC3 YY3 TB0 XF R3
                  go_wp2_with (fail)
                  refine wp_region_any (by kernel_rfl) ?_
                  change wpAny _ _ _ _ _ _ _ (World.drew _)
                  refine wpAny_T (i := 0) (op := Op.move (Operand.tmp 9)) (t := 3) (d := some 64) (v := ?_) rfl (by decide +kernel) (by decide +kernel) (by decide +kernel) (fun _ _ _ h => h) ?_ ?_
                  case refine_2 => (intro _; unfold exec2; go_simp; try with_reducible rfl)
                  try simp only [Act.put, List.setIfInBounds_toArray, List.set_cons_zero, List.set_cons_succ]
                  refine wpAny_T (i := 1) (op := Op.move (Operand.tmp 8)) (t := 3) (d := some 65) (v := ?_) rfl (by decide +kernel) (by decide +kernel) (by decide +kernel) (fun _ _ _ h => h) ?_ ?_
                  case refine_2 => (intro _; unfold exec2; go_simp; try with_reducible rfl)
                  try simp only [Act.put, List.setIfInBounds_toArray, List.set_cons_zero, List.set_cons_succ]
                  refine wpAny_T (i := 2) (op := Op.binOp BinOp.sub 3 (Operand.tmp 64) (Operand.tmp 65) 3) (t := 3) (d := some 66) (v := ?_) rfl (by decide +kernel) (by decide +kernel) (by decide +kernel) (fun _ _ _ h => h) ?_ ?_
                  case refine_2 => (intro _; unfold exec2; go_simp; try with_reducible rfl)
                  try simp only [Act.put, List.setIfInBounds_toArray, List.set_cons_zero, List.set_cons_succ]
                  refine wpAny_T (i := 3) (op := Op.move (Operand.tmp 4)) (t := 68) (d := some 67) (v := ?_) rfl (by decide +kernel) (by decide +kernel) (by decide +kernel) (fun _ _ _ h => h) ?_ ?_
                  case refine_2 => (intro _; unfold exec2; go_simp; try with_reducible rfl)
                  try simp only [Act.put, List.setIfInBounds_toArray, List.set_cons_zero, List.set_cons_succ]
                  refine wpAny_T (i := 4) (op := Op.move (Operand.tmp 8)) (t := 3) (d := some 68) (v := ?_) rfl (by decide +kernel) (by decide +kernel) (by decide +kernel) (fun _ _ _ h => h) ?_ ?_
                  case refine_2 => (intro _; unfold exec2; go_simp; try with_reducible rfl)
                  try simp only [Act.put, List.setIfInBounds_toArray, List.set_cons_zero, List.set_cons_succ]
                  refine wpAny_T (i := 5) (op := Op.indexAddr 68 (Operand.tmp 67) (Operand.tmp 68)) (t := 0) (d := some 69) (v := ?_) rfl (by decide +kernel) (by decide +kernel) (by decide +kernel) (fun _ _ _ h => h) ?_ ?_
                  case refine_2 => (intro _; unfold exec2; go_simp; try with_reducible rfl)
                  try simp only [Act.put, List.setIfInBounds_toArray, List.set_cons_zero, List.set_cons_succ]
                  refine wpAny_T (i := 7) (op := Op.assign (Operand.tmp 66)) (t := 3) (d := some 7) (v := ?_) rfl (by decide +kernel) (by decide +kernel) (by decide +kernel) (fun _ _ _ h => h) ?_ ?_
                  case refine_2 => (intro _; unfold exec2; go_simp; try with_reducible rfl)
                  try simp only [Act.put, List.setIfInBounds_toArray, List.set_cons_zero, List.set_cons_succ]
                  refine wpAny_next 6 (by decide +kernel) (op_ld (T := 3) (x := Operand.tmp 69) (t := 3) (d := some 70) rfl (.pointer (some ⟨b, off + f, none⟩)) (by kernel_rfl) (.int .i64 xf) (by go_simp) ?_)
                  try simp only [Act.put, List.setIfInBounds_toArray, List.set_cons_zero, List.set_cons_succ]
                  refine wpAny_T (i := 8) (op := Op.fieldAddr 41 (Operand.tmp 3) 6) (t := 0) (d := some 71) (v := ?_) rfl (by decide +kernel) (by decide +kernel) (by decide +kernel) (fun _ _ _ h => h) ?_ ?_
                  case refine_2 => (intro _; unfold exec2; go_simp; try with_reducible rfl)
                  try simp only [Act.put, List.setIfInBounds_toArray, List.set_cons_zero, List.set_cons_succ]
                  refine wpAny_next 9 (by kernel_rfl) (op_st rfl (.pointer (some ⟨w.heap.size + 1, 6, none⟩)) (.int .i64 xf) (by kernel_rfl) (by kernel_rfl) (by go_simp; rfl) ?_)
                  refine wpAny_done (by kernel_rfl) ?_ _
                  go_simp
                  generalize (w4.setCell ⟨w.heap.size + 1, 6, none⟩ (.int .i64 xf)) = w5 at *
                  clear hcx m6 fz6
                  go_wp2_with (fail)
                  go_roundw
                  case rel => exact ⟨t, t - f, xf, by congr 1; omega, rfl, by omega, BS4, Lib.hid BZ4.out.drew, Lib.hid (OC4.out.ext ((Ext.rf _).drew)), TE, TB, Lib.hid YY4.out.drew⟩
                  case measure => simp [intOf]; omega
                · rw [if_neg hm, if_neg hm] at TB0
                  have TB := Lib.hid TB0
                  have d1 : decide ((top : Int) < (t : Int) - (f : Int)) = false := decide_eq_false (by omega)
                  have d2 : ¬ (top : Int) < (t : Int) - (f : Int) := by omega
                  have wr1 : IntKind.i64.wrap ((t : Int) - (f : Int)) = (t : Int) - (f : Int) := IntWalk.i64_in _ (by omega)
                  clear TB0 XF R3 hcx
                  go_wp2_with (fail)
                  go_roundw
                  case rel => exact ⟨t, top, best, rfl, rfl, by omega, BS3, BZ3, OC3, TE, TB, YY3⟩
                  case measure => simp [intOf]; omega
            · obtain rfl : t = n := by omega
              have NEH : Hid (∀ z, (sortN (cellsE l))[t]? = some z → z ≠ xf) := Lib.hid (fun z hz => by
                rw [List.getElem?_eq_none (by have := NL.out; omega)] at hz
                cases hz)
              clear htl
              go_wp2_with (fail)
              go_quiet (fail)
              rename_i nq _
              have Y4 := Lib.hid (Y3.out.drewN nq)
              have hcx : (w3.drewN nq).cell? ⟨b, off + f, none⟩ = some (.int .i64 xf) := hcf
              generalize w3.drewN nq = w4 at *
              clear hcf hxf
              have T0 : BestIn (sortN (cellsE l)) ((sortN (cellsE l)).take t) (if top < t - f then xf else best) (if top < t - f then t - f else top) ∧ Edge (sortN (cellsE l)) t := by
                have h := BestIn.round UPS.out (f := f) (t := t) (x := xf) hfn (by have := NL.out; omega) HX.out NEH.out HE.out HB.out
                exact ⟨h.2, h.1⟩
              obtain ⟨TB0, TE0⟩ := T0
              have TE := Lib.hid TE0
              have BS3 := Lib.hid (BS.out.ext Y4.out)
              have BZ3 := Lib.hid (BZ.out.ext Y4.out)
              have OC3 := Lib.hid (OC.out.ext Y4.out)
              have YY3 := Lib.hid (Y.out.tr Y4.out)
              clear TE0 HX HE HB BS BZ OC Y Y3 Y4
              by_cases hm : top < t - f
              · rw [if_pos hm, if_pos hm] at TB0
                have TB := Lib.hid TB0
                have m6 : w4.cell? ⟨w.heap.size + 1, 6, none⟩ = some (.int .i64 best) := BS3.out.cell 6
                have fz6 := BS3.out.free 6
                have d1 : decide ((top : Int) < (t : Int) - (f : Int)) = true := decide_eq_true (by omega)
                have d2 : (top : Int) < (t : Int) - (f : Int) := by omega
                have wr1 : IntKind.i64.wrap ((t : Int) - (f : Int)) = (t : Int) - (f : Int) := IntWalk.i64_in _ (by omega)
                have BS4 : Hid (Blk (w4.setCell ⟨w.heap.size + 1, 6, none⟩ (.int .i64 xf)) (w.heap.size + 1) 41 (sumsE l xf)) := Lib.hid (BS3.out.set 6 (.int .i64 xf))
                have BZ4 := Lib.hid (BZ3.out.far (p := ⟨w.heap.size + 1, 6, none⟩) (show w.heap.size ≠ w.heap.size + 1 by omega) (.int .i64 xf))
                have OC4 := Lib.hid (OC3.out.far BS3.out (by decide) 6 (.int .i64 xf))
                have YY4 : Hid (Ext w (w4.setCell ⟨w.heap.size + 1, 6, none⟩ (.int .i64 xf))) := Lib.hid (YY3.out.setNew (p := ⟨w.heap.size + 1, 6, none⟩) (by show w.heap.size ≤ w.heap.size + 1; omega) _)
                clear BS3 BZ3 OC3 YY3 TB0 XF R3
                go_wp2_with (fail)
                refine wp_region_any (by kernel_rfl) ?_
                change wpAny _ _ _ _ _ _ _ (World.drew _)
                refine wpAny_T (i := 0) (op := Op.move (Operand.tmp 9)) (t := 3) (d := some 64) (v := ?_) rfl (by decide +kernel) (by decide +kernel) (by decide +kernel) (fun _ _ _ h => h) ?_ ?_
                case refine_2 => (intro _; unfold exec2; go_simp; try with_reducible rfl)
                try simp only [Act.put, List.setIfInBounds_toArray, List.set_cons_zero, List.set_cons_succ]
                refine wpAny_T (i := 1) (op := Op.move (Operand.tmp 8)) (t := 3) (d := some 65) (v := ?_) rfl (by decide +kernel) (by decide +kernel) (by decide +kernel) (fun _ _ _ h => h) ?_ ?_
                case refine_2 => (intro _; unfold exec2; go_simp; try with_reducible rfl)
                try simp only [Act.put, List.setIfInBounds_toArray, List.set_cons_zero, List.set_cons_succ]
                refine wpAny_T (i := 2) (op := Op.binOp BinOp.sub 3 (Operand.tmp 64) (Operand.tmp 65) 3) (t := 3) (d := some 66) (v := ?_) rfl (by decide +kernel) (by decide +kernel) (by decide +kernel) (fun _ _ _ h => h) ?_ ?_
                case refine_2 => (intro _; unfold exec2; go_simp; try with_reducible rfl)
                try simp only [Act.put, List.setIfInBounds_toArray, List.set_cons_zero, List.set_cons_succ]
                refine wpAny_T (i := 3) (op := Op.move (Operand.tmp 4)) (t := 68) (d := some 67) (v := ?_) rfl (by decide +kernel) (by decide +kernel) (by decide +kernel) (fun _ _ _ h => h) ?_ ?_
                case refine_2 => (intro _; unfold exec2; go_simp; try with_reducible rfl)
                try simp only [Act.put, List.setIfInBounds_toArray, List.set_cons_zero, List.set_cons_succ]
                refine wpAny_T (i := 4) (op := Op.move (Operand.tmp 8)) (t := 3) (d := some 68) (v := ?_) rfl (by decide +kernel) (by decide +kernel) (by decide +kernel) (fun _ _ _ h => h) ?_ ?_
                case refine_2 => (intro _; unfold exec2; go_simp; try with_reducible rfl)
                try simp only [Act.put, List.setIfInBounds_toArray, List.set_cons_zero, List.set_cons_succ]
                refine wpAny_T (i := 5) (op := Op.indexAddr 68 (Operand.tmp 67) (Operand.tmp 68)) (t := 0) (d := some 69) (v := ?_) rfl (by decide +kernel) (by decide +kernel) (by decide +kernel) (fun _ _ _ h => h) ?_ ?_
                case refine_2 => (intro _; unfold exec2; go_simp; try with_reducible rfl)
                try simp only [Act.put, List.setIfInBounds_toArray, List.set_cons_zero, List.set_cons_succ]
                refine wpAny_T (i := 7) (op := Op.assign (Operand.tmp 66)) (t := 3) (d := some 7) (v := ?_) rfl (by decide +kernel) (by decide +kernel) (by decide +kernel) (fun _ _ _ h => h) ?_ ?_
                case refine_2 => (intro _; unfold exec2; go_simp; try with_reducible rfl)
                try simp only [Act.put, List.setIfInBounds_toArray, List.set_cons_zero, List.set_cons_succ]
                refine wpAny_next 6 (by decide +kernel) (op_ld (T := 3) (x := Operand.tmp 69) (t := 3) (d := some 70) rfl (.pointer (some ⟨b, off + f, none⟩)) (by kernel_rfl) (.int .i64 xf) (by go_simp) ?_)
                try simp only [Act.put, List.setIfInBounds_toArray, List.set_cons_zero, List.set_cons_succ]
                refine wpAny_T (i := 8) (op := Op.fieldAddr 41 (Operand.tmp 3) 6) (t := 0) (d := some 71) (v := ?_) rfl (by decide +kernel) (by decide +kernel) (by decide +kernel) (fun _ _ _ h => h) ?_ ?_
                case refine_2 => (intro _; unfold exec2; go_simp; try with_reducible rfl)
                try simp only [Act.put, List.setIfInBounds_toArray, List.set_cons_zero, List.set_cons_succ]
                refine wpAny_next 9 (by kernel_rfl) (op_st rfl (.pointer (some ⟨w.heap.size + 1, 6, none⟩)) (.int .i64 xf) (by kernel_rfl) (by kernel_rfl) (by go_simp; rfl) ?_)
                refine wpAny_done (by kernel_rfl) ?_ _
                go_simp
                generalize (w4.setCell ⟨w.heap.size + 1, 6, none⟩ (.int .i64 xf)) = w5 at *
                clear hcx m6 fz6
                go_wp2_with (fail)
                go_roundw
                case rel => exact ⟨t, t - f, xf, by congr 1; omega, rfl, by omega, BS4, Lib.hid BZ4.out.drew, Lib.hid (OC4.out.ext ((Ext.rf _).drew)), TE, TB, Lib.hid YY4.out.drew⟩
                case measure => simp [intOf]; omega
              · rw [if_neg hm, if_neg hm] at TB0
                have TB := Lib.hid TB0
                have d1 : decide ((top : Int) < (t : Int) - (f : Int)) = false := decide_eq_false (by omega)
                have d2 : ¬ (top : Int) < (t : Int) - (f : Int) := by omega
                have wr1 : IntKind.i64.wrap ((t : Int) - (f : Int)) = (t : Int) - (f : Int) := IntWalk.i64_in _ (by omega)
                clear TB0 XF R3 hcx
                go_wp2_with (fail)
                go_roundw
                case rel => exact ⟨t, top, best, rfl, rfl, by omega, BS3, BZ3, OC3, TE, TB, YY3⟩
                case measure => simp [intOf]; omega
        · obtain rfl : f = n := by omega
          have FB : Hid (BestIn (cellsE l) (cellsE l) best top) := Lib.hid (by
            have h := HB.out
            rw [← NL.out, List.take_length] at h
            exact h.perm (sortN_perm _) (sortN_perm _))
          have FIN : Hid (∃ r, r = sumsE l best) := Lib.hid ⟨_, rfl⟩
          have FS : Hid (sumsE l best = sumC (cntE (ofKind 1) l) (cntE (ofKind 2) l) (cntE (ofKind 3) l) (cntE (ofKind 4) l) (cntE ofFail l) (cntE Ent.quiet l) best) := Lib.hid rfl
          unfold CountPost
          rw [FS.out] at BS
          generalize cntE (ofKind 1) l = n1 at *
          generalize cntE (ofKind 2) l = n2 at *
          generalize cntE (ofKind 3) l = n3 at *
          generalize cntE (ofKind 4) l = n4 at *
          generalize cntE ofFail l = n5 at *
          generalize cntE Ent.quiet l = n6 at *
          have s0 : wo.cell? ⟨w.heap.size + 1, 0, none⟩ = some (.int .i64 n1) := BS.out.cell 0
          have s1 : wo.cell? ⟨w.heap.size + 1, 1, none⟩ = some (.int .i64 n2) := BS.out.cell 1
          have s2 : wo.cell? ⟨w.heap.size + 1, 2, none⟩ = some (.int .i64 n3) := BS.out.cell 2
          have s3 : wo.cell? ⟨w.heap.size + 1, 3, none⟩ = some (.int .i64 n4) := BS.out.cell 3
          have s4 : wo.cell? ⟨w.heap.size + 1, 4, none⟩ = some (.int .i64 n5) := BS.out.cell 4
          have s5 : wo.cell? ⟨w.heap.size + 1, 5, none⟩ = some (.int .i64 n6) := BS.out.cell 5
          have s6 : wo.cell? ⟨w.heap.size + 1, 6, none⟩ = some (.int .i64 best) := BS.out.cell 6
          have z0 : wo.cell? ⟨w.heap.size, 0, none⟩ = some (.int .i64 0) := BZ.out.cell 0
          have z1 : wo.cell? ⟨w.heap.size, 1, none⟩ = some (.int .i64 0) := BZ.out.cell 1
          have z2 : wo.cell? ⟨w.heap.size, 2, none⟩ = some (.int .i64 0) := BZ.out.cell 2
          have z3 : wo.cell? ⟨w.heap.size, 3, none⟩ = some (.int .i64 0) := BZ.out.cell 3
          have z4 : wo.cell? ⟨w.heap.size, 4, none⟩ = some (.int .i64 0) := BZ.out.cell 4
          have z5 : wo.cell? ⟨w.heap.size, 5, none⟩ = some (.int .i64 0) := BZ.out.cell 5
          have z6 : wo.cell? ⟨w.heap.size, 6, none⟩ = some (.int .i64 0) := BZ.out.cell 6
          have f0 := BZ.out.free 0
          have f1 := BZ.out.free 1
          have f2 := BZ.out.free 2
          have f3 := BZ.out.free 3
          have f4 := BZ.out.free 4
          have f5 := BZ.out.free 5
          have f6 := BZ.out.free 6
          have BF : Hid (Blk (((((((wo.setCell ⟨w.heap.size, 0, none⟩ (.int .i64 n1)).setCell ⟨w.heap.size, 1, none⟩ (.int .i64 n2)).setCell ⟨w.heap.size, 2, none⟩ (.int .i64 n3)).setCell ⟨w.heap.size, 3, none⟩ (.int .i64 n4)).setCell ⟨w.heap.size, 4, none⟩ (.int .i64 n5)).setCell ⟨w.heap.size, 5, none⟩ (.int .i64 n6)).setCell ⟨w.heap.size, 6, none⟩ (.int .i64 best)) w.heap.size 41 (sumC n1 n2 n3 n4 n5 n6 best)) :=
            Lib.hid (((((((BZ.out.set 0 (.int .i64 n1)).set 1 (.int .i64 n2)).set 2 (.int .i64 n3)).set 3 (.int .i64 n4)).set 4 (.int .i64 n5)).set 5 (.int .i64 n6)).set 6 (.int .i64 best))
          have YF : Hid (Ext w (((((((wo.setCell ⟨w.heap.size, 0, none⟩ (.int .i64 n1)).setCell ⟨w.heap.size, 1, none⟩ (.int .i64 n2)).setCell ⟨w.heap.size, 2, none⟩ (.int .i64 n3)).setCell ⟨w.heap.size, 3, none⟩ (.int .i64 n4)).setCell ⟨w.heap.size, 4, none⟩ (.int .i64 n5)).setCell ⟨w.heap.size, 5, none⟩ (.int .i64 n6)).setCell ⟨w.heap.size, 6, none⟩ (.int .i64 best))) :=
            Lib.hid (((((((Y.out.setNew (p := ⟨w.heap.size, 0, none⟩) (Nat.le_refl _) _).setNew (p := ⟨w.heap.size, 1, none⟩) (Nat.le_refl _) _).setNew (p := ⟨w.heap.size, 2, none⟩) (Nat.le_refl _) _).setNew (p := ⟨w.heap.size, 3, none⟩) (Nat.le_refl _) _).setNew (p := ⟨w.heap.size, 4, none⟩) (Nat.le_refl _) _).setNew (p := ⟨w.heap.size, 5, none⟩) (Nat.le_refl _) _).setNew (p := ⟨w.heap.size, 6, none⟩) (Nat.le_refl _) _)
          clear FIN HB HE OC
          go_wp2_with (fail)
          generalize (((((((wo.setCell ⟨w.heap.size, 0, none⟩ (.int .i64 n1)).setCell ⟨w.heap.size, 1, none⟩ (.int .i64 n2)).setCell ⟨w.heap.size, 2, none⟩ (.int .i64 n3)).setCell ⟨w.heap.size, 3, none⟩ (.int .i64 n4)).setCell ⟨w.heap.size, 4, none⟩ (.int .i64 n5)).setCell ⟨w.heap.size, 5, none⟩ (.int .i64 n6)).setCell ⟨w.heap.size, 6, none⟩ (.int .i64 best)) = wf at *
          have e0 : wf.cell? ⟨w.heap.size, 0, none⟩ = some (.int .i64 n1) := BF.out.cell 0
          have e1 : wf.cell? ⟨w.heap.size, 1, none⟩ = some (.int .i64 n2) := BF.out.cell 1
          have e2 : wf.cell? ⟨w.heap.size, 2, none⟩ = some (.int .i64 n3) := BF.out.cell 2
          have e3 : wf.cell? ⟨w.heap.size, 3, none⟩ = some (.int .i64 n4) := BF.out.cell 3
          have e4 : wf.cell? ⟨w.heap.size, 4, none⟩ = some (.int .i64 n5) := BF.out.cell 4
          have e5 : wf.cell? ⟨w.heap.size, 5, none⟩ = some (.int .i64 n6) := BF.out.cell 5
          have e6 : wf.cell? ⟨w.heap.size, 6, none⟩ = some (.int .i64 best) := BF.out.cell 6
          refine bodyPost_ret (v := .agg (sumC n1 n2 n3 n4 n5 n6 best)) (by simp [results, Tryd.results13, go_sem, sumC, *]) rfl ⟨best, top, ?_, FB.out, YF.out⟩
          rw [FS.out]
end Go.Proofs.YtcpadkaljnnieaaDoor
namespace Go.Proofs.YtcpadkaljnnieaaDoor
open Go.RowKit Go.ChangeShapes Go.WideShapes Go.ChangeAt

/-- the variables that the row lists -/
def tabN : List (String × DataW Unit) := [("math/bits.deBruijn32tab", Rows.laid_math_bits_deBruijn32tab), ("math/bits.deBruijn64tab", Rows.laid_math_bits_deBruijn64tab), ("internal/strconv.uint64pow10", Rows.laid_internal_strconv_uint64pow10), ("unicode/utf8.acceptRanges", Rows.laid_unicode_utf8_acceptRanges), ("unicode/utf8.first", Rows.laid_unicode_utf8_first)]
theorem tenDataN : (Rows.laid_internal_strconv_uint64pow10 : DataW Unit) = Lib.tabData .u64 Lib.pow10Tab := by kernel_rfl
theorem ten_of_laid {W : World} (h : laidMetH Tryd.prog tabN W) : Ten W := by
  rw [MakeChecks.laidMetH_plain _ _ _ (by kernel_rfl)] at h
  unfold tabN at h
  have h1 := laidMet.tail h
  have h2 := laidMet.tail h1
  rw [tenDataN] at h2
  exact Lib.tabIs_of_head (g := 1) (t := 135) (e := 106) (n := 20) (by kernel_rfl) (by kernel_rfl) Tryd.underlying135 Tryd.underlying106 (by kernel_rfl) (by kernel_rfl) h2
end Go.Proofs.YtcpadkaljnnieaaDoor
