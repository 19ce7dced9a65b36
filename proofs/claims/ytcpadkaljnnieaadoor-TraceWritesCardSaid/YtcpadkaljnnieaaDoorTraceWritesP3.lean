/-
  trace.entry: a line of two words, of six words.
  trace.entry: a line of six words.
  trace.entry at a line that was written; trace.Read at lines that were written; the law's own example.
  kurganref33.entry: a line that was written.
  kurganref33.entry: a line of six words.
  The law's own example; the document's entries as the program's.
-/
import Derived.Test.YtcpadkaljnnieaaDoorTraceWritesP2
namespace Go.Proofs.YtcpadkaljnnieaaDoor
open Go.RowKit Go.ChangeShapes Go.WideShapes Go.ChangeAt Go.Deep

theorem numT_i64 (s : Txt) : i64 (numT s) := by
  obtain ⟨h1, h2⟩ := readD_range (Lib.trimPrefix s [45])
  unfold numT i64
  simp only
  split
  · omega
  split <;> omega
theorem i64_0 : i64 0 := by unfold i64; omega
/-- an entry's six cells are put in -/
def ent6W (W : World) (g : Nat) (a0 a1 a2 a3 a4 a5 : Value) : World := ((((((W.setCell ⟨g, 0, none⟩ a0).setCell ⟨g, 1, none⟩ a1).setCell ⟨g, 2, none⟩ a2).setCell ⟨g, 3, none⟩ a3).setCell ⟨g, 4, none⟩ a4).setCell ⟨g, 5, none⟩ a5)
theorem ent_put {W : World} {g : Nat} {t : TypeId} {o0 o1 o2 o3 o4 o5 : Value} (h : Blk W g t #[o0, o1, o2, o3, o4, o5]) (a0 a1 a2 a3 a4 a5 : Value) : Blk (ent6W W g a0 a1 a2 a3 a4 a5) g t #[a0, a1, a2, a3, a4, a5] :=
  (((((h.set 0 a0).set 1 a1).set 2 a2).set 3 a3).set 4 a4).set 5 a5
theorem Ext.ent6 {w W : World} {g : Nat} {a0 a1 a2 a3 a4 a5 : Value} (h : Ext w W) (hg : w.heap.size ≤ g) : Ext w (ent6W W g a0 a1 a2 a3 a4 a5) :=
  (((((h.setNew (p := ⟨g, 0, none⟩) hg a0).setNew (p := ⟨g, 1, none⟩) hg a1).setNew (p := ⟨g, 2, none⟩) hg a2).setNew (p := ⟨g, 3, none⟩) hg a3).setNew (p := ⟨g, 4, none⟩) hg a4).setNew (p := ⟨g, 5, none⟩) hg a5
/-- what is told of a line -/
def EntryPost (s : Txt) (w : World) (r : Ending) (w' : World) : Prop := r = .returned (.tuple #[.agg (entC (entryT s).1), .bool (entryT s).2]) ∧ Ext w w'
set_option maxRecDepth 100000 in
set_option maxHeartbeats 4000000 in
theorem entry2_any (s a0 a1 : Txt) (hs : splitC 32 s = [a0, a1]) (hl : s.length ≤ 1000) (hp : ∀ x ∈ [a0, a1], Plain x ∧ x.length ≤ 1000) (w : World) (hT : Ten w) :
    Calls Tryd.prog 20 #[.string ⟨s.toArray⟩] w (EntryPost s w) := by
  have SP := fun (W : World) => split1_any s 32 W (by omega)
  rw [hs] at SP
  have NU := Lib.hid (fun (W : World) => number_t a0 W (hp a0 (by simp)).1 (by have := (hp a0 (by simp)).2; omega))
  have SX := Lib.hid (fun (W : World) (A : Option Addr) (c : Nat) (h : RdV W 9 A (txV [a0, a1])) => short_any A c [a0, a1] W h (by simp [maxLen]) (fun x hx => ⟨(hp x hx).1, by have := (hp x hx).2; omega⟩))
  have hE : entryE [a0, a1] = ⟨numT a0, 0, 0, 0, 0, false⟩ := by unfold entryE; rw [if_neg (by simp)]; rfl
  have hI : (Ent.mk (numT a0) 0 0 0 0 false).In := ⟨numT_i64 a0, i64_0, i64_0, i64_0, i64_0⟩
  have LX := Lib.hid (fun (W : World) (x : Ext w W) => line_any ⟨numT a0, 0, 0, 0, 0, false⟩ W hI (hT.ext x))
  unfold EntryPost
  have hR : entryT s = (⟨numT a0, 0, 0, 0, 0, false⟩, (Ent.mk (numT a0) 0 0 0 0 false).line.2 && decide ((Ent.mk (numT a0) 0 0 0 0 false).line.1 = s) && shortT [a0, a1]) := by
    unfold entryT
    simp only [hs, hE]
  rw [hR]
  clear hR hE hI hT hp hs
  generalize (Ent.mk (numT a0) 0 0 0 0 false).line = lr at *
  obtain ⟨t, ok⟩ := lr
  simp only at LX ⊢
  obtain ⟨res, hres⟩ : ∃ res, Hid ((ok && decide (t = s) && shortT [a0, a1]) = res) := ⟨_, rfl⟩
  rw [hres.out]
  have RES1 : Hid (ok = false → res = false) := Lib.hid (by rintro rfl; have := hres.out; simpa using this.symm)
  have RES2 : Hid (t ≠ s → res = false) := Lib.hid (by intro h; have := hres.out; simpa [h] using this.symm)
  have RES3 : Hid (ok = true → t = s → res = shortT [a0, a1]) := Lib.hid (by rintro rfl rfl; have := hres.out; simpa using this.symm)
  clear hres
  obtain ⟨n0, hn0⟩ : ∃ n0, numT a0 = n0 := ⟨_, rfl⟩
  rw [hn0] at NU LX ⊢
  clear hn0
  obtain ⟨n1, hn1⟩ : ∃ n1 : Int, n1 = 0 := ⟨_, rfl⟩
  simp only [txV, txS, List.map_cons, List.map_nil, List.length_cons, List.length_nil, Nat.zero_add, Nat.reduceAdd] at SP
  unfold txS at LX
  unfold entC at LX ⊢
  simp only at LX ⊢
  replace SP := Lib.hid SP
  clear hn1
  go_enter Tryd.func20, Tryd.ntmps20
  go_wp2_with (fail)
  refine (SP.out _).mono ?_
  rintro e w1 ⟨rfl, rfl⟩
  have BR1 : Hid (Blk ((w.alloc (.cells #[.int .i64 0, .int .i64 0, .int .i64 0, .int .i64 0, .int .i64 0, .bool false] 50)).alloc (.cells #[.string ⟨a0.toArray⟩, .string ⟨a1.toArray⟩] 9)) w.heap.size 50 #[.int .i64 0, .int .i64 0, .int .i64 0, .int .i64 0, .int .i64 0, .bool false]) := .alloc (.new rfl) _
  have BW1 : Hid (Blk ((w.alloc (.cells #[.int .i64 0, .int .i64 0, .int .i64 0, .int .i64 0, .int .i64 0, .bool false] 50)).alloc (.cells #[.string ⟨a0.toArray⟩, .string ⟨a1.toArray⟩] 9)) (w.heap.size + 1) 9 #[.string ⟨a0.toArray⟩, .string ⟨a1.toArray⟩]) := .new (by simp)
  have XW1 : Hid (Ext w ((w.alloc (.cells #[.int .i64 0, .int .i64 0, .int .i64 0, .int .i64 0, .int .i64 0, .bool false] 50)).alloc (.cells #[.string ⟨a0.toArray⟩, .string ⟨a1.toArray⟩] 9))) := by (repeat (first | assumption | exact Ext.rf _ | apply Ext.drew | apply Ext.drewN | apply Ext.alloc))
  go_upto_region 3 with (go_at_call 33; refine (NU.out _).mono ?_; rintro e w2 ⟨rfl, x2⟩)
  have BE : Hid (Blk (w2.alloc (.cells #[.int .i64 n0, .int .i64 0, .int .i64 0, .int .i64 0, .int .i64 0, .bool false] 50)) w2.heap.size 50 #[.int .i64 n0, .int .i64 0, .int .i64 0, .int .i64 0, .int .i64 0, .bool false]) := .new rfl
  have BR := Lib.hid ((BR1.out.ext x2).alloc (.cells #[.int .i64 n0, .int .i64 0, .int .i64 0, .int .i64 0, .int .i64 0, .bool false] 50))
  have RW := Lib.hid (RdV.blk ((BW1.out.ext x2).alloc (.cells #[.int .i64 n0, .int .i64 0, .int .i64 0, .int .i64 0, .int .i64 0, .bool false] 50)))
  have YR := Lib.hid ((XW1.out.tr x2).alloc (.cells #[.int .i64 n0, .int .i64 0, .int .i64 0, .int .i64 0, .int .i64 0, .bool false] 50))
  have zb : w.heap.size < w2.heap.size := (BR1.out.ext x2).lt
  clear BR1 BW1 XW1 x2
  obtain ⟨gb, hgb⟩ : ∃ gb, gb = w2.heap.size := ⟨_, rfl⟩
  rw [← hgb] at zb BE ⊢
  clear hgb
  go_upto_region 10 with (fail)
  generalize (w2.alloc (.cells #[.int .i64 n0, .int .i64 0, .int .i64 0, .int .i64 0, .int .i64 0, .bool false] 50)) = wr at *
  have q0 : wr.cell? ⟨gb, 0, none⟩ = some (.int .i64 n0) := BE.out.cell 0
  have q1 : wr.cell? ⟨gb, 1, none⟩ = some (.int .i64 0) := BE.out.cell 1
  have q2 : wr.cell? ⟨gb, 2, none⟩ = some (.int .i64 0) := BE.out.cell 2
  have q3 : wr.cell? ⟨gb, 3, none⟩ = some (.int .i64 0) := BE.out.cell 3
  have q4 : wr.cell? ⟨gb, 4, none⟩ = some (.int .i64 0) := BE.out.cell 4
  have q5 : wr.cell? ⟨gb, 5, none⟩ = some (.bool false) := BE.out.cell 5
  go_wp2_with (fail)
  refine (LX.out _ (YR.out.tr (by (repeat (first | assumption | exact Ext.rf _ | apply Ext.drew | apply Ext.drewN | apply Ext.alloc))))).mono ?_
  rintro e wl ⟨rfl, xl⟩
  have YL := Lib.hid (YR.out.tr (Ext.tr (by (repeat (first | assumption | exact Ext.rf _ | apply Ext.drew | apply Ext.drewN | apply Ext.alloc))) xl))
  have BL := Lib.hid (Blk.ext (Blk.ext (w' := _) BE.out (by (repeat (first | assumption | exact Ext.rf _ | apply Ext.drew | apply Ext.drewN | apply Ext.alloc)))) xl)
  have BZ := Lib.hid (Blk.ext (Blk.ext (w' := _) BR.out (by (repeat (first | assumption | exact Ext.rf _ | apply Ext.drew | apply Ext.drewN | apply Ext.alloc)))) xl)
  have RL := Lib.hid (RdV.ext (RdV.ext (w' := _) RW.out (by (repeat (first | assumption | exact Ext.rf _ | apply Ext.drew | apply Ext.drewN | apply Ext.alloc)))) xl)
  have zl := Ext.tr (a := wr) (by (repeat (first | assumption | exact Ext.rf _ | apply Ext.drew | apply Ext.drewN | apply Ext.alloc))) xl |>.size
  have zb2 := BE.out.lt
  have zr2 := BR.out.lt
  clear q0 q1 q2 q3 q4 q5 xl BE BR RW YR LX
  have q0 : wl.cell? ⟨gb, 0, none⟩ = some (.int .i64 n0) := BL.out.cell 0
  have q1 : wl.cell? ⟨gb, 1, none⟩ = some (.int .i64 0) := BL.out.cell 1
  have q2 : wl.cell? ⟨gb, 2, none⟩ = some (.int .i64 0) := BL.out.cell 2
  have q3 : wl.cell? ⟨gb, 3, none⟩ = some (.int .i64 0) := BL.out.cell 3
  have q4 : wl.cell? ⟨gb, 4, none⟩ = some (.int .i64 0) := BL.out.cell 4
  have q5 : wl.cell? ⟨gb, 5, none⟩ = some (.bool false) := BL.out.cell 5
  cases ok with
  | false =>
    have HR := RES1.out rfl
    have r0 : wl.cell? ⟨w.heap.size, 0, none⟩ = some (.int .i64 0) := BZ.out.cell 0
    have r1 : wl.cell? ⟨w.heap.size, 1, none⟩ = some (.int .i64 0) := BZ.out.cell 1
    have r2 : wl.cell? ⟨w.heap.size, 2, none⟩ = some (.int .i64 0) := BZ.out.cell 2
    have r3 : wl.cell? ⟨w.heap.size, 3, none⟩ = some (.int .i64 0) := BZ.out.cell 3
    have r4 : wl.cell? ⟨w.heap.size, 4, none⟩ = some (.int .i64 0) := BZ.out.cell 4
    have r5 : wl.cell? ⟨w.heap.size, 5, none⟩ = some (.bool false) := BZ.out.cell 5
    have f0 := BZ.out.free 0
    have f1 := BZ.out.free 1
    have f2 := BZ.out.free 2
    have f3 := BZ.out.free 3
    have f4 := BZ.out.free 4
    have f5 := BZ.out.free 5
    have BF := Lib.hid (ent_put BZ.out (.int .i64 n0) (.int .i64 0) (.int .i64 0) (.int .i64 0) (.int .i64 0) (.bool false))
    have YF : Hid (Ext w (ent6W wl w.heap.size (.int .i64 n0) (.int .i64 0) (.int .i64 0) (.int .i64 0) (.int .i64 0) (.bool false))) := Lib.hid (YL.out.ent6 (Nat.le_refl _))
    unfold ent6W at BF YF
    go_wp2_with (fail)
    refine wp_region_any (by kernel_rfl) ?_
    change wpAny _ _ _ _ _ _ _ (World.drew _)
    refine wpAny_T (i := 1) (op := Op.move (Operand.tmp 8)) (t := 4) (d := some 56) (v := ?_) rfl (by decide +kernel) (by decide +kernel) (by decide +kernel) (fun _ _ _ h => h) ?_ ?_
    case refine_2 => (intro _; unfold exec2; go_simp; try with_reducible rfl)
    try simp only [Act.put, List.setIfInBounds_toArray, List.set_cons_zero, List.set_cons_succ]
    refine wpAny_T (i := 2) (op := Op.move (Operand.tmp 56)) (t := 4) (d := some 57) (v := ?_) rfl (by decide +kernel) (by decide +kernel) (by decide +kernel) (fun _ _ _ h => h) ?_ ?_
    case refine_2 => (intro _; unfold exec2; go_simp; try with_reducible rfl)
    try simp only [Act.put, List.setIfInBounds_toArray, List.set_cons_zero, List.set_cons_succ]
    refine wpAny_S (i := 3) (op := Op.move (Operand.tmp 7)) (t := 9) (d := some 58) (b := false) (g := (2, true)) rfl (by decide +kernel) (by decide +kernel) (by decide +kernel) (fun _ _ _ h => h) (by kernel_rfl) rfl ?_
    try simp only [Act.put, List.setIfInBounds_toArray, List.set_cons_zero, List.set_cons_succ]
    refine wpAny_S (i := 4) (op := Op.move (Operand.tmp 0)) (t := 9) (d := some 59) (b := false) (g := (2, true)) rfl (by decide +kernel) (by decide +kernel) (by decide +kernel) (fun _ _ _ h => h) (by kernel_rfl) rfl ?_
    try simp only [Act.put, List.setIfInBounds_toArray, List.set_cons_zero, List.set_cons_succ]
    refine wpAny_S (i := 5) (op := Op.binOp BinOp.eql 9 (Operand.tmp 58) (Operand.tmp 59) 9) (t := 4) (d := some 60) (b := false) (g := (2, true)) rfl (by decide +kernel) (by decide +kernel) (by decide +kernel) (fun _ _ _ h => h) (by kernel_rfl) rfl ?_
    try simp only [Act.put, List.setIfInBounds_toArray, List.set_cons_zero, List.set_cons_succ]
    refine wpAny_T (i := 6) (op := Op.pick (Operand.tmp 57) (Operand.tmp 60) (Operand.const (Value.bool false))) (t := 4) (d := some 61) (v := ?_) rfl (by decide +kernel) (by decide +kernel) (by decide +kernel) (fun _ _ _ h => h) ?_ ?_
    case refine_2 => (intro _; unfold exec2; go_simp; try with_reducible rfl)
    try simp only [Act.put, List.setIfInBounds_toArray, List.set_cons_zero, List.set_cons_succ]
    refine wpAny_T (i := 7) (op := Op.move (Operand.tmp 61)) (t := 4) (d := some 62) (v := ?_) rfl (by decide +kernel) (by decide +kernel) (by decide +kernel) (fun _ _ _ h => h) ?_ ?_
    case refine_2 => (intro _; unfold exec2; go_simp; try with_reducible rfl)
    try simp only [Act.put, List.setIfInBounds_toArray, List.set_cons_zero, List.set_cons_succ]
    refine wpAny_S (i := 8) (op := Op.move (Operand.tmp 4)) (t := 64) (d := some 63) (b := false) (g := (7, true)) rfl (by decide +kernel) (by decide +kernel) (by decide +kernel) (fun _ _ _ h => h) (by kernel_rfl) rfl ?_
    try simp only [Act.put, List.setIfInBounds_toArray, List.set_cons_zero, List.set_cons_succ]
    refine wpAny_S (i := 9) (op := Op.call { callee := Callee.value (Operand.func 34), args := #[Operand.tmp 63], argTypes := #[64] }) (t := 4) (d := some 64) (b := false) (g := (7, true)) rfl (by decide +kernel) (by decide +kernel) (by decide +kernel) (fun _ _ _ h => h) (by kernel_rfl) rfl ?_
    try simp only [Act.put, List.setIfInBounds_toArray, List.set_cons_zero, List.set_cons_succ]
    refine wpAny_T (i := 10) (op := Op.pick (Operand.tmp 62) (Operand.tmp 64) (Operand.const (Value.bool false))) (t := 4) (d := some 65) (v := ?_) rfl (by decide +kernel) (by decide +kernel) (by decide +kernel) (fun _ _ _ h => h) ?_ ?_
    case refine_2 => (intro _; unfold exec2; go_simp; try with_reducible rfl)
    try simp only [Act.put, List.setIfInBounds_toArray, List.set_cons_zero, List.set_cons_succ]
    refine wpAny_next 0 (by decide +kernel) (op_ld (T := 50) (x := Operand.tmp 5) (t := 50) (d := some 55) rfl (.pointer (some ⟨gb, 0, none⟩)) (by kernel_rfl) (.agg #[.int .i64 n0, .int .i64 0, .int .i64 0, .int .i64 0, .int .i64 0, .bool false]) (by go_simp) ?_)
    try simp only [Act.put, List.setIfInBounds_toArray, List.set_cons_zero, List.set_cons_succ]
    refine wpAny_next 11 (by kernel_rfl) (op_st rfl (.pointer (some ⟨w.heap.size, 0, none⟩)) (.agg #[.int .i64 n0, .int .i64 0, .int .i64 0, .int .i64 0, .int .i64 0, .bool false]) (by kernel_rfl) (by kernel_rfl) (by go_simp; rfl) ?_)
    try simp only [Act.put, List.setIfInBounds_toArray, List.set_cons_zero, List.set_cons_succ]
    refine wpAny_T (i := 12) (op := Op.assign (Operand.tmp 65)) (t := 4) (d := some 3) (v := ?_) rfl (by decide +kernel) (by decide +kernel) (by decide +kernel) (fun _ _ _ h => h) ?_ ?_
    case refine_2 => (intro _; unfold exec2; go_simp; try with_reducible rfl)
    try simp only [Act.put, List.setIfInBounds_toArray, List.set_cons_zero, List.set_cons_succ]
    refine wpAny_done (by kernel_rfl) ?_ _
    go_simp
    generalize ((((((wl.setCell ⟨w.heap.size, 0, none⟩ (.int .i64 n0)).setCell ⟨w.heap.size, 1, none⟩ (.int .i64 0)).setCell ⟨w.heap.size, 2, none⟩ (.int .i64 0)).setCell ⟨w.heap.size, 3, none⟩ (.int .i64 0)).setCell ⟨w.heap.size, 4, none⟩ (.int .i64 0)).setCell ⟨w.heap.size, 5, none⟩ (.bool false)) = wf at *
    clear r0 r1 r2 r3 r4 r5 f0 f1 f2 f3 f4 f5 q0 q1 q2 q3 q4 q5
    have r0 : wf.drew.cell? ⟨w.heap.size, 0, none⟩ = some (.int .i64 n0) := BF.out.drew.cell 0
    have r1 : wf.drew.cell? ⟨w.heap.size, 1, none⟩ = some (.int .i64 0) := BF.out.drew.cell 1
    have r2 : wf.drew.cell? ⟨w.heap.size, 2, none⟩ = some (.int .i64 0) := BF.out.drew.cell 2
    have r3 : wf.drew.cell? ⟨w.heap.size, 3, none⟩ = some (.int .i64 0) := BF.out.drew.cell 3
    have r4 : wf.drew.cell? ⟨w.heap.size, 4, none⟩ = some (.int .i64 0) := BF.out.drew.cell 4
    have r5 : wf.drew.cell? ⟨w.heap.size, 5, none⟩ = some (.bool false) := BF.out.drew.cell 5
    go_wp2_with (fail)
    refine bodyPost_ret (v := .tuple #[.agg #[.int .i64 n0, .int .i64 0, .int .i64 0, .int .i64 0, .int .i64 0, .bool false], .bool false]) (by simp [results, Tryd.results20, go_sem, *]) rfl ⟨by rw [HR], YF.out.drew⟩
  | true =>
    by_cases ht : t = s
    · skip
      subst ht
      have HR2 := Lib.hid (RES3.out rfl rfl)
      have h0 := BL.out.lt
      go_wp2_with (fail)
      go_region_held3 (fun W' => W'.cell? ⟨gb, 0, none⟩ = some (.int .i64 n0) ∧ W'.cell? ⟨gb, 1, none⟩ = some (.int .i64 0) ∧ W'.cell? ⟨gb, 2, none⟩ = some (.int .i64 0) ∧ W'.cell? ⟨gb, 3, none⟩ = some (.int .i64 0) ∧ W'.cell? ⟨gb, 4, none⟩ = some (.int .i64 0) ∧ W'.cell? ⟨gb, 5, none⟩ = some (.bool false)) (first | go_keep | (focus (go_simp; done)))
        (first
        | (go_at_call 34; refine (SX.out _ _ _ (RL.out.ext (by (repeat (first | assumption | exact Ext.rf _ | apply Ext.drew | apply Ext.drewN | apply Ext.alloc))))).mono ?_; rintro e wm ⟨rfl, xm⟩; have ym := Ext.tr (a := wl) (by (repeat (first | assumption | exact Ext.rf _ | apply Ext.drew | apply Ext.drewN | apply Ext.alloc))) xm; have s1 := keepEL ym h0 q0; have s2 := keepEL ym h0 q1; have s3 := keepEL ym h0 q2; have s4 := keepEL ym h0 q3; have s5 := keepEL ym h0 q4; have s6 := keepEL ym h0 q5; have Zm := Lib.hid (BZ.out.ext ym); have t0 := Zm.out.cell 0; have t1 := Zm.out.cell 1; have t2 := Zm.out.cell 2; have t3 := Zm.out.cell 3; have t4 := Zm.out.cell 4; have t5 := Zm.out.cell 5; have f0 := Zm.out.free 0; have f1 := Zm.out.free 1; have f2 := Zm.out.free 2; have f3 := Zm.out.free 3; have f4 := Zm.out.free 4; have f5 := Zm.out.free 5; simp only [List.getElem?_toArray, List.getElem?_cons_zero, List.getElem?_cons_succ] at t0 t1 t2 t3 t4 t5; have BF := Lib.hid (ent_put Zm.out (.int .i64 n0) (.int .i64 0) (.int .i64 0) (.int .i64 0) (.int .i64 0) (.bool false)); have YF : Hid (Ext w (ent6W wm w.heap.size (.int .i64 n0) (.int .i64 0) (.int .i64 0) (.int .i64 0) (.int .i64 0) (.bool false))) := Lib.hid ((YL.out.tr ym).ent6 (Nat.le_refl _)); unfold ent6W at BF YF))
      generalize ((((((wm.setCell ⟨w.heap.size, 0, none⟩ (.int .i64 n0)).setCell ⟨w.heap.size, 1, none⟩ (.int .i64 0)).setCell ⟨w.heap.size, 2, none⟩ (.int .i64 0)).setCell ⟨w.heap.size, 3, none⟩ (.int .i64 0)).setCell ⟨w.heap.size, 4, none⟩ (.int .i64 0)).setCell ⟨w.heap.size, 5, none⟩ (.bool false)) = wf at *
      clear t0 t1 t2 t3 t4 t5 f0 f1 f2 f3 f4 f5 q0 q1 q2 q3 q4 q5 s1 s2 s3 s4 s5 s6
      have r0 : wf.cell? ⟨w.heap.size, 0, none⟩ = some (.int .i64 n0) := BF.out.cell 0
      have r1 : wf.cell? ⟨w.heap.size, 1, none⟩ = some (.int .i64 0) := BF.out.cell 1
      have r2 : wf.cell? ⟨w.heap.size, 2, none⟩ = some (.int .i64 0) := BF.out.cell 2
      have r3 : wf.cell? ⟨w.heap.size, 3, none⟩ = some (.int .i64 0) := BF.out.cell 3
      have r4 : wf.cell? ⟨w.heap.size, 4, none⟩ = some (.int .i64 0) := BF.out.cell 4
      have r5 : wf.cell? ⟨w.heap.size, 5, none⟩ = some (.bool false) := BF.out.cell 5
      go_wp2_with (fail)
      refine bodyPost_ret (v := .tuple #[.agg #[.int .i64 n0, .int .i64 0, .int .i64 0, .int .i64 0, .int .i64 0, .bool false], .bool (shortT [a0, a1])]) (by simp [results, Tryd.results20, go_sem, *]) rfl ⟨by rw [HR2.out], YF.out⟩
    · have HR := RES2.out ht
      have ht2 : @BEq.beq (List UInt8) _ t s = false := beq_eq_false_iff_ne.2 ht
      have r0 : wl.cell? ⟨w.heap.size, 0, none⟩ = some (.int .i64 0) := BZ.out.cell 0
      have r1 : wl.cell? ⟨w.heap.size, 1, none⟩ = some (.int .i64 0) := BZ.out.cell 1
      have r2 : wl.cell? ⟨w.heap.size, 2, none⟩ = some (.int .i64 0) := BZ.out.cell 2
      have r3 : wl.cell? ⟨w.heap.size, 3, none⟩ = some (.int .i64 0) := BZ.out.cell 3
      have r4 : wl.cell? ⟨w.heap.size, 4, none⟩ = some (.int .i64 0) := BZ.out.cell 4
      have r5 : wl.cell? ⟨w.heap.size, 5, none⟩ = some (.bool false) := BZ.out.cell 5
      have f0 := BZ.out.free 0
      have f1 := BZ.out.free 1
      have f2 := BZ.out.free 2
      have f3 := BZ.out.free 3
      have f4 := BZ.out.free 4
      have f5 := BZ.out.free 5
      have BF := Lib.hid (ent_put BZ.out (.int .i64 n0) (.int .i64 0) (.int .i64 0) (.int .i64 0) (.int .i64 0) (.bool false))
      have YF : Hid (Ext w (ent6W wl w.heap.size (.int .i64 n0) (.int .i64 0) (.int .i64 0) (.int .i64 0) (.int .i64 0) (.bool false))) := Lib.hid (YL.out.ent6 (Nat.le_refl _))
      unfold ent6W at BF YF
      go_wp2_with (fail)
      refine wp_region_any (by kernel_rfl) ?_
      change wpAny _ _ _ _ _ _ _ (World.drew _)
      refine wpAny_T (i := 1) (op := Op.move (Operand.tmp 8)) (t := 4) (d := some 56) (v := ?_) rfl (by decide +kernel) (by decide +kernel) (by decide +kernel) (fun _ _ _ h => h) ?_ ?_
      case refine_2 => (intro _; unfold exec2; go_simp; try with_reducible rfl)
      try simp only [Act.put, List.setIfInBounds_toArray, List.set_cons_zero, List.set_cons_succ]
      refine wpAny_T (i := 2) (op := Op.move (Operand.tmp 56)) (t := 4) (d := some 57) (v := ?_) rfl (by decide +kernel) (by decide +kernel) (by decide +kernel) (fun _ _ _ h => h) ?_ ?_
      case refine_2 => (intro _; unfold exec2; go_simp; try with_reducible rfl)
      try simp only [Act.put, List.setIfInBounds_toArray, List.set_cons_zero, List.set_cons_succ]
      refine wpAny_G (i := 3) (op := Op.move (Operand.tmp 7)) (t := 9) (d := some 58) (g := (2, true)) (v := ?_) rfl (by decide +kernel) (by decide +kernel) (by decide +kernel) (fun _ _ _ h => h) (by kernel_rfl) ?_ ?_
      case refine_2 => (intro _; unfold exec2; go_simp; try with_reducible rfl)
      try simp only [Act.put, List.setIfInBounds_toArray, List.set_cons_zero, List.set_cons_succ]
      refine wpAny_G (i := 4) (op := Op.move (Operand.tmp 0)) (t := 9) (d := some 59) (g := (2, true)) (v := ?_) rfl (by decide +kernel) (by decide +kernel) (by decide +kernel) (fun _ _ _ h => h) (by kernel_rfl) ?_ ?_
      case refine_2 => (intro _; unfold exec2; go_simp; try with_reducible rfl)
      try simp only [Act.put, List.setIfInBounds_toArray, List.set_cons_zero, List.set_cons_succ]
      refine wpAny_G (i := 5) (op := Op.binOp BinOp.eql 9 (Operand.tmp 58) (Operand.tmp 59) 9) (t := 4) (d := some 60) (g := (2, true)) (v := .bool false) rfl (by decide +kernel) (by decide +kernel) (by decide +kernel) (fun _ _ _ h => h) (by kernel_rfl) ?_ ?_
      · (intro _; unfold exec2; go_simp; skip)
      try simp only [Act.put, List.setIfInBounds_toArray, List.set_cons_zero, List.set_cons_succ]
      refine wpAny_T (i := 6) (op := Op.pick (Operand.tmp 57) (Operand.tmp 60) (Operand.const (Value.bool false))) (t := 4) (d := some 61) (v := ?_) rfl (by decide +kernel) (by decide +kernel) (by decide +kernel) (fun _ _ _ h => h) ?_ ?_
      case refine_2 => (intro _; unfold exec2; go_simp; try with_reducible rfl)
      try simp only [Act.put, List.setIfInBounds_toArray, List.set_cons_zero, List.set_cons_succ]
      refine wpAny_T (i := 7) (op := Op.move (Operand.tmp 61)) (t := 4) (d := some 62) (v := ?_) rfl (by decide +kernel) (by decide +kernel) (by decide +kernel) (fun _ _ _ h => h) ?_ ?_
      case refine_2 => (intro _; unfold exec2; go_simp; try with_reducible rfl)
      try simp only [Act.put, List.setIfInBounds_toArray, List.set_cons_zero, List.set_cons_succ]
      refine wpAny_S (i := 8) (op := Op.move (Operand.tmp 4)) (t := 64) (d := some 63) (b := false) (g := (7, true)) rfl (by decide +kernel) (by decide +kernel) (by decide +kernel) (fun _ _ _ h => h) (by kernel_rfl) rfl ?_
      try simp only [Act.put, List.setIfInBounds_toArray, List.set_cons_zero, List.set_cons_succ]
      refine wpAny_S (i := 9) (op := Op.call { callee := Callee.value (Operand.func 34), args := #[Operand.tmp 63], argTypes := #[64] }) (t := 4) (d := some 64) (b := false) (g := (7, true)) rfl (by decide +kernel) (by decide +kernel) (by decide +kernel) (fun _ _ _ h => h) (by kernel_rfl) rfl ?_
      try simp only [Act.put, List.setIfInBounds_toArray, List.set_cons_zero, List.set_cons_succ]
      refine wpAny_T (i := 10) (op := Op.pick (Operand.tmp 62) (Operand.tmp 64) (Operand.const (Value.bool false))) (t := 4) (d := some 65) (v := ?_) rfl (by decide +kernel) (by decide +kernel) (by decide +kernel) (fun _ _ _ h => h) ?_ ?_
      case refine_2 => (intro _; unfold exec2; go_simp; try with_reducible rfl)
      try simp only [Act.put, List.setIfInBounds_toArray, List.set_cons_zero, List.set_cons_succ]
      refine wpAny_next 0 (by decide +kernel) (op_ld (T := 50) (x := Operand.tmp 5) (t := 50) (d := some 55) rfl (.pointer (some ⟨gb, 0, none⟩)) (by kernel_rfl) (.agg #[.int .i64 n0, .int .i64 0, .int .i64 0, .int .i64 0, .int .i64 0, .bool false]) (by go_simp) ?_)
      try simp only [Act.put, List.setIfInBounds_toArray, List.set_cons_zero, List.set_cons_succ]
      refine wpAny_next 11 (by kernel_rfl) (op_st rfl (.pointer (some ⟨w.heap.size, 0, none⟩)) (.agg #[.int .i64 n0, .int .i64 0, .int .i64 0, .int .i64 0, .int .i64 0, .bool false]) (by kernel_rfl) (by kernel_rfl) (by go_simp; rfl) ?_)
      try simp only [Act.put, List.setIfInBounds_toArray, List.set_cons_zero, List.set_cons_succ]
      refine wpAny_T (i := 12) (op := Op.assign (Operand.tmp 65)) (t := 4) (d := some 3) (v := ?_) rfl (by decide +kernel) (by decide +kernel) (by decide +kernel) (fun _ _ _ h => h) ?_ ?_
      case refine_2 => (intro _; unfold exec2; go_simp; try with_reducible rfl)
      try simp only [Act.put, List.setIfInBounds_toArray, List.set_cons_zero, List.set_cons_succ]
      refine wpAny_done (by kernel_rfl) ?_ _
      go_simp
      generalize ((((((wl.setCell ⟨w.heap.size, 0, none⟩ (.int .i64 n0)).setCell ⟨w.heap.size, 1, none⟩ (.int .i64 0)).setCell ⟨w.heap.size, 2, none⟩ (.int .i64 0)).setCell ⟨w.heap.size, 3, none⟩ (.int .i64 0)).setCell ⟨w.heap.size, 4, none⟩ (.int .i64 0)).setCell ⟨w.heap.size, 5, none⟩ (.bool false)) = wf at *
      clear r0 r1 r2 r3 r4 r5 f0 f1 f2 f3 f4 f5 q0 q1 q2 q3 q4 q5
      have r0 : wf.drew.cell? ⟨w.heap.size, 0, none⟩ = some (.int .i64 n0) := BF.out.drew.cell 0
      have r1 : wf.drew.cell? ⟨w.heap.size, 1, none⟩ = some (.int .i64 0) := BF.out.drew.cell 1
      have r2 : wf.drew.cell? ⟨w.heap.size, 2, none⟩ = some (.int .i64 0) := BF.out.drew.cell 2
      have r3 : wf.drew.cell? ⟨w.heap.size, 3, none⟩ = some (.int .i64 0) := BF.out.drew.cell 3
      have r4 : wf.drew.cell? ⟨w.heap.size, 4, none⟩ = some (.int .i64 0) := BF.out.drew.cell 4
      have r5 : wf.drew.cell? ⟨w.heap.size, 5, none⟩ = some (.bool false) := BF.out.drew.cell 5
      go_wp2_with (fail)
      refine bodyPost_ret (v := .tuple #[.agg #[.int .i64 n0, .int .i64 0, .int .i64 0, .int .i64 0, .int .i64 0, .bool false], .bool false]) (by simp [results, Tryd.results20, go_sem, *]) rfl ⟨by rw [HR], YF.out.drew⟩
end Go.Proofs.YtcpadkaljnnieaaDoor
namespace Go.Proofs.YtcpadkaljnnieaaDoor
open Go.RowKit Go.ChangeShapes Go.WideShapes Go.ChangeAt Go.Deep

theorem kindT_inj {a b : Int} (ha : 1 ≤ a ∧ a ≤ 4) (hb : 1 ≤ b ∧ b ≤ 4) (h : kindT a = kindT b) : a = b := by
  have := congrArg kindN h
  rwa [kindN_kindT ha, kindN_kindT hb] at this
/-- the kind that was found among the ones below k -/
def kUp (kd : Int) (k : Nat) : Int := if kd < k then kd else 0
theorem kUp_one {kd : Int} (h : 1 ≤ kd) : kUp kd 1 = 0 := by unfold kUp; rw [if_neg (by omega)]
theorem kUp_at (k : Nat) : kUp k (k + 1) = k := by unfold kUp; rw [if_pos (by omega)]
theorem kUp_ne {kd : Int} {k : Nat} (h : ¬ (k : Int) = kd) : kUp kd (k + 1) = kUp kd k := by
  unfold kUp
  by_cases h1 : kd < k
  · rw [if_pos h1, if_pos (by omega)]
  · rw [if_neg h1, if_neg (by omega)]
theorem kUp_five {kd : Int} (h : kd ≤ 4) : kUp kd 5 = kd := by unfold kUp; rw [if_pos (by omega)]
/-- an entry's step is put in -/
def opW (W : World) (g : Nat) (a1 a2 a3 a4 a5 : Value) : World := (((((W.setCell ⟨g, 1, none⟩ a1).setCell ⟨g, 2, none⟩ a2).setCell ⟨g, 3, none⟩ a3).setCell ⟨g, 4, none⟩ a4).setCell ⟨g, 5, none⟩ a5)
theorem op_put {W : World} {g : Nat} {t : TypeId} {o0 o1 o2 o3 o4 o5 : Value} (h : Blk W g t #[o0, o1, o2, o3, o4, o5]) (a1 a2 a3 a4 a5 : Value) : Blk (opW W g a1 a2 a3 a4 a5) g t #[o0, a1, a2, a3, a4, a5] :=
  ((((h.set 1 a1).set 2 a2).set 3 a3).set 4 a4).set 5 a5
theorem op_far {W : World} {g g' : Nat} {t : TypeId} {cs : Array Value} (h : Blk W g' t cs) (hne : g' ≠ g) (a1 a2 a3 a4 a5 : Value) : Blk (opW W g a1 a2 a3 a4 a5) g' t cs :=
  ((((h.far (p := ⟨g, 1, none⟩) hne a1).far (p := ⟨g, 2, none⟩) hne a2).far (p := ⟨g, 3, none⟩) hne a3).far (p := ⟨g, 4, none⟩) hne a4).far (p := ⟨g, 5, none⟩) hne a5
theorem Ext.op {w W : World} {g : Nat} {a1 a2 a3 a4 a5 : Value} (h : Ext w W) (hg : w.heap.size ≤ g) : Ext w (opW W g a1 a2 a3 a4 a5) :=
  ((((h.setNew (p := ⟨g, 1, none⟩) hg a1).setNew (p := ⟨g, 2, none⟩) hg a2).setNew (p := ⟨g, 3, none⟩) hg a3).setNew (p := ⟨g, 4, none⟩) hg a4).setNew (p := ⟨g, 5, none⟩) hg a5
set_option maxRecDepth 100000 in
set_option maxHeartbeats 8000000 in
theorem entry6_true (s a0 a2 a3 a4 : Txt) (kd : Int) (hk1 : 1 ≤ kd) (hk4 : kd ≤ 4) (hs : splitC 32 s = [a0, kindT kd, a2, a3, a4, [121, 101, 115]]) (hl : s.length ≤ 1000) (hp : ∀ x ∈ [a0, kindT kd, a2, a3, a4, [121, 101, 115]], Plain x ∧ x.length ≤ 1000) (w : World) (hT : Ten w) :
    Calls Tryd.prog 20 #[.string ⟨s.toArray⟩] w (EntryPost s w) := by
  have SP := fun (W : World) => split1_any s 32 W (by omega)
  rw [hs] at SP
  have NU0 := Lib.hid (fun (W : World) => number_t a0 W (hp a0 (by simp)).1 (by have := (hp a0 (by simp)).2; omega))
  have NU2 := Lib.hid (fun (W : World) => number_t a2 W (hp a2 (by simp)).1 (by have := (hp a2 (by simp)).2; omega))
  have NU3 := Lib.hid (fun (W : World) => number_t a3 W (hp a3 (by simp)).1 (by have := (hp a3 (by simp)).2; omega))
  have NU4 := Lib.hid (fun (W : World) => number_t a4 W (hp a4 (by simp)).1 (by have := (hp a4 (by simp)).2; omega))
  have KD := Lib.hid (fun (W : World) (k : Int) => kindt_any k W)
  have SX := Lib.hid (fun (W : World) (A : Option Addr) (c : Nat) (h : RdV W 9 A (txV [a0, kindT kd, a2, a3, a4, [121, 101, 115]])) => short_any A c [a0, kindT kd, a2, a3, a4, [121, 101, 115]] W h (by simp [maxLen]) (fun x hx => ⟨(hp x hx).1, by have := (hp x hx).2; omega⟩))
  have hE : entryE [a0, kindT kd, a2, a3, a4, [121, 101, 115]] = ⟨numT a0, kd, numT a2, numT a3, numT a4, true⟩ := by
    unfold entryE
    rw [if_pos (by simp)]
    simp only [List.getD_cons_zero, List.getD_cons_succ, kindN_kindT ⟨hk1, hk4⟩]
    simp
  have hI : (Ent.mk (numT a0) kd (numT a2) (numT a3) (numT a4) true).In := ⟨numT_i64 a0, ⟨by show _ ≤ kd; omega, by show kd ≤ _; omega⟩, numT_i64 a2, numT_i64 a3, numT_i64 a4⟩
  have LX := Lib.hid (fun (W : World) (x : Ext w W) => line_any ⟨numT a0, kd, numT a2, numT a3, numT a4, true⟩ W hI (hT.ext x))
  unfold EntryPost
  have hR : entryT s = (⟨numT a0, kd, numT a2, numT a3, numT a4, true⟩, (Ent.mk (numT a0) kd (numT a2) (numT a3) (numT a4) true).line.2 && decide ((Ent.mk (numT a0) kd (numT a2) (numT a3) (numT a4) true).line.1 = s) && shortT [a0, kindT kd, a2, a3, a4, [121, 101, 115]]) := by
    unfold entryT
    simp only [hs, hE]
  rw [hR]
  clear hR hE hI hT hp hs
  generalize (Ent.mk (numT a0) kd (numT a2) (numT a3) (numT a4) true).line = lr at *
  obtain ⟨t, ok⟩ := lr
  simp only at LX ⊢
  obtain ⟨st, hst⟩ : ∃ st, Hid (shortT [a0, kindT kd, a2, a3, a4, [121, 101, 115]] = st) := ⟨_, rfl⟩
  rw [hst.out] at SX ⊢
  obtain ⟨res, hres⟩ : ∃ res, Hid ((ok && decide (t = s) && st) = res) := ⟨_, rfl⟩
  rw [hres.out]
  have RES1 : Hid (ok = false → res = false) := Lib.hid (by rintro rfl; have := hres.out; simpa using this.symm)
  have RES2 : Hid (t ≠ s → res = false) := Lib.hid (by intro h; have := hres.out; simpa [h] using this.symm)
  have RES3 : Hid (ok = true → t = s → res = st) := Lib.hid (by rintro rfl rfl; have := hres.out; simpa using this.symm)
  clear hres hst
  generalize numT a0 = n0 at *
  generalize numT a2 = n2 at *
  generalize numT a3 = n3 at *
  generalize numT a4 = n4 at *
  simp only [txV, txS, List.map_cons, List.map_nil, List.length_cons, List.length_nil, Nat.zero_add, Nat.reduceAdd] at SP
  unfold txS at LX KD
  unfold entC at LX ⊢
  simp only at LX ⊢
  replace SP := Lib.hid SP
  go_enter Tryd.func20, Tryd.ntmps20
  go_wp2_with (fail)
  refine (SP.out _).mono ?_
  rintro e w1 ⟨rfl, rfl⟩
  have BR1 : Hid (Blk ((w.alloc (.cells #[.int .i64 0, .int .i64 0, .int .i64 0, .int .i64 0, .int .i64 0, .bool false] 50)).alloc (.cells #[.string ⟨a0.toArray⟩, .string ⟨(kindT kd).toArray⟩, .string ⟨a2.toArray⟩, .string ⟨a3.toArray⟩, .string ⟨a4.toArray⟩, .string ⟨#[121, 101, 115]⟩] 9)) w.heap.size 50 #[.int .i64 0, .int .i64 0, .int .i64 0, .int .i64 0, .int .i64 0, .bool false]) := .alloc (.new rfl) _
  have BW1 : Hid (Blk ((w.alloc (.cells #[.int .i64 0, .int .i64 0, .int .i64 0, .int .i64 0, .int .i64 0, .bool false] 50)).alloc (.cells #[.string ⟨a0.toArray⟩, .string ⟨(kindT kd).toArray⟩, .string ⟨a2.toArray⟩, .string ⟨a3.toArray⟩, .string ⟨a4.toArray⟩, .string ⟨#[121, 101, 115]⟩] 9)) (w.heap.size + 1) 9 #[.string ⟨a0.toArray⟩, .string ⟨(kindT kd).toArray⟩, .string ⟨a2.toArray⟩, .string ⟨a3.toArray⟩, .string ⟨a4.toArray⟩, .string ⟨#[121, 101, 115]⟩]) := .new (by simp)
  have XW1 : Hid (Ext w ((w.alloc (.cells #[.int .i64 0, .int .i64 0, .int .i64 0, .int .i64 0, .int .i64 0, .bool false] 50)).alloc (.cells #[.string ⟨a0.toArray⟩, .string ⟨(kindT kd).toArray⟩, .string ⟨a2.toArray⟩, .string ⟨a3.toArray⟩, .string ⟨a4.toArray⟩, .string ⟨#[121, 101, 115]⟩] 9))) := by (repeat (first | assumption | exact Ext.rf _ | apply Ext.drew | apply Ext.drewN | apply Ext.alloc))
  go_upto_region 3 with (go_at_call 33; refine (NU0.out _).mono ?_; rintro e w2 ⟨rfl, x2⟩)
  have BE0 : Hid (Blk (w2.alloc (.cells #[.int .i64 n0, .int .i64 0, .int .i64 0, .int .i64 0, .int .i64 0, .bool false] 50)) w2.heap.size 50 #[.int .i64 n0, .int .i64 0, .int .i64 0, .int .i64 0, .int .i64 0, .bool false]) := .new rfl
  have BR0 := Lib.hid ((BR1.out.ext x2).alloc (.cells #[.int .i64 n0, .int .i64 0, .int .i64 0, .int .i64 0, .int .i64 0, .bool false] 50))
  have BW0 := Lib.hid ((BW1.out.ext x2).alloc (.cells #[.int .i64 n0, .int .i64 0, .int .i64 0, .int .i64 0, .int .i64 0, .bool false] 50))
  have YR0 := Lib.hid ((XW1.out.tr x2).alloc (.cells #[.int .i64 n0, .int .i64 0, .int .i64 0, .int .i64 0, .int .i64 0, .bool false] 50))
  have zb : w.heap.size < w2.heap.size := (BR1.out.ext x2).lt
  have zb1 : w.heap.size + 1 < w2.heap.size := (BW1.out.ext x2).lt
  clear BR1 BW1 XW1 x2
  obtain ⟨gb, hgb⟩ : ∃ gb, gb = w2.heap.size := ⟨_, rfl⟩
  rw [← hgb] at zb zb1 BE0 ⊢
  clear hgb
  go_upto_region 4 with (fail)
  generalize (w2.alloc (.cells #[.int .i64 n0, .int .i64 0, .int .i64 0, .int .i64 0, .int .i64 0, .bool false] 50)) = wa at *
  have zW := BW0.out.lt
  have c2 : wa.cell? ⟨w.heap.size + 1, 2, none⟩ = some (.string ⟨a2.toArray⟩) := BW0.out.cell 2
  have c3 : wa.cell? ⟨w.heap.size + 1, 3, none⟩ = some (.string ⟨a3.toArray⟩) := BW0.out.cell 3
  have c4 : wa.cell? ⟨w.heap.size + 1, 4, none⟩ = some (.string ⟨a4.toArray⟩) := BW0.out.cell 4
  have c5 : wa.cell? ⟨w.heap.size + 1, 5, none⟩ = some (.string ⟨#[121, 101, 115]⟩) := BW0.out.cell 5
  go_region_held3 (fun W' => W'.cell? ⟨w.heap.size + 1, 2, none⟩ = some (.string ⟨a2.toArray⟩) ∧ W'.cell? ⟨w.heap.size + 1, 3, none⟩ = some (.string ⟨a3.toArray⟩) ∧ W'.cell? ⟨w.heap.size + 1, 4, none⟩ = some (.string ⟨a4.toArray⟩) ∧ W'.cell? ⟨w.heap.size + 1, 5, none⟩ = some (.string ⟨#[121, 101, 115]⟩)) (first | go_keep | (focus (go_simp; done)))
    (first
    | (go_at_call_of 33 (Value.string ⟨a2.toArray⟩); refine (NU2.out _).mono ?_; rintro e w3 ⟨rfl, x3⟩; have y3 := Ext.tr (a := wa) (by (repeat (first | assumption | exact Ext.rf _ | apply Ext.drew | apply Ext.drewN | apply Ext.alloc))) x3; have s1 := keepEL y3 zW c2; have s2 := keepEL y3 zW c3; have s3 := keepEL y3 zW c4; have s4 := keepEL y3 zW c5)
    | (go_at_call_of 33 (Value.string ⟨a3.toArray⟩); refine (NU3.out _).mono ?_; rintro e w4 ⟨rfl, x4⟩; have y4 := Ext.tr (a := wa) (by (repeat (first | assumption | exact Ext.rf _ | apply Ext.drew | apply Ext.drewN | apply Ext.alloc))) x4; have s1 := keepEL y4 zW c2; have s2 := keepEL y4 zW c3; have s3 := keepEL y4 zW c4; have s4 := keepEL y4 zW c5)
    | (go_at_call_of 33 (Value.string ⟨a4.toArray⟩); refine (NU4.out _).mono ?_; rintro e w5 ⟨rfl, x5⟩; have y5 := Ext.tr (a := wa) (by (repeat (first | assumption | exact Ext.rf _ | apply Ext.drew | apply Ext.drewN | apply Ext.alloc))) x5; have s1 := keepEL y5 zW c2; have s2 := keepEL y5 zW c3; have s3 := keepEL y5 zW c4; have s4 := keepEL y5 zW c5; have Zm := Lib.hid (BE0.out.ext y5); have t1 := Zm.out.cell 1; have t2 := Zm.out.cell 2; have t3 := Zm.out.cell 3; have t4 := Zm.out.cell 4; have t5 := Zm.out.cell 5; have f1 := Zm.out.free 1; have f2 := Zm.out.free 2; have f3 := Zm.out.free 3; have f4 := Zm.out.free 4; have f5 := Zm.out.free 5; simp only [List.getElem?_toArray, List.getElem?_cons_zero, List.getElem?_cons_succ] at t1 t2 t3 t4 t5;
       have BE5 := Lib.hid (op_put Zm.out (.int .i64 0) (.int .i64 n2) (.int .i64 n3) (.int .i64 n4) (.bool true)); have BR5 := Lib.hid (op_far (BR0.out.ext y5) (show w.heap.size ≠ gb by omega) (.int .i64 0) (.int .i64 n2) (.int .i64 n3) (.int .i64 n4) (.bool true)); have BW5 := Lib.hid (op_far (BW0.out.ext y5) (show w.heap.size + 1 ≠ gb by omega) (.int .i64 0) (.int .i64 n2) (.int .i64 n3) (.int .i64 n4) (.bool true)); have YR5 : Hid (Ext w (opW w5 gb (.int .i64 0) (.int .i64 n2) (.int .i64 n3) (.int .i64 n4) (.bool true))) := Lib.hid ((YR0.out.tr y5).op (Nat.le_of_lt zb)); unfold opW at BE5 BR5 BW5 YR5))
  generalize (((((w5.setCell ⟨gb, 1, none⟩ (.int .i64 0)).setCell ⟨gb, 2, none⟩ (.int .i64 n2)).setCell ⟨gb, 3, none⟩ (.int .i64 n3)).setCell ⟨gb, 4, none⟩ (.int .i64 n4)).setCell ⟨gb, 5, none⟩ (.bool true)) = wb at *
  clear s1 s2 s3 s4 t1 t2 t3 t4 t5 f1 f2 f3 f4 f5 Zm x3 x4 x5 y3 y4 y5 c2 c3 c4 c5 zW NU0 NU2 NU3 NU4 SP BE0 BR0 BW0 YR0
  go_wp2_with (fail)
  go_loopw [6] (fun kv wr => ∃ k : Nat, kv = .int .i64 k ∧ 1 ≤ k ∧ k ≤ 5 ∧ Hid (Blk wr gb 50 #[.int .i64 n0, .int .i64 (kUp kd k), .int .i64 n2, .int .i64 n3, .int .i64 n4, .bool true]) ∧ Hid (Blk wr w.heap.size 50 #[.int .i64 0, .int .i64 0, .int .i64 0, .int .i64 0, .int .i64 0, .bool false]) ∧ Hid (Blk wr (w.heap.size + 1) 9 #[.string ⟨a0.toArray⟩, .string ⟨(kindT kd).toArray⟩, .string ⟨a2.toArray⟩, .string ⟨a3.toArray⟩, .string ⟨a4.toArray⟩, .string ⟨#[121, 101, 115]⟩]) ∧ Hid (Ext w wr)) (fun kv _ => 5 - (intOf kv).toNat)
  case atStart => exact ⟨1, rfl, by omega, by omega, by rw [kUp_one hk1]; exact BE5, BR5, BW5, YR5⟩
  case round =>
    clear BE5 BR5 BW5 YR5
    obtain ⟨k, rfl, k1, k5, BE, BR, BW, YR⟩ := hrel
    by_cases k4 : k ≤ 4
    · have zW := BW.out.lt
      have c1 : wr.cell? ⟨w.heap.size + 1, 1, none⟩ = some (.string ⟨(kindT kd).toArray⟩) := BW.out.cell 1
      have q1 : (k : Int) ≤ 4 := by omega
      by_cases hkd : (k : Int) = kd
      · have e0 : Hid (kindT (k : Int) = kindT kd) := Lib.hid (by rw [hkd])
        have KU : Hid (kUp kd (k + 1) = (k : Int)) := Lib.hid (by rw [← hkd]; exact kUp_at k)
        replace KD := Lib.hid (KD.out · (k : Int))
        rw [e0.out] at KD
        have hkdH := Lib.hid hkd
        clear hkd e0
        obtain ⟨kt, hkt⟩ : ∃ kt, kindT kd = kt := ⟨_, rfl⟩
        rw [hkt] at KD c1
        clear hkt
        go_wp2_with (fail)
        go_region_held3 (fun W' => W'.cell? ⟨w.heap.size + 1, 1, none⟩ = some (.string ⟨kt.toArray⟩)) (first | go_keep | (focus (go_simp; done)))
          (first
          | (go_at_call 27; refine (KD.out _).mono ?_; rintro e w6 ⟨rfl, x6⟩; have y6 := Ext.tr (a := wr) (by (repeat (first | assumption | exact Ext.rf _ | apply Ext.drew | apply Ext.drewN | apply Ext.alloc))) x6; have s1 := keepEL y6 zW c1; have Zm := Lib.hid (BE.out.ext y6); have t1 := Zm.out.cell 1; have f1 := Zm.out.free 1; simp only [List.getElem?_toArray, List.getElem?_cons_zero, List.getElem?_cons_succ] at t1))
        have BE6 : Hid (Blk (w6.setCell ⟨gb, 1, none⟩ (.int .i64 k)) gb 50 #[.int .i64 n0, .int .i64 (kUp kd (k + 1)), .int .i64 n2, .int .i64 n3, .int .i64 n4, .bool true]) := by rw [KU.out]; exact Lib.hid (Zm.out.set 1 (.int .i64 k))
        have BR6 := Lib.hid ((BR.out.ext y6).far (p := ⟨gb, 1, none⟩) (show w.heap.size ≠ gb by omega) (.int .i64 k))
        have BW6 := Lib.hid ((BW.out.ext y6).far (p := ⟨gb, 1, none⟩) (show w.heap.size + 1 ≠ gb by omega) (.int .i64 k))
        have YR6 : Hid (Ext w (w6.setCell ⟨gb, 1, none⟩ (.int .i64 k))) := Lib.hid ((YR.out.tr y6).setNew (p := ⟨gb, 1, none⟩) (Nat.le_of_lt zb) _)
        clear s1 Zm y6 x6 BE BR BW YR c1 KU
        go_wp2_with (fail)
        go_roundw
        case rel => exact ⟨k + 1, by go_num, by omega, by omega, BE6, BR6, BW6, YR6⟩
        case measure => simp [intOf]; omega
      · have e0 : kindT (k : Int) ≠ kindT kd := fun h => hkd (kindT_inj ⟨by omega, by omega⟩ ⟨hk1, hk4⟩ h)
        have KU : Hid (kUp kd (k + 1) = kUp kd k) := Lib.hid (kUp_ne hkd)
        replace KD := Lib.hid (KD.out · (k : Int))
        obtain ⟨kt, hkt⟩ : ∃ kt, kindT kd = kt := ⟨_, rfl⟩
        obtain ⟨kx, hkx⟩ : ∃ kx, kindT (k : Int) = kx := ⟨_, rfl⟩
        rw [hkt] at c1 e0
        rw [hkx] at KD e0
        have e1 : @BEq.beq (List UInt8) _ kx kt = false := beq_eq_false_iff_ne.2 e0
        clear hkt hkx hkd e0
        go_wp2_with (fail)
        go_region_held3 (fun W' => W'.cell? ⟨w.heap.size + 1, 1, none⟩ = some (.string ⟨kt.toArray⟩)) (first | go_keep | (focus (go_simp; done)))
          (first
          | (go_at_call 27; refine (KD.out _).mono ?_; rintro e w6 ⟨rfl, x6⟩; have y6 := Ext.tr (a := wr) (by (repeat (first | assumption | exact Ext.rf _ | apply Ext.drew | apply Ext.drewN | apply Ext.alloc))) x6; have s1 := keepEL y6 zW c1))
        have BE6 : Hid (Blk w6 gb 50 #[.int .i64 n0, .int .i64 (kUp kd (k + 1)), .int .i64 n2, .int .i64 n3, .int .i64 n4, .bool true]) := by rw [KU.out]; exact Lib.hid (BE.out.ext y6)
        have BR6 := Lib.hid (BR.out.ext y6)
        have BW6 := Lib.hid (BW.out.ext y6)
        have YR6 := Lib.hid (YR.out.tr y6)
        clear s1 y6 x6 BE BR BW YR c1 KU
        go_wp2_with (fail)
        go_roundw
        case rel => exact ⟨k + 1, by go_num, by omega, by omega, BE6, BR6, BW6, YR6⟩
        case measure => simp [intOf]; omega
    · obtain rfl : k = 5 := by omega
      rw [kUp_five hk4] at BE
      have RW := Lib.hid (RdV.blk BW.out)
      clear k4 k5 k1 BW KD
      have q0 : wr.cell? ⟨gb, 0, none⟩ = some (.int .i64 n0) := BE.out.cell 0
      have q1 : wr.cell? ⟨gb, 1, none⟩ = some (.int .i64 kd) := BE.out.cell 1
      have q2 : wr.cell? ⟨gb, 2, none⟩ = some (.int .i64 n2) := BE.out.cell 2
      have q3 : wr.cell? ⟨gb, 3, none⟩ = some (.int .i64 n3) := BE.out.cell 3
      have q4 : wr.cell? ⟨gb, 4, none⟩ = some (.int .i64 n4) := BE.out.cell 4
      have q5 : wr.cell? ⟨gb, 5, none⟩ = some (.bool true) := BE.out.cell 5
      go_wp2_with (fail)
      refine (LX.out _ (YR.out.tr (by (repeat (first | assumption | exact Ext.rf _ | apply Ext.drew | apply Ext.drewN | apply Ext.alloc))))).mono ?_
      rintro e wl ⟨rfl, xl⟩
      have YL := Lib.hid (YR.out.tr (Ext.tr (by (repeat (first | assumption | exact Ext.rf _ | apply Ext.drew | apply Ext.drewN | apply Ext.alloc))) xl))
      have BL := Lib.hid (Blk.ext (Blk.ext (w' := _) BE.out (by (repeat (first | assumption | exact Ext.rf _ | apply Ext.drew | apply Ext.drewN | apply Ext.alloc)))) xl)
      have BZ := Lib.hid (Blk.ext (Blk.ext (w' := _) BR.out (by (repeat (first | assumption | exact Ext.rf _ | apply Ext.drew | apply Ext.drewN | apply Ext.alloc)))) xl)
      have RL := Lib.hid (RdV.ext (RdV.ext (w' := _) RW.out (by (repeat (first | assumption | exact Ext.rf _ | apply Ext.drew | apply Ext.drewN | apply Ext.alloc)))) xl)
      have zl := Ext.tr (a := wr) (by (repeat (first | assumption | exact Ext.rf _ | apply Ext.drew | apply Ext.drewN | apply Ext.alloc))) xl |>.size
      have zb2 := BE.out.lt
      have zr2 := BR.out.lt
      clear q0 q1 q2 q3 q4 q5 xl BE BR RW YR LX
      have q0 : wl.cell? ⟨gb, 0, none⟩ = some (.int .i64 n0) := BL.out.cell 0
      have q1 : wl.cell? ⟨gb, 1, none⟩ = some (.int .i64 kd) := BL.out.cell 1
      have q2 : wl.cell? ⟨gb, 2, none⟩ = some (.int .i64 n2) := BL.out.cell 2
      have q3 : wl.cell? ⟨gb, 3, none⟩ = some (.int .i64 n3) := BL.out.cell 3
      have q4 : wl.cell? ⟨gb, 4, none⟩ = some (.int .i64 n4) := BL.out.cell 4
      have q5 : wl.cell? ⟨gb, 5, none⟩ = some (.bool true) := BL.out.cell 5
      cases ok with
      | false =>
        have HR := RES1.out rfl
        have r0 : wl.cell? ⟨w.heap.size, 0, none⟩ = some (.int .i64 0) := BZ.out.cell 0
        have r1 : wl.cell? ⟨w.heap.size, 1, none⟩ = some (.int .i64 0) := BZ.out.cell 1
        have r2 : wl.cell? ⟨w.heap.size, 2, none⟩ = some (.int .i64 0) := BZ.out.cell 2
        have r3 : wl.cell? ⟨w.heap.size, 3, none⟩ = some (.int .i64 0) := BZ.out.cell 3
        have r4 : wl.cell? ⟨w.heap.size, 4, none⟩ = some (.int .i64 0) := BZ.out.cell 4
        have r5 : wl.cell? ⟨w.heap.size, 5, none⟩ = some (.bool false) := BZ.out.cell 5
        have f0 := BZ.out.free 0
        have f1 := BZ.out.free 1
        have f2 := BZ.out.free 2
        have f3 := BZ.out.free 3
        have f4 := BZ.out.free 4
        have f5 := BZ.out.free 5
        have BF := Lib.hid (ent_put BZ.out (.int .i64 n0) (.int .i64 kd) (.int .i64 n2) (.int .i64 n3) (.int .i64 n4) (.bool true))
        have YF : Hid (Ext w (ent6W wl w.heap.size (.int .i64 n0) (.int .i64 kd) (.int .i64 n2) (.int .i64 n3) (.int .i64 n4) (.bool true))) := Lib.hid (YL.out.ent6 (Nat.le_refl _))
        unfold ent6W at BF YF
        go_wp2_with (fail)
        refine wp_region_any (by kernel_rfl) ?_
        change wpAny _ _ _ _ _ _ _ (World.drew _)
        refine wpAny_T (i := 1) (op := Op.move (Operand.tmp 8)) (t := 4) (d := some 56) (v := ?_) rfl (by decide +kernel) (by decide +kernel) (by decide +kernel) (fun _ _ _ h => h) ?_ ?_
        case refine_2 => (intro _; unfold exec2; go_simp; try with_reducible rfl)
        try simp only [Act.put, List.setIfInBounds_toArray, List.set_cons_zero, List.set_cons_succ]
        refine wpAny_T (i := 2) (op := Op.move (Operand.tmp 56)) (t := 4) (d := some 57) (v := ?_) rfl (by decide +kernel) (by decide +kernel) (by decide +kernel) (fun _ _ _ h => h) ?_ ?_
        case refine_2 => (intro _; unfold exec2; go_simp; try with_reducible rfl)
        try simp only [Act.put, List.setIfInBounds_toArray, List.set_cons_zero, List.set_cons_succ]
        refine wpAny_S (i := 3) (op := Op.move (Operand.tmp 7)) (t := 9) (d := some 58) (b := false) (g := (2, true)) rfl (by decide +kernel) (by decide +kernel) (by decide +kernel) (fun _ _ _ h => h) (by kernel_rfl) rfl ?_
        try simp only [Act.put, List.setIfInBounds_toArray, List.set_cons_zero, List.set_cons_succ]
        refine wpAny_S (i := 4) (op := Op.move (Operand.tmp 0)) (t := 9) (d := some 59) (b := false) (g := (2, true)) rfl (by decide +kernel) (by decide +kernel) (by decide +kernel) (fun _ _ _ h => h) (by kernel_rfl) rfl ?_
        try simp only [Act.put, List.setIfInBounds_toArray, List.set_cons_zero, List.set_cons_succ]
        refine wpAny_S (i := 5) (op := Op.binOp BinOp.eql 9 (Operand.tmp 58) (Operand.tmp 59) 9) (t := 4) (d := some 60) (b := false) (g := (2, true)) rfl (by decide +kernel) (by decide +kernel) (by decide +kernel) (fun _ _ _ h => h) (by kernel_rfl) rfl ?_
        try simp only [Act.put, List.setIfInBounds_toArray, List.set_cons_zero, List.set_cons_succ]
        refine wpAny_T (i := 6) (op := Op.pick (Operand.tmp 57) (Operand.tmp 60) (Operand.const (Value.bool false))) (t := 4) (d := some 61) (v := ?_) rfl (by decide +kernel) (by decide +kernel) (by decide +kernel) (fun _ _ _ h => h) ?_ ?_
        case refine_2 => (intro _; unfold exec2; go_simp; try with_reducible rfl)
        try simp only [Act.put, List.setIfInBounds_toArray, List.set_cons_zero, List.set_cons_succ]
        refine wpAny_T (i := 7) (op := Op.move (Operand.tmp 61)) (t := 4) (d := some 62) (v := ?_) rfl (by decide +kernel) (by decide +kernel) (by decide +kernel) (fun _ _ _ h => h) ?_ ?_
        case refine_2 => (intro _; unfold exec2; go_simp; try with_reducible rfl)
        try simp only [Act.put, List.setIfInBounds_toArray, List.set_cons_zero, List.set_cons_succ]
        refine wpAny_S (i := 8) (op := Op.move (Operand.tmp 4)) (t := 64) (d := some 63) (b := false) (g := (7, true)) rfl (by decide +kernel) (by decide +kernel) (by decide +kernel) (fun _ _ _ h => h) (by kernel_rfl) rfl ?_
        try simp only [Act.put, List.setIfInBounds_toArray, List.set_cons_zero, List.set_cons_succ]
        refine wpAny_S (i := 9) (op := Op.call { callee := Callee.value (Operand.func 34), args := #[Operand.tmp 63], argTypes := #[64] }) (t := 4) (d := some 64) (b := false) (g := (7, true)) rfl (by decide +kernel) (by decide +kernel) (by decide +kernel) (fun _ _ _ h => h) (by kernel_rfl) rfl ?_
        try simp only [Act.put, List.setIfInBounds_toArray, List.set_cons_zero, List.set_cons_succ]
        refine wpAny_T (i := 10) (op := Op.pick (Operand.tmp 62) (Operand.tmp 64) (Operand.const (Value.bool false))) (t := 4) (d := some 65) (v := ?_) rfl (by decide +kernel) (by decide +kernel) (by decide +kernel) (fun _ _ _ h => h) ?_ ?_
        case refine_2 => (intro _; unfold exec2; go_simp; try with_reducible rfl)
        try simp only [Act.put, List.setIfInBounds_toArray, List.set_cons_zero, List.set_cons_succ]
        refine wpAny_next 0 (by decide +kernel) (op_ld (T := 50) (x := Operand.tmp 5) (t := 50) (d := some 55) rfl (.pointer (some ⟨gb, 0, none⟩)) (by kernel_rfl) (.agg #[.int .i64 n0, .int .i64 kd, .int .i64 n2, .int .i64 n3, .int .i64 n4, .bool true]) (by go_simp) ?_)
        try simp only [Act.put, List.setIfInBounds_toArray, List.set_cons_zero, List.set_cons_succ]
        refine wpAny_next 11 (by kernel_rfl) (op_st rfl (.pointer (some ⟨w.heap.size, 0, none⟩)) (.agg #[.int .i64 n0, .int .i64 kd, .int .i64 n2, .int .i64 n3, .int .i64 n4, .bool true]) (by kernel_rfl) (by kernel_rfl) (by go_simp; rfl) ?_)
        try simp only [Act.put, List.setIfInBounds_toArray, List.set_cons_zero, List.set_cons_succ]
        refine wpAny_T (i := 12) (op := Op.assign (Operand.tmp 65)) (t := 4) (d := some 3) (v := ?_) rfl (by decide +kernel) (by decide +kernel) (by decide +kernel) (fun _ _ _ h => h) ?_ ?_
        case refine_2 => (intro _; unfold exec2; go_simp; try with_reducible rfl)
        try simp only [Act.put, List.setIfInBounds_toArray, List.set_cons_zero, List.set_cons_succ]
        refine wpAny_done (by kernel_rfl) ?_ _
        go_simp
        generalize ((((((wl.setCell ⟨w.heap.size, 0, none⟩ (.int .i64 n0)).setCell ⟨w.heap.size, 1, none⟩ (.int .i64 kd)).setCell ⟨w.heap.size, 2, none⟩ (.int .i64 n2)).setCell ⟨w.heap.size, 3, none⟩ (.int .i64 n3)).setCell ⟨w.heap.size, 4, none⟩ (.int .i64 n4)).setCell ⟨w.heap.size, 5, none⟩ (.bool true)) = wf at *
        clear r0 r1 r2 r3 r4 r5 f0 f1 f2 f3 f4 f5 q0 q1 q2 q3 q4 q5
        have r0 : wf.drew.cell? ⟨w.heap.size, 0, none⟩ = some (.int .i64 n0) := BF.out.drew.cell 0
        have r1 : wf.drew.cell? ⟨w.heap.size, 1, none⟩ = some (.int .i64 kd) := BF.out.drew.cell 1
        have r2 : wf.drew.cell? ⟨w.heap.size, 2, none⟩ = some (.int .i64 n2) := BF.out.drew.cell 2
        have r3 : wf.drew.cell? ⟨w.heap.size, 3, none⟩ = some (.int .i64 n3) := BF.out.drew.cell 3
        have r4 : wf.drew.cell? ⟨w.heap.size, 4, none⟩ = some (.int .i64 n4) := BF.out.drew.cell 4
        have r5 : wf.drew.cell? ⟨w.heap.size, 5, none⟩ = some (.bool true) := BF.out.drew.cell 5
        go_wp2_with (fail)
        refine bodyPost_ret (v := .tuple #[.agg #[.int .i64 n0, .int .i64 kd, .int .i64 n2, .int .i64 n3, .int .i64 n4, .bool true], .bool false]) (by simp [results, Tryd.results20, go_sem, *]) rfl ⟨by rw [HR], YF.out.drew⟩
      | true =>
        by_cases ht : t = s
        · skip
          subst ht
          have HR2 := Lib.hid (RES3.out rfl rfl)
          have h0 := BL.out.lt
          go_wp2_with (fail)
          go_region_held3 (fun W' => W'.cell? ⟨gb, 0, none⟩ = some (.int .i64 n0) ∧ W'.cell? ⟨gb, 1, none⟩ = some (.int .i64 kd) ∧ W'.cell? ⟨gb, 2, none⟩ = some (.int .i64 n2) ∧ W'.cell? ⟨gb, 3, none⟩ = some (.int .i64 n3) ∧ W'.cell? ⟨gb, 4, none⟩ = some (.int .i64 n4) ∧ W'.cell? ⟨gb, 5, none⟩ = some (.bool true)) (first | go_keep | (focus (go_simp; done)))
            (first
            | (go_at_call 34; refine (SX.out _ _ _ (RL.out.ext (by (repeat (first | assumption | exact Ext.rf _ | apply Ext.drew | apply Ext.drewN | apply Ext.alloc))))).mono ?_; rintro e wm ⟨rfl, xm⟩; have ym := Ext.tr (a := wl) (by (repeat (first | assumption | exact Ext.rf _ | apply Ext.drew | apply Ext.drewN | apply Ext.alloc))) xm; have s1 := keepEL ym h0 q0; have s2 := keepEL ym h0 q1; have s3 := keepEL ym h0 q2; have s4 := keepEL ym h0 q3; have s5 := keepEL ym h0 q4; have s6 := keepEL ym h0 q5; have Zm := Lib.hid (BZ.out.ext ym); have t0 := Zm.out.cell 0; have t1 := Zm.out.cell 1; have t2 := Zm.out.cell 2; have t3 := Zm.out.cell 3; have t4 := Zm.out.cell 4; have t5 := Zm.out.cell 5; have f0 := Zm.out.free 0; have f1 := Zm.out.free 1; have f2 := Zm.out.free 2; have f3 := Zm.out.free 3; have f4 := Zm.out.free 4; have f5 := Zm.out.free 5; simp only [List.getElem?_toArray, List.getElem?_cons_zero, List.getElem?_cons_succ] at t0 t1 t2 t3 t4 t5; have BF := Lib.hid (ent_put Zm.out (.int .i64 n0) (.int .i64 kd) (.int .i64 n2) (.int .i64 n3) (.int .i64 n4) (.bool true)); have YF : Hid (Ext w (ent6W wm w.heap.size (.int .i64 n0) (.int .i64 kd) (.int .i64 n2) (.int .i64 n3) (.int .i64 n4) (.bool true))) := Lib.hid ((YL.out.tr ym).ent6 (Nat.le_refl _)); unfold ent6W at BF YF))
          generalize ((((((wm.setCell ⟨w.heap.size, 0, none⟩ (.int .i64 n0)).setCell ⟨w.heap.size, 1, none⟩ (.int .i64 kd)).setCell ⟨w.heap.size, 2, none⟩ (.int .i64 n2)).setCell ⟨w.heap.size, 3, none⟩ (.int .i64 n3)).setCell ⟨w.heap.size, 4, none⟩ (.int .i64 n4)).setCell ⟨w.heap.size, 5, none⟩ (.bool true)) = wf at *
          clear t0 t1 t2 t3 t4 t5 f0 f1 f2 f3 f4 f5 q0 q1 q2 q3 q4 q5 s1 s2 s3 s4 s5 s6
          have r0 : wf.cell? ⟨w.heap.size, 0, none⟩ = some (.int .i64 n0) := BF.out.cell 0
          have r1 : wf.cell? ⟨w.heap.size, 1, none⟩ = some (.int .i64 kd) := BF.out.cell 1
          have r2 : wf.cell? ⟨w.heap.size, 2, none⟩ = some (.int .i64 n2) := BF.out.cell 2
          have r3 : wf.cell? ⟨w.heap.size, 3, none⟩ = some (.int .i64 n3) := BF.out.cell 3
          have r4 : wf.cell? ⟨w.heap.size, 4, none⟩ = some (.int .i64 n4) := BF.out.cell 4
          have r5 : wf.cell? ⟨w.heap.size, 5, none⟩ = some (.bool true) := BF.out.cell 5
          go_wp2_with (fail)
          refine bodyPost_ret (v := .tuple #[.agg #[.int .i64 n0, .int .i64 kd, .int .i64 n2, .int .i64 n3, .int .i64 n4, .bool true], .bool st]) (by simp [results, Tryd.results20, go_sem, *]) rfl ⟨by rw [HR2.out], YF.out⟩
        · have HR := RES2.out ht
          have ht2 : @BEq.beq (List UInt8) _ t s = false := beq_eq_false_iff_ne.2 ht
          have r0 : wl.cell? ⟨w.heap.size, 0, none⟩ = some (.int .i64 0) := BZ.out.cell 0
          have r1 : wl.cell? ⟨w.heap.size, 1, none⟩ = some (.int .i64 0) := BZ.out.cell 1
          have r2 : wl.cell? ⟨w.heap.size, 2, none⟩ = some (.int .i64 0) := BZ.out.cell 2
          have r3 : wl.cell? ⟨w.heap.size, 3, none⟩ = some (.int .i64 0) := BZ.out.cell 3
          have r4 : wl.cell? ⟨w.heap.size, 4, none⟩ = some (.int .i64 0) := BZ.out.cell 4
          have r5 : wl.cell? ⟨w.heap.size, 5, none⟩ = some (.bool false) := BZ.out.cell 5
          have f0 := BZ.out.free 0
          have f1 := BZ.out.free 1
          have f2 := BZ.out.free 2
          have f3 := BZ.out.free 3
          have f4 := BZ.out.free 4
          have f5 := BZ.out.free 5
          have BF := Lib.hid (ent_put BZ.out (.int .i64 n0) (.int .i64 kd) (.int .i64 n2) (.int .i64 n3) (.int .i64 n4) (.bool true))
          have YF : Hid (Ext w (ent6W wl w.heap.size (.int .i64 n0) (.int .i64 kd) (.int .i64 n2) (.int .i64 n3) (.int .i64 n4) (.bool true))) := Lib.hid (YL.out.ent6 (Nat.le_refl _))
          unfold ent6W at BF YF
          go_wp2_with (fail)
          refine wp_region_any (by kernel_rfl) ?_
          change wpAny _ _ _ _ _ _ _ (World.drew _)
          refine wpAny_T (i := 1) (op := Op.move (Operand.tmp 8)) (t := 4) (d := some 56) (v := ?_) rfl (by decide +kernel) (by decide +kernel) (by decide +kernel) (fun _ _ _ h => h) ?_ ?_
          case refine_2 => (intro _; unfold exec2; go_simp; try with_reducible rfl)
          try simp only [Act.put, List.setIfInBounds_toArray, List.set_cons_zero, List.set_cons_succ]
          refine wpAny_T (i := 2) (op := Op.move (Operand.tmp 56)) (t := 4) (d := some 57) (v := ?_) rfl (by decide +kernel) (by decide +kernel) (by decide +kernel) (fun _ _ _ h => h) ?_ ?_
          case refine_2 => (intro _; unfold exec2; go_simp; try with_reducible rfl)
          try simp only [Act.put, List.setIfInBounds_toArray, List.set_cons_zero, List.set_cons_succ]
          refine wpAny_G (i := 3) (op := Op.move (Operand.tmp 7)) (t := 9) (d := some 58) (g := (2, true)) (v := ?_) rfl (by decide +kernel) (by decide +kernel) (by decide +kernel) (fun _ _ _ h => h) (by kernel_rfl) ?_ ?_
          case refine_2 => (intro _; unfold exec2; go_simp; try with_reducible rfl)
          try simp only [Act.put, List.setIfInBounds_toArray, List.set_cons_zero, List.set_cons_succ]
          refine wpAny_G (i := 4) (op := Op.move (Operand.tmp 0)) (t := 9) (d := some 59) (g := (2, true)) (v := ?_) rfl (by decide +kernel) (by decide +kernel) (by decide +kernel) (fun _ _ _ h => h) (by kernel_rfl) ?_ ?_
          case refine_2 => (intro _; unfold exec2; go_simp; try with_reducible rfl)
          try simp only [Act.put, List.setIfInBounds_toArray, List.set_cons_zero, List.set_cons_succ]
          refine wpAny_G (i := 5) (op := Op.binOp BinOp.eql 9 (Operand.tmp 58) (Operand.tmp 59) 9) (t := 4) (d := some 60) (g := (2, true)) (v := .bool false) rfl (by decide +kernel) (by decide +kernel) (by decide +kernel) (fun _ _ _ h => h) (by kernel_rfl) ?_ ?_
          · (intro _; unfold exec2; go_simp; skip)
          try simp only [Act.put, List.setIfInBounds_toArray, List.set_cons_zero, List.set_cons_succ]
          refine wpAny_T (i := 6) (op := Op.pick (Operand.tmp 57) (Operand.tmp 60) (Operand.const (Value.bool false))) (t := 4) (d := some 61) (v := ?_) rfl (by decide +kernel) (by decide +kernel) (by decide +kernel) (fun _ _ _ h => h) ?_ ?_
          case refine_2 => (intro _; unfold exec2; go_simp; try with_reducible rfl)
          try simp only [Act.put, List.setIfInBounds_toArray, List.set_cons_zero, List.set_cons_succ]
          refine wpAny_T (i := 7) (op := Op.move (Operand.tmp 61)) (t := 4) (d := some 62) (v := ?_) rfl (by decide +kernel) (by decide +kernel) (by decide +kernel) (fun _ _ _ h => h) ?_ ?_
          case refine_2 => (intro _; unfold exec2; go_simp; try with_reducible rfl)
          try simp only [Act.put, List.setIfInBounds_toArray, List.set_cons_zero, List.set_cons_succ]
          refine wpAny_S (i := 8) (op := Op.move (Operand.tmp 4)) (t := 64) (d := some 63) (b := false) (g := (7, true)) rfl (by decide +kernel) (by decide +kernel) (by decide +kernel) (fun _ _ _ h => h) (by kernel_rfl) rfl ?_
          try simp only [Act.put, List.setIfInBounds_toArray, List.set_cons_zero, List.set_cons_succ]
          refine wpAny_S (i := 9) (op := Op.call { callee := Callee.value (Operand.func 34), args := #[Operand.tmp 63], argTypes := #[64] }) (t := 4) (d := some 64) (b := false) (g := (7, true)) rfl (by decide +kernel) (by decide +kernel) (by decide +kernel) (fun _ _ _ h => h) (by kernel_rfl) rfl ?_
          try simp only [Act.put, List.setIfInBounds_toArray, List.set_cons_zero, List.set_cons_succ]
          refine wpAny_T (i := 10) (op := Op.pick (Operand.tmp 62) (Operand.tmp 64) (Operand.const (Value.bool false))) (t := 4) (d := some 65) (v := ?_) rfl (by decide +kernel) (by decide +kernel) (by decide +kernel) (fun _ _ _ h => h) ?_ ?_
          case refine_2 => (intro _; unfold exec2; go_simp; try with_reducible rfl)
          try simp only [Act.put, List.setIfInBounds_toArray, List.set_cons_zero, List.set_cons_succ]
          refine wpAny_next 0 (by decide +kernel) (op_ld (T := 50) (x := Operand.tmp 5) (t := 50) (d := some 55) rfl (.pointer (some ⟨gb, 0, none⟩)) (by kernel_rfl) (.agg #[.int .i64 n0, .int .i64 kd, .int .i64 n2, .int .i64 n3, .int .i64 n4, .bool true]) (by go_simp) ?_)
          try simp only [Act.put, List.setIfInBounds_toArray, List.set_cons_zero, List.set_cons_succ]
          refine wpAny_next 11 (by kernel_rfl) (op_st rfl (.pointer (some ⟨w.heap.size, 0, none⟩)) (.agg #[.int .i64 n0, .int .i64 kd, .int .i64 n2, .int .i64 n3, .int .i64 n4, .bool true]) (by kernel_rfl) (by kernel_rfl) (by go_simp; rfl) ?_)
          try simp only [Act.put, List.setIfInBounds_toArray, List.set_cons_zero, List.set_cons_succ]
          refine wpAny_T (i := 12) (op := Op.assign (Operand.tmp 65)) (t := 4) (d := some 3) (v := ?_) rfl (by decide +kernel) (by decide +kernel) (by decide +kernel) (fun _ _ _ h => h) ?_ ?_
          case refine_2 => (intro _; unfold exec2; go_simp; try with_reducible rfl)
          try simp only [Act.put, List.setIfInBounds_toArray, List.set_cons_zero, List.set_cons_succ]
          refine wpAny_done (by kernel_rfl) ?_ _
          go_simp
          generalize ((((((wl.setCell ⟨w.heap.size, 0, none⟩ (.int .i64 n0)).setCell ⟨w.heap.size, 1, none⟩ (.int .i64 kd)).setCell ⟨w.heap.size, 2, none⟩ (.int .i64 n2)).setCell ⟨w.heap.size, 3, none⟩ (.int .i64 n3)).setCell ⟨w.heap.size, 4, none⟩ (.int .i64 n4)).setCell ⟨w.heap.size, 5, none⟩ (.bool true)) = wf at *
          clear r0 r1 r2 r3 r4 r5 f0 f1 f2 f3 f4 f5 q0 q1 q2 q3 q4 q5
          have r0 : wf.drew.cell? ⟨w.heap.size, 0, none⟩ = some (.int .i64 n0) := BF.out.drew.cell 0
          have r1 : wf.drew.cell? ⟨w.heap.size, 1, none⟩ = some (.int .i64 kd) := BF.out.drew.cell 1
          have r2 : wf.drew.cell? ⟨w.heap.size, 2, none⟩ = some (.int .i64 n2) := BF.out.drew.cell 2
          have r3 : wf.drew.cell? ⟨w.heap.size, 3, none⟩ = some (.int .i64 n3) := BF.out.drew.cell 3
          have r4 : wf.drew.cell? ⟨w.heap.size, 4, none⟩ = some (.int .i64 n4) := BF.out.drew.cell 4
          have r5 : wf.drew.cell? ⟨w.heap.size, 5, none⟩ = some (.bool true) := BF.out.drew.cell 5
          go_wp2_with (fail)
          refine bodyPost_ret (v := .tuple #[.agg #[.int .i64 n0, .int .i64 kd, .int .i64 n2, .int .i64 n3, .int .i64 n4, .bool true], .bool false]) (by simp [results, Tryd.results20, go_sem, *]) rfl ⟨by rw [HR], YF.out.drew⟩
set_option maxRecDepth 100000 in
set_option maxHeartbeats 8000000 in
theorem entry6_false (s a0 a2 a3 a4 : Txt) (kd : Int) (hk1 : 1 ≤ kd) (hk4 : kd ≤ 4) (hs : splitC 32 s = [a0, kindT kd, a2, a3, a4, [110, 111]]) (hl : s.length ≤ 1000) (hp : ∀ x ∈ [a0, kindT kd, a2, a3, a4, [110, 111]], Plain x ∧ x.length ≤ 1000) (w : World) (hT : Ten w) :
    Calls Tryd.prog 20 #[.string ⟨s.toArray⟩] w (EntryPost s w) := by
  have SP := fun (W : World) => split1_any s 32 W (by omega)
  rw [hs] at SP
  have NU0 := Lib.hid (fun (W : World) => number_t a0 W (hp a0 (by simp)).1 (by have := (hp a0 (by simp)).2; omega))
  have NU2 := Lib.hid (fun (W : World) => number_t a2 W (hp a2 (by simp)).1 (by have := (hp a2 (by simp)).2; omega))
  have NU3 := Lib.hid (fun (W : World) => number_t a3 W (hp a3 (by simp)).1 (by have := (hp a3 (by simp)).2; omega))
  have NU4 := Lib.hid (fun (W : World) => number_t a4 W (hp a4 (by simp)).1 (by have := (hp a4 (by simp)).2; omega))
  have KD := Lib.hid (fun (W : World) (k : Int) => kindt_any k W)
  have SX := Lib.hid (fun (W : World) (A : Option Addr) (c : Nat) (h : RdV W 9 A (txV [a0, kindT kd, a2, a3, a4, [110, 111]])) => short_any A c [a0, kindT kd, a2, a3, a4, [110, 111]] W h (by simp [maxLen]) (fun x hx => ⟨(hp x hx).1, by have := (hp x hx).2; omega⟩))
  have hE : entryE [a0, kindT kd, a2, a3, a4, [110, 111]] = ⟨numT a0, kd, numT a2, numT a3, numT a4, false⟩ := by
    unfold entryE
    rw [if_pos (by simp)]
    simp only [List.getD_cons_zero, List.getD_cons_succ, kindN_kindT ⟨hk1, hk4⟩]
    simp
  have hI : (Ent.mk (numT a0) kd (numT a2) (numT a3) (numT a4) false).In := ⟨numT_i64 a0, ⟨by show _ ≤ kd; omega, by show kd ≤ _; omega⟩, numT_i64 a2, numT_i64 a3, numT_i64 a4⟩
  have LX := Lib.hid (fun (W : World) (x : Ext w W) => line_any ⟨numT a0, kd, numT a2, numT a3, numT a4, false⟩ W hI (hT.ext x))
  unfold EntryPost
  have hR : entryT s = (⟨numT a0, kd, numT a2, numT a3, numT a4, false⟩, (Ent.mk (numT a0) kd (numT a2) (numT a3) (numT a4) false).line.2 && decide ((Ent.mk (numT a0) kd (numT a2) (numT a3) (numT a4) false).line.1 = s) && shortT [a0, kindT kd, a2, a3, a4, [110, 111]]) := by
    unfold entryT
    simp only [hs, hE]
  rw [hR]
  clear hR hE hI hT hp hs
  generalize (Ent.mk (numT a0) kd (numT a2) (numT a3) (numT a4) false).line = lr at *
  obtain ⟨t, ok⟩ := lr
  simp only at LX ⊢
  obtain ⟨st, hst⟩ : ∃ st, Hid (shortT [a0, kindT kd, a2, a3, a4, [110, 111]] = st) := ⟨_, rfl⟩
  rw [hst.out] at SX ⊢
  obtain ⟨res, hres⟩ : ∃ res, Hid ((ok && decide (t = s) && st) = res) := ⟨_, rfl⟩
  rw [hres.out]
  have RES1 : Hid (ok = false → res = false) := Lib.hid (by rintro rfl; have := hres.out; simpa using this.symm)
  have RES2 : Hid (t ≠ s → res = false) := Lib.hid (by intro h; have := hres.out; simpa [h] using this.symm)
  have RES3 : Hid (ok = true → t = s → res = st) := Lib.hid (by rintro rfl rfl; have := hres.out; simpa using this.symm)
  clear hres hst
  generalize numT a0 = n0 at *
  generalize numT a2 = n2 at *
  generalize numT a3 = n3 at *
  generalize numT a4 = n4 at *
  simp only [txV, txS, List.map_cons, List.map_nil, List.length_cons, List.length_nil, Nat.zero_add, Nat.reduceAdd] at SP
  unfold txS at LX KD
  unfold entC at LX ⊢
  simp only at LX ⊢
  replace SP := Lib.hid SP
  go_enter Tryd.func20, Tryd.ntmps20
  go_wp2_with (fail)
  refine (SP.out _).mono ?_
  rintro e w1 ⟨rfl, rfl⟩
  have BR1 : Hid (Blk ((w.alloc (.cells #[.int .i64 0, .int .i64 0, .int .i64 0, .int .i64 0, .int .i64 0, .bool false] 50)).alloc (.cells #[.string ⟨a0.toArray⟩, .string ⟨(kindT kd).toArray⟩, .string ⟨a2.toArray⟩, .string ⟨a3.toArray⟩, .string ⟨a4.toArray⟩, .string ⟨#[110, 111]⟩] 9)) w.heap.size 50 #[.int .i64 0, .int .i64 0, .int .i64 0, .int .i64 0, .int .i64 0, .bool false]) := .alloc (.new rfl) _
  have BW1 : Hid (Blk ((w.alloc (.cells #[.int .i64 0, .int .i64 0, .int .i64 0, .int .i64 0, .int .i64 0, .bool false] 50)).alloc (.cells #[.string ⟨a0.toArray⟩, .string ⟨(kindT kd).toArray⟩, .string ⟨a2.toArray⟩, .string ⟨a3.toArray⟩, .string ⟨a4.toArray⟩, .string ⟨#[110, 111]⟩] 9)) (w.heap.size + 1) 9 #[.string ⟨a0.toArray⟩, .string ⟨(kindT kd).toArray⟩, .string ⟨a2.toArray⟩, .string ⟨a3.toArray⟩, .string ⟨a4.toArray⟩, .string ⟨#[110, 111]⟩]) := .new (by simp)
  have XW1 : Hid (Ext w ((w.alloc (.cells #[.int .i64 0, .int .i64 0, .int .i64 0, .int .i64 0, .int .i64 0, .bool false] 50)).alloc (.cells #[.string ⟨a0.toArray⟩, .string ⟨(kindT kd).toArray⟩, .string ⟨a2.toArray⟩, .string ⟨a3.toArray⟩, .string ⟨a4.toArray⟩, .string ⟨#[110, 111]⟩] 9))) := by (repeat (first | assumption | exact Ext.rf _ | apply Ext.drew | apply Ext.drewN | apply Ext.alloc))
  go_upto_region 3 with (go_at_call 33; refine (NU0.out _).mono ?_; rintro e w2 ⟨rfl, x2⟩)
  have BE0 : Hid (Blk (w2.alloc (.cells #[.int .i64 n0, .int .i64 0, .int .i64 0, .int .i64 0, .int .i64 0, .bool false] 50)) w2.heap.size 50 #[.int .i64 n0, .int .i64 0, .int .i64 0, .int .i64 0, .int .i64 0, .bool false]) := .new rfl
  have BR0 := Lib.hid ((BR1.out.ext x2).alloc (.cells #[.int .i64 n0, .int .i64 0, .int .i64 0, .int .i64 0, .int .i64 0, .bool false] 50))
  have BW0 := Lib.hid ((BW1.out.ext x2).alloc (.cells #[.int .i64 n0, .int .i64 0, .int .i64 0, .int .i64 0, .int .i64 0, .bool false] 50))
  have YR0 := Lib.hid ((XW1.out.tr x2).alloc (.cells #[.int .i64 n0, .int .i64 0, .int .i64 0, .int .i64 0, .int .i64 0, .bool false] 50))
  have zb : w.heap.size < w2.heap.size := (BR1.out.ext x2).lt
  have zb1 : w.heap.size + 1 < w2.heap.size := (BW1.out.ext x2).lt
  clear BR1 BW1 XW1 x2
  obtain ⟨gb, hgb⟩ : ∃ gb, gb = w2.heap.size := ⟨_, rfl⟩
  rw [← hgb] at zb zb1 BE0 ⊢
  clear hgb
  go_upto_region 4 with (fail)
  generalize (w2.alloc (.cells #[.int .i64 n0, .int .i64 0, .int .i64 0, .int .i64 0, .int .i64 0, .bool false] 50)) = wa at *
  have zW := BW0.out.lt
  have c2 : wa.cell? ⟨w.heap.size + 1, 2, none⟩ = some (.string ⟨a2.toArray⟩) := BW0.out.cell 2
  have c3 : wa.cell? ⟨w.heap.size + 1, 3, none⟩ = some (.string ⟨a3.toArray⟩) := BW0.out.cell 3
  have c4 : wa.cell? ⟨w.heap.size + 1, 4, none⟩ = some (.string ⟨a4.toArray⟩) := BW0.out.cell 4
  have c5 : wa.cell? ⟨w.heap.size + 1, 5, none⟩ = some (.string ⟨#[110, 111]⟩) := BW0.out.cell 5
  go_region_held3 (fun W' => W'.cell? ⟨w.heap.size + 1, 2, none⟩ = some (.string ⟨a2.toArray⟩) ∧ W'.cell? ⟨w.heap.size + 1, 3, none⟩ = some (.string ⟨a3.toArray⟩) ∧ W'.cell? ⟨w.heap.size + 1, 4, none⟩ = some (.string ⟨a4.toArray⟩) ∧ W'.cell? ⟨w.heap.size + 1, 5, none⟩ = some (.string ⟨#[110, 111]⟩)) (first | go_keep | (focus (go_simp; done)))
    (first
    | (go_at_call_of 33 (Value.string ⟨a2.toArray⟩); refine (NU2.out _).mono ?_; rintro e w3 ⟨rfl, x3⟩; have y3 := Ext.tr (a := wa) (by (repeat (first | assumption | exact Ext.rf _ | apply Ext.drew | apply Ext.drewN | apply Ext.alloc))) x3; have s1 := keepEL y3 zW c2; have s2 := keepEL y3 zW c3; have s3 := keepEL y3 zW c4; have s4 := keepEL y3 zW c5)
    | (go_at_call_of 33 (Value.string ⟨a3.toArray⟩); refine (NU3.out _).mono ?_; rintro e w4 ⟨rfl, x4⟩; have y4 := Ext.tr (a := wa) (by (repeat (first | assumption | exact Ext.rf _ | apply Ext.drew | apply Ext.drewN | apply Ext.alloc))) x4; have s1 := keepEL y4 zW c2; have s2 := keepEL y4 zW c3; have s3 := keepEL y4 zW c4; have s4 := keepEL y4 zW c5)
    | (go_at_call_of 33 (Value.string ⟨a4.toArray⟩); refine (NU4.out _).mono ?_; rintro e w5 ⟨rfl, x5⟩; have y5 := Ext.tr (a := wa) (by (repeat (first | assumption | exact Ext.rf _ | apply Ext.drew | apply Ext.drewN | apply Ext.alloc))) x5; have s1 := keepEL y5 zW c2; have s2 := keepEL y5 zW c3; have s3 := keepEL y5 zW c4; have s4 := keepEL y5 zW c5; have Zm := Lib.hid (BE0.out.ext y5); have t1 := Zm.out.cell 1; have t2 := Zm.out.cell 2; have t3 := Zm.out.cell 3; have t4 := Zm.out.cell 4; have t5 := Zm.out.cell 5; have f1 := Zm.out.free 1; have f2 := Zm.out.free 2; have f3 := Zm.out.free 3; have f4 := Zm.out.free 4; have f5 := Zm.out.free 5; simp only [List.getElem?_toArray, List.getElem?_cons_zero, List.getElem?_cons_succ] at t1 t2 t3 t4 t5;
       have BE5 := Lib.hid (op_put Zm.out (.int .i64 0) (.int .i64 n2) (.int .i64 n3) (.int .i64 n4) (.bool false)); have BR5 := Lib.hid (op_far (BR0.out.ext y5) (show w.heap.size ≠ gb by omega) (.int .i64 0) (.int .i64 n2) (.int .i64 n3) (.int .i64 n4) (.bool false)); have BW5 := Lib.hid (op_far (BW0.out.ext y5) (show w.heap.size + 1 ≠ gb by omega) (.int .i64 0) (.int .i64 n2) (.int .i64 n3) (.int .i64 n4) (.bool false)); have YR5 : Hid (Ext w (opW w5 gb (.int .i64 0) (.int .i64 n2) (.int .i64 n3) (.int .i64 n4) (.bool false))) := Lib.hid ((YR0.out.tr y5).op (Nat.le_of_lt zb)); unfold opW at BE5 BR5 BW5 YR5))
  generalize (((((w5.setCell ⟨gb, 1, none⟩ (.int .i64 0)).setCell ⟨gb, 2, none⟩ (.int .i64 n2)).setCell ⟨gb, 3, none⟩ (.int .i64 n3)).setCell ⟨gb, 4, none⟩ (.int .i64 n4)).setCell ⟨gb, 5, none⟩ (.bool false)) = wb at *
  clear s1 s2 s3 s4 t1 t2 t3 t4 t5 f1 f2 f3 f4 f5 Zm x3 x4 x5 y3 y4 y5 c2 c3 c4 c5 zW NU0 NU2 NU3 NU4 SP BE0 BR0 BW0 YR0
  go_wp2_with (fail)
  go_loopw [6] (fun kv wr => ∃ k : Nat, kv = .int .i64 k ∧ 1 ≤ k ∧ k ≤ 5 ∧ Hid (Blk wr gb 50 #[.int .i64 n0, .int .i64 (kUp kd k), .int .i64 n2, .int .i64 n3, .int .i64 n4, .bool false]) ∧ Hid (Blk wr w.heap.size 50 #[.int .i64 0, .int .i64 0, .int .i64 0, .int .i64 0, .int .i64 0, .bool false]) ∧ Hid (Blk wr (w.heap.size + 1) 9 #[.string ⟨a0.toArray⟩, .string ⟨(kindT kd).toArray⟩, .string ⟨a2.toArray⟩, .string ⟨a3.toArray⟩, .string ⟨a4.toArray⟩, .string ⟨#[110, 111]⟩]) ∧ Hid (Ext w wr)) (fun kv _ => 5 - (intOf kv).toNat)
  case atStart => exact ⟨1, rfl, by omega, by omega, by rw [kUp_one hk1]; exact BE5, BR5, BW5, YR5⟩
  case round =>
    clear BE5 BR5 BW5 YR5
    obtain ⟨k, rfl, k1, k5, BE, BR, BW, YR⟩ := hrel
    by_cases k4 : k ≤ 4
    · have zW := BW.out.lt
      have c1 : wr.cell? ⟨w.heap.size + 1, 1, none⟩ = some (.string ⟨(kindT kd).toArray⟩) := BW.out.cell 1
      have q1 : (k : Int) ≤ 4 := by omega
      by_cases hkd : (k : Int) = kd
      · have e0 : Hid (kindT (k : Int) = kindT kd) := Lib.hid (by rw [hkd])
        have KU : Hid (kUp kd (k + 1) = (k : Int)) := Lib.hid (by rw [← hkd]; exact kUp_at k)
        replace KD := Lib.hid (KD.out · (k : Int))
        rw [e0.out] at KD
        have hkdH := Lib.hid hkd
        clear hkd e0
        obtain ⟨kt, hkt⟩ : ∃ kt, kindT kd = kt := ⟨_, rfl⟩
        rw [hkt] at KD c1
        clear hkt
        go_wp2_with (fail)
        go_region_held3 (fun W' => W'.cell? ⟨w.heap.size + 1, 1, none⟩ = some (.string ⟨kt.toArray⟩)) (first | go_keep | (focus (go_simp; done)))
          (first
          | (go_at_call 27; refine (KD.out _).mono ?_; rintro e w6 ⟨rfl, x6⟩; have y6 := Ext.tr (a := wr) (by (repeat (first | assumption | exact Ext.rf _ | apply Ext.drew | apply Ext.drewN | apply Ext.alloc))) x6; have s1 := keepEL y6 zW c1; have Zm := Lib.hid (BE.out.ext y6); have t1 := Zm.out.cell 1; have f1 := Zm.out.free 1; simp only [List.getElem?_toArray, List.getElem?_cons_zero, List.getElem?_cons_succ] at t1))
        have BE6 : Hid (Blk (w6.setCell ⟨gb, 1, none⟩ (.int .i64 k)) gb 50 #[.int .i64 n0, .int .i64 (kUp kd (k + 1)), .int .i64 n2, .int .i64 n3, .int .i64 n4, .bool false]) := by rw [KU.out]; exact Lib.hid (Zm.out.set 1 (.int .i64 k))
        have BR6 := Lib.hid ((BR.out.ext y6).far (p := ⟨gb, 1, none⟩) (show w.heap.size ≠ gb by omega) (.int .i64 k))
        have BW6 := Lib.hid ((BW.out.ext y6).far (p := ⟨gb, 1, none⟩) (show w.heap.size + 1 ≠ gb by omega) (.int .i64 k))
        have YR6 : Hid (Ext w (w6.setCell ⟨gb, 1, none⟩ (.int .i64 k))) := Lib.hid ((YR.out.tr y6).setNew (p := ⟨gb, 1, none⟩) (Nat.le_of_lt zb) _)
        clear s1 Zm y6 x6 BE BR BW YR c1 KU
        go_wp2_with (fail)
        go_roundw
        case rel => exact ⟨k + 1, by go_num, by omega, by omega, BE6, BR6, BW6, YR6⟩
        case measure => simp [intOf]; omega
      · have e0 : kindT (k : Int) ≠ kindT kd := fun h => hkd (kindT_inj ⟨by omega, by omega⟩ ⟨hk1, hk4⟩ h)
        have KU : Hid (kUp kd (k + 1) = kUp kd k) := Lib.hid (kUp_ne hkd)
        replace KD := Lib.hid (KD.out · (k : Int))
        obtain ⟨kt, hkt⟩ : ∃ kt, kindT kd = kt := ⟨_, rfl⟩
        obtain ⟨kx, hkx⟩ : ∃ kx, kindT (k : Int) = kx := ⟨_, rfl⟩
        rw [hkt] at c1 e0
        rw [hkx] at KD e0
        have e1 : @BEq.beq (List UInt8) _ kx kt = false := beq_eq_false_iff_ne.2 e0
        clear hkt hkx hkd e0
        go_wp2_with (fail)
        go_region_held3 (fun W' => W'.cell? ⟨w.heap.size + 1, 1, none⟩ = some (.string ⟨kt.toArray⟩)) (first | go_keep | (focus (go_simp; done)))
          (first
          | (go_at_call 27; refine (KD.out _).mono ?_; rintro e w6 ⟨rfl, x6⟩; have y6 := Ext.tr (a := wr) (by (repeat (first | assumption | exact Ext.rf _ | apply Ext.drew | apply Ext.drewN | apply Ext.alloc))) x6; have s1 := keepEL y6 zW c1))
        have BE6 : Hid (Blk w6 gb 50 #[.int .i64 n0, .int .i64 (kUp kd (k + 1)), .int .i64 n2, .int .i64 n3, .int .i64 n4, .bool false]) := by rw [KU.out]; exact Lib.hid (BE.out.ext y6)
        have BR6 := Lib.hid (BR.out.ext y6)
        have BW6 := Lib.hid (BW.out.ext y6)
        have YR6 := Lib.hid (YR.out.tr y6)
        clear s1 y6 x6 BE BR BW YR c1 KU
        go_wp2_with (fail)
        go_roundw
        case rel => exact ⟨k + 1, by go_num, by omega, by omega, BE6, BR6, BW6, YR6⟩
        case measure => simp [intOf]; omega
    · obtain rfl : k = 5 := by omega
      rw [kUp_five hk4] at BE
      have RW := Lib.hid (RdV.blk BW.out)
      clear k4 k5 k1 BW KD
      have q0 : wr.cell? ⟨gb, 0, none⟩ = some (.int .i64 n0) := BE.out.cell 0
      have q1 : wr.cell? ⟨gb, 1, none⟩ = some (.int .i64 kd) := BE.out.cell 1
      have q2 : wr.cell? ⟨gb, 2, none⟩ = some (.int .i64 n2) := BE.out.cell 2
      have q3 : wr.cell? ⟨gb, 3, none⟩ = some (.int .i64 n3) := BE.out.cell 3
      have q4 : wr.cell? ⟨gb, 4, none⟩ = some (.int .i64 n4) := BE.out.cell 4
      have q5 : wr.cell? ⟨gb, 5, none⟩ = some (.bool false) := BE.out.cell 5
      go_wp2_with (fail)
      refine (LX.out _ (YR.out.tr (by (repeat (first | assumption | exact Ext.rf _ | apply Ext.drew | apply Ext.drewN | apply Ext.alloc))))).mono ?_
      rintro e wl ⟨rfl, xl⟩
      have YL := Lib.hid (YR.out.tr (Ext.tr (by (repeat (first | assumption | exact Ext.rf _ | apply Ext.drew | apply Ext.drewN | apply Ext.alloc))) xl))
      have BL := Lib.hid (Blk.ext (Blk.ext (w' := _) BE.out (by (repeat (first | assumption | exact Ext.rf _ | apply Ext.drew | apply Ext.drewN | apply Ext.alloc)))) xl)
      have BZ := Lib.hid (Blk.ext (Blk.ext (w' := _) BR.out (by (repeat (first | assumption | exact Ext.rf _ | apply Ext.drew | apply Ext.drewN | apply Ext.alloc)))) xl)
      have RL := Lib.hid (RdV.ext (RdV.ext (w' := _) RW.out (by (repeat (first | assumption | exact Ext.rf _ | apply Ext.drew | apply Ext.drewN | apply Ext.alloc)))) xl)
      have zl := Ext.tr (a := wr) (by (repeat (first | assumption | exact Ext.rf _ | apply Ext.drew | apply Ext.drewN | apply Ext.alloc))) xl |>.size
      have zb2 := BE.out.lt
      have zr2 := BR.out.lt
      clear q0 q1 q2 q3 q4 q5 xl BE BR RW YR LX
      have q0 : wl.cell? ⟨gb, 0, none⟩ = some (.int .i64 n0) := BL.out.cell 0
      have q1 : wl.cell? ⟨gb, 1, none⟩ = some (.int .i64 kd) := BL.out.cell 1
      have q2 : wl.cell? ⟨gb, 2, none⟩ = some (.int .i64 n2) := BL.out.cell 2
      have q3 : wl.cell? ⟨gb, 3, none⟩ = some (.int .i64 n3) := BL.out.cell 3
      have q4 : wl.cell? ⟨gb, 4, none⟩ = some (.int .i64 n4) := BL.out.cell 4
      have q5 : wl.cell? ⟨gb, 5, none⟩ = some (.bool false) := BL.out.cell 5
      cases ok with
      | false =>
        have HR := RES1.out rfl
        have r0 : wl.cell? ⟨w.heap.size, 0, none⟩ = some (.int .i64 0) := BZ.out.cell 0
        have r1 : wl.cell? ⟨w.heap.size, 1, none⟩ = some (.int .i64 0) := BZ.out.cell 1
        have r2 : wl.cell? ⟨w.heap.size, 2, none⟩ = some (.int .i64 0) := BZ.out.cell 2
        have r3 : wl.cell? ⟨w.heap.size, 3, none⟩ = some (.int .i64 0) := BZ.out.cell 3
        have r4 : wl.cell? ⟨w.heap.size, 4, none⟩ = some (.int .i64 0) := BZ.out.cell 4
        have r5 : wl.cell? ⟨w.heap.size, 5, none⟩ = some (.bool false) := BZ.out.cell 5
        have f0 := BZ.out.free 0
        have f1 := BZ.out.free 1
        have f2 := BZ.out.free 2
        have f3 := BZ.out.free 3
        have f4 := BZ.out.free 4
        have f5 := BZ.out.free 5
        have BF := Lib.hid (ent_put BZ.out (.int .i64 n0) (.int .i64 kd) (.int .i64 n2) (.int .i64 n3) (.int .i64 n4) (.bool false))
        have YF : Hid (Ext w (ent6W wl w.heap.size (.int .i64 n0) (.int .i64 kd) (.int .i64 n2) (.int .i64 n3) (.int .i64 n4) (.bool false))) := Lib.hid (YL.out.ent6 (Nat.le_refl _))
        unfold ent6W at BF YF
        go_wp2_with (fail)
        refine wp_region_any (by kernel_rfl) ?_
        change wpAny _ _ _ _ _ _ _ (World.drew _)
        refine wpAny_T (i := 1) (op := Op.move (Operand.tmp 8)) (t := 4) (d := some 56) (v := ?_) rfl (by decide +kernel) (by decide +kernel) (by decide +kernel) (fun _ _ _ h => h) ?_ ?_
        case refine_2 => (intro _; unfold exec2; go_simp; try with_reducible rfl)
        try simp only [Act.put, List.setIfInBounds_toArray, List.set_cons_zero, List.set_cons_succ]
        refine wpAny_T (i := 2) (op := Op.move (Operand.tmp 56)) (t := 4) (d := some 57) (v := ?_) rfl (by decide +kernel) (by decide +kernel) (by decide +kernel) (fun _ _ _ h => h) ?_ ?_
        case refine_2 => (intro _; unfold exec2; go_simp; try with_reducible rfl)
        try simp only [Act.put, List.setIfInBounds_toArray, List.set_cons_zero, List.set_cons_succ]
        refine wpAny_S (i := 3) (op := Op.move (Operand.tmp 7)) (t := 9) (d := some 58) (b := false) (g := (2, true)) rfl (by decide +kernel) (by decide +kernel) (by decide +kernel) (fun _ _ _ h => h) (by kernel_rfl) rfl ?_
        try simp only [Act.put, List.setIfInBounds_toArray, List.set_cons_zero, List.set_cons_succ]
        refine wpAny_S (i := 4) (op := Op.move (Operand.tmp 0)) (t := 9) (d := some 59) (b := false) (g := (2, true)) rfl (by decide +kernel) (by decide +kernel) (by decide +kernel) (fun _ _ _ h => h) (by kernel_rfl) rfl ?_
        try simp only [Act.put, List.setIfInBounds_toArray, List.set_cons_zero, List.set_cons_succ]
        refine wpAny_S (i := 5) (op := Op.binOp BinOp.eql 9 (Operand.tmp 58) (Operand.tmp 59) 9) (t := 4) (d := some 60) (b := false) (g := (2, true)) rfl (by decide +kernel) (by decide +kernel) (by decide +kernel) (fun _ _ _ h => h) (by kernel_rfl) rfl ?_
        try simp only [Act.put, List.setIfInBounds_toArray, List.set_cons_zero, List.set_cons_succ]
        refine wpAny_T (i := 6) (op := Op.pick (Operand.tmp 57) (Operand.tmp 60) (Operand.const (Value.bool false))) (t := 4) (d := some 61) (v := ?_) rfl (by decide +kernel) (by decide +kernel) (by decide +kernel) (fun _ _ _ h => h) ?_ ?_
        case refine_2 => (intro _; unfold exec2; go_simp; try with_reducible rfl)
        try simp only [Act.put, List.setIfInBounds_toArray, List.set_cons_zero, List.set_cons_succ]
        refine wpAny_T (i := 7) (op := Op.move (Operand.tmp 61)) (t := 4) (d := some 62) (v := ?_) rfl (by decide +kernel) (by decide +kernel) (by decide +kernel) (fun _ _ _ h => h) ?_ ?_
        case refine_2 => (intro _; unfold exec2; go_simp; try with_reducible rfl)
        try simp only [Act.put, List.setIfInBounds_toArray, List.set_cons_zero, List.set_cons_succ]
        refine wpAny_S (i := 8) (op := Op.move (Operand.tmp 4)) (t := 64) (d := some 63) (b := false) (g := (7, true)) rfl (by decide +kernel) (by decide +kernel) (by decide +kernel) (fun _ _ _ h => h) (by kernel_rfl) rfl ?_
        try simp only [Act.put, List.setIfInBounds_toArray, List.set_cons_zero, List.set_cons_succ]
        refine wpAny_S (i := 9) (op := Op.call { callee := Callee.value (Operand.func 34), args := #[Operand.tmp 63], argTypes := #[64] }) (t := 4) (d := some 64) (b := false) (g := (7, true)) rfl (by decide +kernel) (by decide +kernel) (by decide +kernel) (fun _ _ _ h => h) (by kernel_rfl) rfl ?_
        try simp only [Act.put, List.setIfInBounds_toArray, List.set_cons_zero, List.set_cons_succ]
        refine wpAny_T (i := 10) (op := Op.pick (Operand.tmp 62) (Operand.tmp 64) (Operand.const (Value.bool false))) (t := 4) (d := some 65) (v := ?_) rfl (by decide +kernel) (by decide +kernel) (by decide +kernel) (fun _ _ _ h => h) ?_ ?_
        case refine_2 => (intro _; unfold exec2; go_simp; try with_reducible rfl)
        try simp only [Act.put, List.setIfInBounds_toArray, List.set_cons_zero, List.set_cons_succ]
        refine wpAny_next 0 (by decide +kernel) (op_ld (T := 50) (x := Operand.tmp 5) (t := 50) (d := some 55) rfl (.pointer (some ⟨gb, 0, none⟩)) (by kernel_rfl) (.agg #[.int .i64 n0, .int .i64 kd, .int .i64 n2, .int .i64 n3, .int .i64 n4, .bool false]) (by go_simp) ?_)
        try simp only [Act.put, List.setIfInBounds_toArray, List.set_cons_zero, List.set_cons_succ]
        refine wpAny_next 11 (by kernel_rfl) (op_st rfl (.pointer (some ⟨w.heap.size, 0, none⟩)) (.agg #[.int .i64 n0, .int .i64 kd, .int .i64 n2, .int .i64 n3, .int .i64 n4, .bool false]) (by kernel_rfl) (by kernel_rfl) (by go_simp; rfl) ?_)
        try simp only [Act.put, List.setIfInBounds_toArray, List.set_cons_zero, List.set_cons_succ]
        refine wpAny_T (i := 12) (op := Op.assign (Operand.tmp 65)) (t := 4) (d := some 3) (v := ?_) rfl (by decide +kernel) (by decide +kernel) (by decide +kernel) (fun _ _ _ h => h) ?_ ?_
        case refine_2 => (intro _; unfold exec2; go_simp; try with_reducible rfl)
        try simp only [Act.put, List.setIfInBounds_toArray, List.set_cons_zero, List.set_cons_succ]
        refine wpAny_done (by kernel_rfl) ?_ _
        go_simp
        generalize ((((((wl.setCell ⟨w.heap.size, 0, none⟩ (.int .i64 n0)).setCell ⟨w.heap.size, 1, none⟩ (.int .i64 kd)).setCell ⟨w.heap.size, 2, none⟩ (.int .i64 n2)).setCell ⟨w.heap.size, 3, none⟩ (.int .i64 n3)).setCell ⟨w.heap.size, 4, none⟩ (.int .i64 n4)).setCell ⟨w.heap.size, 5, none⟩ (.bool false)) = wf at *
        clear r0 r1 r2 r3 r4 r5 f0 f1 f2 f3 f4 f5 q0 q1 q2 q3 q4 q5
        have r0 : wf.drew.cell? ⟨w.heap.size, 0, none⟩ = some (.int .i64 n0) := BF.out.drew.cell 0
        have r1 : wf.drew.cell? ⟨w.heap.size, 1, none⟩ = some (.int .i64 kd) := BF.out.drew.cell 1
        have r2 : wf.drew.cell? ⟨w.heap.size, 2, none⟩ = some (.int .i64 n2) := BF.out.drew.cell 2
        have r3 : wf.drew.cell? ⟨w.heap.size, 3, none⟩ = some (.int .i64 n3) := BF.out.drew.cell 3
        have r4 : wf.drew.cell? ⟨w.heap.size, 4, none⟩ = some (.int .i64 n4) := BF.out.drew.cell 4
        have r5 : wf.drew.cell? ⟨w.heap.size, 5, none⟩ = some (.bool false) := BF.out.drew.cell 5
        go_wp2_with (fail)
        refine bodyPost_ret (v := .tuple #[.agg #[.int .i64 n0, .int .i64 kd, .int .i64 n2, .int .i64 n3, .int .i64 n4, .bool false], .bool false]) (by simp [results, Tryd.results20, go_sem, *]) rfl ⟨by rw [HR], YF.out.drew⟩
      | true =>
        by_cases ht : t = s
        · skip
          subst ht
          have HR2 := Lib.hid (RES3.out rfl rfl)
          have h0 := BL.out.lt
          go_wp2_with (fail)
          go_region_held3 (fun W' => W'.cell? ⟨gb, 0, none⟩ = some (.int .i64 n0) ∧ W'.cell? ⟨gb, 1, none⟩ = some (.int .i64 kd) ∧ W'.cell? ⟨gb, 2, none⟩ = some (.int .i64 n2) ∧ W'.cell? ⟨gb, 3, none⟩ = some (.int .i64 n3) ∧ W'.cell? ⟨gb, 4, none⟩ = some (.int .i64 n4) ∧ W'.cell? ⟨gb, 5, none⟩ = some (.bool false)) (first | go_keep | (focus (go_simp; done)))
            (first
            | (go_at_call 34; refine (SX.out _ _ _ (RL.out.ext (by (repeat (first | assumption | exact Ext.rf _ | apply Ext.drew | apply Ext.drewN | apply Ext.alloc))))).mono ?_; rintro e wm ⟨rfl, xm⟩; have ym := Ext.tr (a := wl) (by (repeat (first | assumption | exact Ext.rf _ | apply Ext.drew | apply Ext.drewN | apply Ext.alloc))) xm; have s1 := keepEL ym h0 q0; have s2 := keepEL ym h0 q1; have s3 := keepEL ym h0 q2; have s4 := keepEL ym h0 q3; have s5 := keepEL ym h0 q4; have s6 := keepEL ym h0 q5; have Zm := Lib.hid (BZ.out.ext ym); have t0 := Zm.out.cell 0; have t1 := Zm.out.cell 1; have t2 := Zm.out.cell 2; have t3 := Zm.out.cell 3; have t4 := Zm.out.cell 4; have t5 := Zm.out.cell 5; have f0 := Zm.out.free 0; have f1 := Zm.out.free 1; have f2 := Zm.out.free 2; have f3 := Zm.out.free 3; have f4 := Zm.out.free 4; have f5 := Zm.out.free 5; simp only [List.getElem?_toArray, List.getElem?_cons_zero, List.getElem?_cons_succ] at t0 t1 t2 t3 t4 t5; have BF := Lib.hid (ent_put Zm.out (.int .i64 n0) (.int .i64 kd) (.int .i64 n2) (.int .i64 n3) (.int .i64 n4) (.bool false)); have YF : Hid (Ext w (ent6W wm w.heap.size (.int .i64 n0) (.int .i64 kd) (.int .i64 n2) (.int .i64 n3) (.int .i64 n4) (.bool false))) := Lib.hid ((YL.out.tr ym).ent6 (Nat.le_refl _)); unfold ent6W at BF YF))
          generalize ((((((wm.setCell ⟨w.heap.size, 0, none⟩ (.int .i64 n0)).setCell ⟨w.heap.size, 1, none⟩ (.int .i64 kd)).setCell ⟨w.heap.size, 2, none⟩ (.int .i64 n2)).setCell ⟨w.heap.size, 3, none⟩ (.int .i64 n3)).setCell ⟨w.heap.size, 4, none⟩ (.int .i64 n4)).setCell ⟨w.heap.size, 5, none⟩ (.bool false)) = wf at *
          clear t0 t1 t2 t3 t4 t5 f0 f1 f2 f3 f4 f5 q0 q1 q2 q3 q4 q5 s1 s2 s3 s4 s5 s6
          have r0 : wf.cell? ⟨w.heap.size, 0, none⟩ = some (.int .i64 n0) := BF.out.cell 0
          have r1 : wf.cell? ⟨w.heap.size, 1, none⟩ = some (.int .i64 kd) := BF.out.cell 1
          have r2 : wf.cell? ⟨w.heap.size, 2, none⟩ = some (.int .i64 n2) := BF.out.cell 2
          have r3 : wf.cell? ⟨w.heap.size, 3, none⟩ = some (.int .i64 n3) := BF.out.cell 3
          have r4 : wf.cell? ⟨w.heap.size, 4, none⟩ = some (.int .i64 n4) := BF.out.cell 4
          have r5 : wf.cell? ⟨w.heap.size, 5, none⟩ = some (.bool false) := BF.out.cell 5
          go_wp2_with (fail)
          refine bodyPost_ret (v := .tuple #[.agg #[.int .i64 n0, .int .i64 kd, .int .i64 n2, .int .i64 n3, .int .i64 n4, .bool false], .bool st]) (by simp [results, Tryd.results20, go_sem, *]) rfl ⟨by rw [HR2.out], YF.out⟩
        · have HR := RES2.out ht
          have ht2 : @BEq.beq (List UInt8) _ t s = false := beq_eq_false_iff_ne.2 ht
          have r0 : wl.cell? ⟨w.heap.size, 0, none⟩ = some (.int .i64 0) := BZ.out.cell 0
          have r1 : wl.cell? ⟨w.heap.size, 1, none⟩ = some (.int .i64 0) := BZ.out.cell 1
          have r2 : wl.cell? ⟨w.heap.size, 2, none⟩ = some (.int .i64 0) := BZ.out.cell 2
          have r3 : wl.cell? ⟨w.heap.size, 3, none⟩ = some (.int .i64 0) := BZ.out.cell 3
          have r4 : wl.cell? ⟨w.heap.size, 4, none⟩ = some (.int .i64 0) := BZ.out.cell 4
          have r5 : wl.cell? ⟨w.heap.size, 5, none⟩ = some (.bool false) := BZ.out.cell 5
          have f0 := BZ.out.free 0
          have f1 := BZ.out.free 1
          have f2 := BZ.out.free 2
          have f3 := BZ.out.free 3
          have f4 := BZ.out.free 4
          have f5 := BZ.out.free 5
          have BF := Lib.hid (ent_put BZ.out (.int .i64 n0) (.int .i64 kd) (.int .i64 n2) (.int .i64 n3) (.int .i64 n4) (.bool false))
          have YF : Hid (Ext w (ent6W wl w.heap.size (.int .i64 n0) (.int .i64 kd) (.int .i64 n2) (.int .i64 n3) (.int .i64 n4) (.bool false))) := Lib.hid (YL.out.ent6 (Nat.le_refl _))
          unfold ent6W at BF YF
          go_wp2_with (fail)
          refine wp_region_any (by kernel_rfl) ?_
          change wpAny _ _ _ _ _ _ _ (World.drew _)
          refine wpAny_T (i := 1) (op := Op.move (Operand.tmp 8)) (t := 4) (d := some 56) (v := ?_) rfl (by decide +kernel) (by decide +kernel) (by decide +kernel) (fun _ _ _ h => h) ?_ ?_
          case refine_2 => (intro _; unfold exec2; go_simp; try with_reducible rfl)
          try simp only [Act.put, List.setIfInBounds_toArray, List.set_cons_zero, List.set_cons_succ]
          refine wpAny_T (i := 2) (op := Op.move (Operand.tmp 56)) (t := 4) (d := some 57) (v := ?_) rfl (by decide +kernel) (by decide +kernel) (by decide +kernel) (fun _ _ _ h => h) ?_ ?_
          case refine_2 => (intro _; unfold exec2; go_simp; try with_reducible rfl)
          try simp only [Act.put, List.setIfInBounds_toArray, List.set_cons_zero, List.set_cons_succ]
          refine wpAny_G (i := 3) (op := Op.move (Operand.tmp 7)) (t := 9) (d := some 58) (g := (2, true)) (v := ?_) rfl (by decide +kernel) (by decide +kernel) (by decide +kernel) (fun _ _ _ h => h) (by kernel_rfl) ?_ ?_
          case refine_2 => (intro _; unfold exec2; go_simp; try with_reducible rfl)
          try simp only [Act.put, List.setIfInBounds_toArray, List.set_cons_zero, List.set_cons_succ]
          refine wpAny_G (i := 4) (op := Op.move (Operand.tmp 0)) (t := 9) (d := some 59) (g := (2, true)) (v := ?_) rfl (by decide +kernel) (by decide +kernel) (by decide +kernel) (fun _ _ _ h => h) (by kernel_rfl) ?_ ?_
          case refine_2 => (intro _; unfold exec2; go_simp; try with_reducible rfl)
          try simp only [Act.put, List.setIfInBounds_toArray, List.set_cons_zero, List.set_cons_succ]
          refine wpAny_G (i := 5) (op := Op.binOp BinOp.eql 9 (Operand.tmp 58) (Operand.tmp 59) 9) (t := 4) (d := some 60) (g := (2, true)) (v := .bool false) rfl (by decide +kernel) (by decide +kernel) (by decide +kernel) (fun _ _ _ h => h) (by kernel_rfl) ?_ ?_
          · (intro _; unfold exec2; go_simp; skip)
          try simp only [Act.put, List.setIfInBounds_toArray, List.set_cons_zero, List.set_cons_succ]
          refine wpAny_T (i := 6) (op := Op.pick (Operand.tmp 57) (Operand.tmp 60) (Operand.const (Value.bool false))) (t := 4) (d := some 61) (v := ?_) rfl (by decide +kernel) (by decide +kernel) (by decide +kernel) (fun _ _ _ h => h) ?_ ?_
          case refine_2 => (intro _; unfold exec2; go_simp; try with_reducible rfl)
          try simp only [Act.put, List.setIfInBounds_toArray, List.set_cons_zero, List.set_cons_succ]
          refine wpAny_T (i := 7) (op := Op.move (Operand.tmp 61)) (t := 4) (d := some 62) (v := ?_) rfl (by decide +kernel) (by decide +kernel) (by decide +kernel) (fun _ _ _ h => h) ?_ ?_
          case refine_2 => (intro _; unfold exec2; go_simp; try with_reducible rfl)
          try simp only [Act.put, List.setIfInBounds_toArray, List.set_cons_zero, List.set_cons_succ]
          refine wpAny_S (i := 8) (op := Op.move (Operand.tmp 4)) (t := 64) (d := some 63) (b := false) (g := (7, true)) rfl (by decide +kernel) (by decide +kernel) (by decide +kernel) (fun _ _ _ h => h) (by kernel_rfl) rfl ?_
          try simp only [Act.put, List.setIfInBounds_toArray, List.set_cons_zero, List.set_cons_succ]
          refine wpAny_S (i := 9) (op := Op.call { callee := Callee.value (Operand.func 34), args := #[Operand.tmp 63], argTypes := #[64] }) (t := 4) (d := some 64) (b := false) (g := (7, true)) rfl (by decide +kernel) (by decide +kernel) (by decide +kernel) (fun _ _ _ h => h) (by kernel_rfl) rfl ?_
          try simp only [Act.put, List.setIfInBounds_toArray, List.set_cons_zero, List.set_cons_succ]
          refine wpAny_T (i := 10) (op := Op.pick (Operand.tmp 62) (Operand.tmp 64) (Operand.const (Value.bool false))) (t := 4) (d := some 65) (v := ?_) rfl (by decide +kernel) (by decide +kernel) (by decide +kernel) (fun _ _ _ h => h) ?_ ?_
          case refine_2 => (intro _; unfold exec2; go_simp; try with_reducible rfl)
          try simp only [Act.put, List.setIfInBounds_toArray, List.set_cons_zero, List.set_cons_succ]
          refine wpAny_next 0 (by decide +kernel) (op_ld (T := 50) (x := Operand.tmp 5) (t := 50) (d := some 55) rfl (.pointer (some ⟨gb, 0, none⟩)) (by kernel_rfl) (.agg #[.int .i64 n0, .int .i64 kd, .int .i64 n2, .int .i64 n3, .int .i64 n4, .bool false]) (by go_simp) ?_)
          try simp only [Act.put, List.setIfInBounds_toArray, List.set_cons_zero, List.set_cons_succ]
          refine wpAny_next 11 (by kernel_rfl) (op_st rfl (.pointer (some ⟨w.heap.size, 0, none⟩)) (.agg #[.int .i64 n0, .int .i64 kd, .int .i64 n2, .int .i64 n3, .int .i64 n4, .bool false]) (by kernel_rfl) (by kernel_rfl) (by go_simp; rfl) ?_)
          try simp only [Act.put, List.setIfInBounds_toArray, List.set_cons_zero, List.set_cons_succ]
          refine wpAny_T (i := 12) (op := Op.assign (Operand.tmp 65)) (t := 4) (d := some 3) (v := ?_) rfl (by decide +kernel) (by decide +kernel) (by decide +kernel) (fun _ _ _ h => h) ?_ ?_
          case refine_2 => (intro _; unfold exec2; go_simp; try with_reducible rfl)
          try simp only [Act.put, List.setIfInBounds_toArray, List.set_cons_zero, List.set_cons_succ]
          refine wpAny_done (by kernel_rfl) ?_ _
          go_simp
          generalize ((((((wl.setCell ⟨w.heap.size, 0, none⟩ (.int .i64 n0)).setCell ⟨w.heap.size, 1, none⟩ (.int .i64 kd)).setCell ⟨w.heap.size, 2, none⟩ (.int .i64 n2)).setCell ⟨w.heap.size, 3, none⟩ (.int .i64 n3)).setCell ⟨w.heap.size, 4, none⟩ (.int .i64 n4)).setCell ⟨w.heap.size, 5, none⟩ (.bool false)) = wf at *
          clear r0 r1 r2 r3 r4 r5 f0 f1 f2 f3 f4 f5 q0 q1 q2 q3 q4 q5
          have r0 : wf.drew.cell? ⟨w.heap.size, 0, none⟩ = some (.int .i64 n0) := BF.out.drew.cell 0
          have r1 : wf.drew.cell? ⟨w.heap.size, 1, none⟩ = some (.int .i64 kd) := BF.out.drew.cell 1
          have r2 : wf.drew.cell? ⟨w.heap.size, 2, none⟩ = some (.int .i64 n2) := BF.out.drew.cell 2
          have r3 : wf.drew.cell? ⟨w.heap.size, 3, none⟩ = some (.int .i64 n3) := BF.out.drew.cell 3
          have r4 : wf.drew.cell? ⟨w.heap.size, 4, none⟩ = some (.int .i64 n4) := BF.out.drew.cell 4
          have r5 : wf.drew.cell? ⟨w.heap.size, 5, none⟩ = some (.bool false) := BF.out.drew.cell 5
          go_wp2_with (fail)
          refine bodyPost_ret (v := .tuple #[.agg #[.int .i64 n0, .int .i64 kd, .int .i64 n2, .int .i64 n3, .int .i64 n4, .bool false], .bool false]) (by simp [results, Tryd.results20, go_sem, *]) rfl ⟨by rw [HR], YF.out.drew⟩
end Go.Proofs.YtcpadkaljnnieaaDoor
namespace Go.Proofs.YtcpadkaljnnieaaDoor
open Go.RowKit Go.ChangeShapes Go.WideShapes Go.ChangeAt Go.Deep

theorem tent_info : (Tryd.prog.info? 50).map (fun i => (i.zero, i.size, i.bytes)) = some (some (.agg #[.int .i64 0, .int .i64 0, .int .i64 0, .int .i64 0, .int .i64 0, .bool false]), 6, 48) := by kernel_rfl
theorem words_each {e : Ent} (h : e.In) : ∀ x ∈ e.words, Plain x ∧ x.length ≤ 1000 := by
  intro x hx
  refine ⟨fun b hb => e.words_plain x hx b hb, ?_⟩
  have q1 := Lib.itoa_length_le e.worker h.worker.1 h.worker.2
  have q2 := Lib.itoa_length_le e.cell h.cell.1 h.cell.2
  have q3 := Lib.itoa_length_le e.old h.old.1 h.old.2
  have q4 := Lib.itoa_length_le e.new h.new.1 h.new.2
  have q5 := kindT_len e.kind
  have q6 : (yesT e.done).length ≤ 3 := by cases e.done <;> decide
  unfold Ent.words at hx
  split at hx
  · simp only [List.mem_cons, List.not_mem_nil, or_false] at hx
    rcases hx with rfl | rfl
    · omega
    · decide
  · simp only [List.mem_cons, List.not_mem_nil, or_false] at hx
    rcases hx with rfl | rfl | rfl | rfl | rfl | rfl <;> omega
theorem entry_line (e : Ent) (hf : e.fine = true) (hi : e.In) (w : World) (hT : Ten w) :
    Calls Tryd.prog 20 #[.string ⟨(Lib.join e.words [32]).toArray⟩] w (EntryPost (Lib.join e.words [32]) w) := by
  have hl := words_len hi
  have hs := splitC_join e.words e.words_ne e.words_clean
  have hp := words_each hi
  obtain ⟨h1, h2, h3⟩ := e.fine_parts hf
  rcases h3 with hq | ⟨hq, k1, k2, k3⟩
  · have hw2 : e.words = [Lib.itoa e.worker, [45]] := by unfold Ent.words; rw [if_pos hq]
    rw [hw2] at hs hp hl ⊢
    exact entry2_any _ _ _ hs (by omega) hp w hT
  · have hw2 : e.words = [Lib.itoa e.worker, kindT e.kind, Lib.itoa e.cell, Lib.itoa e.old, Lib.itoa e.new, yesT e.done] := by unfold Ent.words; rw [if_neg (by rw [hq]; decide)]
    cases hd : e.done with
    | true =>
      rw [hd] at hw2
      rw [hw2] at hs hp hl ⊢
      exact entry6_true _ _ _ _ _ _ k1 k2 hs (by omega) hp w hT
    | false =>
      rw [hd] at hw2
      rw [hw2] at hs hp hl ⊢
      exact entry6_false _ _ _ _ _ _ k1 k2 hs (by omega) hp w hT
theorem readE_at {l : List Ent} {k : Nat} {e : Ent} (h : l[k]? = some e) (acc : List Ent) (n : Int) : readE acc n (l.drop k) = if e.sh then readE (acc ++ [e]) (n + 1) (l.drop (k + 1)) else ([], n, 8) := by
  have hlt := (List.getElem?_eq_some_iff.1 h).1
  have he : l[k] = e := (List.getElem?_eq_some_iff.1 h).2
  rw [List.drop_eq_getElem_cons hlt, he, readE]
/-- what is told of the entries of a text -/
def ReadTo (R : List Ent × Int × Int) (w : World) (r : Ending) (w' : World) : Prop := ∃ (A : Option Addr) (c : Nat), r = .returned (.tuple #[.slice A R.1.length c, .int .i64 R.2.1, .int .i64 R.2.2]) ∧ OwV w' w.heap.size 50 6 A R.1.length c (entsL R.1) ∧ Ext w w'
set_option maxRecDepth 100000 in
set_option maxHeartbeats 1000000 in
theorem tread_any (l : List Ent) (w : World) (hl : l.length ≤ 1000) (hin : ∀ e ∈ l, e.In) (hfi : ∀ e ∈ l, e.fine = true) (hT : Ten w) :
    Calls Tryd.prog 9 #[.string ⟨(linesE l).toArray⟩] w (ReadTo (readE [] 1 l) w) := by
  have EN := Lib.hid (fun (W : World) (x : Ext w W) (e : Ent) (h : e ∈ l) => entry_line e (hfi e h) (hin e h) W (hT.ext x))
  have CU := Lib.hid (fun (W : World) (s : Txt) (h : s.length < 4294967281) => cut1_any s 10 W h)
  have LN := Lib.hid (fun (k : Nat) => linesE_len (l.drop k) (fun e he => hin e (List.mem_of_mem_drop he)))
  have SH := Lib.hid (fun (e : Ent) (h : e ∈ l) => entryT_line (hfi e h))
  obtain ⟨i0, hi, hz0, hz1, hz2⟩ := info_parts tent_info
  replace hi := Lib.hid hi
  replace hz0 := Lib.hid hz0
  replace hz1 := Lib.hid hz1
  replace hz2 := Lib.hid hz2
  have l0 : (linesE l).length ≤ 200000 := by have := LN.out 0; rw [List.drop_zero] at this; omega
  have l1 : ((linesE l).length : Int) ≤ 200000 := by omega
  clear hin hfi hT
  obtain ⟨R, hR⟩ : ∃ R, Hid (readE [] 1 l = R) := ⟨_, rfl⟩
  rw [hR.out]
  obtain ⟨s0, hs0⟩ : ∃ s0, Hid (linesE l = s0) := ⟨_, rfl⟩
  rw [hs0.out] at l0 l1 ⊢
  go_enter Tryd.func9, Tryd.ntmps9
  go_wp2_with (fail)
  go_loopw [0, 5, 6] (fun sv ov nv wr => ∃ (k : Nat) (A : Option Addr) (c : Nat), sv = .string ⟨(linesE (l.drop k)).toArray⟩ ∧ ov = .slice A k c ∧ nv = .int .i64 (k + 1) ∧ k ≤ l.length ∧ Hid (R = readE (l.take k) (k + 1) (l.drop k)) ∧ Hid (OwV wr w.heap.size 50 6 A k c (entsL (l.take k))) ∧ Hid (Ext w wr)) (fun _ _ nv _ => l.length + 1 - (intOf nv).toNat)
  case atStart => exact ⟨0, none, 0, by rw [List.drop_zero, hs0.out], rfl, rfl, by omega, Lib.hid (by rw [List.drop_zero, List.take_zero]; exact hR.out.symm), Lib.hid (OwV.nil _ _ _ _), Lib.hid (by (repeat (first | assumption | exact Ext.rf _ | apply Ext.drew | apply Ext.drewN | apply Ext.alloc)))⟩
  case round =>
    clear l0 l1 hR hs0
    obtain ⟨k, A, c, rfl, rfl, rfl, hk, HR, HO, Y⟩ := hrel
    by_cases hlt : k < l.length
    · obtain ⟨e, he⟩ : ∃ e, l[k]? = some e := ⟨_, List.getElem?_eq_getElem hlt⟩
      have hem := List.mem_of_getElem? he
      have hD : l.drop k = e :: l.drop (k + 1) := by rw [List.drop_eq_getElem_cons hlt]; congr 1; exact (List.getElem?_eq_some_iff.1 he).2
      have hTK : Hid (l.take (k + 1) = l.take k ++ [e]) := Lib.hid (by rw [List.take_add_one, he]; rfl)
      have hne : linesE (l.drop k) ≠ [] := by rw [hD]; exact linesE_ne _ _
      have CX := Lib.hid (fun (W : World) => CU.out W (linesE (l.drop k)) (by have := LN.out k; rw [List.length_drop] at this; omega))
      have HR2 := HR.out.trans (readE_at he (l.take k) (k + 1))
      have hcut : cutC 10 (linesE (l.drop k)) = (Lib.join e.words [32], linesE (l.drop (k + 1)), true) := by rw [hD, cut_lines]
      rw [hcut] at CX
      have EX := Lib.hid (fun (W : World) (x : Ext w W) => EN.out W x e hem)
      unfold EntryPost entC at EX
      obtain ⟨s1, s2⟩ := SH.out e hem
      cases hsh : e.sh with
      | false =>
        rw [hsh] at s1 HR2
        rw [if_neg (by decide)] at HR2
        rw [s1] at EX
        have HR3 := Lib.hid HR2
        unfold txS at CX
        generalize (entryT (Lib.join e.words [32])).1 = E at *
        generalize Lib.join e.words [32] = q at *
        generalize linesE (l.drop (k + 1)) = rest at *
        generalize linesE (l.drop k) = S at *
        have hne2 : S.isEmpty = false := by cases S <;> simp_all
        clear s1 s2 hsh HR HR2 he hD hcut CU LN SH EN hTK
        go_wp2_with (first | (go_at_call 19; with_reducible (refine (CX.out _).mono ?_); rintro r w2 ⟨rfl, x2⟩; have y2 := Ext.tr (a := wr) (by (repeat (first | assumption | exact Ext.rf _ | apply Ext.drew | apply Ext.drewN | apply Ext.alloc))) x2) | (go_at_call 20; with_reducible (refine (EX.out _ (Y.out.tr (by (repeat (first | assumption | exact Ext.rf _ | apply Ext.drew | apply Ext.drewN | apply Ext.alloc))))).mono ?_); rintro r w3 ⟨rfl, x3⟩; have y3 := Ext.tr (a := wr) (by (repeat (first | assumption | exact Ext.rf _ | apply Ext.drew | apply Ext.drewN | apply Ext.alloc))) x3))
        go_ret3
        rw [HR3.out]
        exact ⟨none, 0, rfl, OwV.nil _ _ _ _, Y.out.tr (by (repeat (first | assumption | exact Ext.rf _ | apply Ext.drew | apply Ext.drewN | apply Ext.alloc)))⟩
      | true =>
        rw [hsh] at s1 s2 HR2
        rw [if_pos rfl] at HR2
        rw [s1, s2 rfl] at EX
        have HR3 : Hid (R = readE (l.take (k + 1)) ((k + 1 : Nat) + 1) (l.drop (k + 1))) := Lib.hid (by rw [hTK.out, HR2]; congr 1)
        unfold txS at CX
        generalize Lib.join e.words [32] = q at *
        generalize linesE (l.drop k) = S at *
        have hne2 : S.isEmpty = false := by cases S <;> simp_all
        have kq : k < 1000 := by omega
        clear s1 s2 hsh HR HR2 he hD hcut CU LN SH EN
        go_wp2_with (first | (go_at_call 19; with_reducible (refine (CX.out _).mono ?_); rintro r w2 ⟨rfl, x2⟩; have y2 := Ext.tr (a := wr) (by (repeat (first | assumption | exact Ext.rf _ | apply Ext.drew | apply Ext.drewN | apply Ext.alloc))) x2) | (go_at_call 20; with_reducible (refine (EX.out _ (Y.out.tr (by (repeat (first | assumption | exact Ext.rf _ | apply Ext.drew | apply Ext.drewN | apply Ext.alloc))))).mono ?_); rintro r w3 ⟨rfl, x3⟩; have y3 := Ext.tr (a := wr) (by (repeat (first | assumption | exact Ext.rf _ | apply Ext.drew | apply Ext.drewN | apply Ext.alloc))) x3) | (at_builtin; refine wpl_app_v _ (e := 50) Tryd.underlying26 hi.out hz0.out hz1.out hz2.out (by simp [Value.cells]) (by omega) rfl _ _ rfl w.heap.size A k c (entsL (l.take k)) _ 1 1 (entL e) rfl rfl (HO.out.ext (by (repeat (first | assumption | exact Ext.rf _ | apply Ext.drew | apply Ext.drewN | apply Ext.alloc)))) (RdV.blk (by (first | exact .new (by simp) | exact .drew (.new (by simp)) | exact .alloc (.new (by simp)) _ | exact .drew (.alloc (.new (by simp)) _) | exact .alloc (.alloc (.new (by simp)) _) _ | exact .drew (.alloc (.alloc (.new (by simp)) _) _) | (repeat (first | assumption | (refine Blk.new ?_; (focus (simp; done))) | apply Blk.drew | apply Blk.drewN | apply Blk.alloc))))).rdC (by rfl) (by simp [Value.oneCell', entL]) (by simp only [maxLen]; omega) (by omega) (by have := (Y.out.tr y3).size; simp; omega) ?_; rintro A6 c6 w6 o6 g6 _))
        have M6 : ModT w.heap.size [50] wr w6 := (ModT.of_ext (by (repeat (first | assumption | exact Ext.rf _ | apply Ext.drew | apply Ext.drewN | apply Ext.alloc)))).tr ((HO.out.ext (by (repeat (first | assumption | exact Ext.rf _ | apply Ext.drew | apply Ext.drewN | apply Ext.alloc)))).grownT g6)
        have O6 : Hid (OwV w6 w.heap.size 50 6 A6 (k + 1) c6 (entsL (l.take (k + 1)))) := by rw [hTK.out, entsL_snoc]; exact Lib.hid o6
        have Y6 := Lib.hid (Y.out.modT M6 (Nat.le_refl _))
        clear M6 o6 g6 x2 x3 y2 y3 HO
        go_roundw
        case rel => exact ⟨k + 1, A6, c6, rfl, rfl, by go_num, by omega, HR3, O6, Y6⟩
        case measure => simp [intOf]; omega
    · obtain rfl : k = l.length := by omega
      have HR3 : Hid (R = (l, 0, 0)) := Lib.hid (by have := HR.out; rwa [List.take_length, List.drop_length, readE] at this)
      have HO2 : Hid (OwV wr w.heap.size 50 6 A l.length c (entsL l)) := by have := HO.out; rw [List.take_length] at this; exact Lib.hid this
      have hS : linesE (l.drop l.length) = [] := by rw [List.drop_length]; rfl
      rw [hS]
      clear HR HO CU EN LN SH hS
      go_wp2_with (fail)
      go_ret3
      rw [HR3.out]
      exact ⟨A, c, rfl, HO2.out, Y.out⟩
/-! the law's own example -/
def exA : Ent := ⟨0, 3, 3, 1, 2, true⟩
def exB : Ent := ⟨2, 0, 0, 0, 0, false⟩
theorem exA_in : exA.In := ⟨by unfold i64 exA; simp, by unfold i64 exA; simp, by unfold i64 exA; simp, by unfold i64 exA; simp, by unfold i64 exA; simp⟩
theorem exB_in : exB.In := ⟨by unfold i64 exB; simp, by unfold i64 exB; simp, by unfold i64 exB; simp, by unfold i64 exB; simp, by unfold i64 exB; simp⟩
theorem itoa_dig {n : Nat} (h : n < 10) : Lib.itoa (n : Int) = [UInt8.ofNat (48 + n)] := by
  unfold Lib.itoa
  rw [if_neg (by omega), Int.toNat_natCast, Lib.decDigits, dif_pos h]
theorem exA_write : writeE [exA] = ([48, 32, 115, 119, 97, 112, 32, 51, 32, 49, 32, 50, 32, 121, 101, 115, 10], 0) := by
  have h0 := itoa_dig (n := 0) (by omega)
  have h1 := itoa_dig (n := 1) (by omega)
  have h2 := itoa_dig (n := 2) (by omega)
  have h3 := itoa_dig (n := 3) (by omega)
  have hw : exA.words = [[48], [115, 119, 97, 112], [51], [49], [50], [121, 101, 115]] := by
    unfold Ent.words
    rw [if_neg (by decide)]
    show [Lib.itoa ((0 : Nat) : Int), kindT 3, Lib.itoa ((3 : Nat) : Int), Lib.itoa ((1 : Nat) : Int), Lib.itoa ((2 : Nat) : Int), yesT true] = _
    rw [h0, h1, h2, h3]
    decide
  rw [writeE_good (by decide) (by decide)]
  unfold linesE
  simp only [List.flatMap_cons, List.flatMap_nil, hw]
  decide
theorem exB_lines : linesE [exB] = [50, 32, 45, 10] := by
  have h2 := itoa_dig (n := 2) (by omega)
  have hw : exB.words = [[50], [45]] := by
    unfold Ent.words
    rw [if_pos (by decide)]
    show [Lib.itoa ((2 : Nat) : Int), [45]] = _
    rw [h2]
    decide
  unfold linesE
  simp only [List.flatMap_cons, List.flatMap_nil, hw]
  decide
theorem exB_read : readE [] 1 [exB] = ([exB], 0, 0) := by decide
end Go.Proofs.YtcpadkaljnnieaaDoor
namespace Go.Proofs.YtcpadkaljnnieaaDoor
open Go.RowKit Go.ChangeShapes Go.WideShapes Go.ChangeAt Go.Deep

theorem rdv_cell {w : World} {e : TypeId} {b off : Nat} {vs : List Value} (h : RdV w e (some ⟨b, off, none⟩) vs) {j : Nat} {v : Value} (hj : vs[j]? = some v) : w.cell? ⟨b, off + j, none⟩ = some v := by
  rcases h.rdC with rfl | ⟨b', off', e1, _, hc⟩
  · simp at hj
  · injection e1 with e1
    injection e1 with h1 h2
    subst h1 h2
    exact hc j v hj
theorem rdv_lt {w : World} {e : TypeId} {b off : Nat} {vs : List Value} (h : RdV w e (some ⟨b, off, none⟩) vs) (hne : vs ≠ []) : b < w.heap.size := h.lt hne b rfl
theorem rdv_far' {w : World} {e t : TypeId} {A : Option Addr} {vs : List Value} {g : Nat} {cs : Array Value} (h : RdV w e A vs) (hb : Blk w g t cs) (ht : t ≠ e) (i : Nat) (v : Value) : RdV (w.setCell ⟨g, i, none⟩ v) e A vs :=
  h.mod (S := fun z => z = g) ((Mod.rf (S := fun z => z = g) w).set (p := ⟨g, i, none⟩) (.inl rfl) v) fun k cur hk hS => by
    subst hS
    unfold Blk at hb
    rw [hk] at hb
    injection hb with hb
    injection hb with _ hb
    exact ht hb.symm
/-- what is told of a line -/
def REntryPost (e : Ent) (w : World) (r : Ending) (w' : World) : Prop := r = .returned (.tuple #[.agg (entC (if e.sh then e else ⟨e.worker, e.kind, 0, 0, 0, false⟩)), .bool e.sh]) ∧ Ext w w'
set_option maxRecDepth 100000 in
set_option maxHeartbeats 4000000 in
theorem rentry2_any (e : Ent) (hf : e.fine = true) (hi : e.In) (hq : e.quiet = true) (w : World) :
    Calls Tryd.prog 22 #[.string ⟨(Lib.join e.words [32]).toArray⟩] w (REntryPost e w) := by
  have hw2 : e.words = [Lib.itoa e.worker, [45]] := by unfold Ent.words; rw [if_pos hq]
  have hs := splitC_join e.words e.words_ne e.words_clean
  have hl := words_len hi
  obtain ⟨p1, p2, -⟩ := e.fine_parts hf
  have hsh : e.sh = true := by unfold Ent.sh; rw [hq]; rfl
  have hee := Ent.quiet_is hq
  have hline := e.line_fine hf
  unfold REntryPost
  rw [hsh, if_pos rfl]
  obtain ⟨s, hss⟩ : ∃ s, Lib.join e.words [32] = s := ⟨_, rfl⟩
  rw [hss] at hs hl hline ⊢
  have CT := Lib.hid (fun (W : World) => rcut_any s 32 W (by omega))
  rw [hs, hw2] at CT
  unfold CutsPost at CT
  have NU := Lib.hid (fun (W : World) => rnumber_itoa e.worker false (.inr p1) hi.worker W)
  have hd := dig_small p1 p2
  unfold NumPost at NU
  simp only [if_pos hd, decide_eq_true hd] at NU
  have LX := Lib.hid (fun (W : World) => rline_any e W hi)
  rw [hline] at LX
  rw [hee] at LX ⊢
  simp only at NU LX ⊢
  generalize e.worker = wk at *
  unfold txS at LX
  unfold entC at LX
  simp only at LX
  generalize Lib.itoa wk = a0 at *
  clear hee hline hsh hd hs hl hss hw2 hf hq hi p1 p2
  go_enter Tryd.func22, Tryd.ntmps22
  go_wp2_with (fail)
  refine (CT.out _).mono ?_
  rintro r w1 ⟨A, d, rfl, o1, x1⟩
  obtain ⟨b, off, rfl, hb, hc⟩ := o1.read.form (by simp [txV])
  have RW1 := Lib.hid o1.read
  have BR1 : Hid (Blk w1 w.heap.size 39 #[.int .i64 0, .int .i64 0, .int .i64 0, .int .i64 0, .int .i64 0, .bool false]) := Lib.hid (Blk.ext (Blk.new rfl) x1)
  have XW1 := Lib.hid (Ext.tr (a := w) (by (repeat (first | assumption | exact Ext.rf _ | apply Ext.drew | apply Ext.drewN | apply Ext.alloc))) x1)
  have zb := BR1.out.lt
  clear o1 x1 hc
  go_upto_region 3 with (fail)
  have BE1 : Hid (Blk (w1.alloc (.cells #[.int .i64 0, .int .i64 0, .int .i64 0, .int .i64 0, .int .i64 0, .bool false] 39)) w1.heap.size 39 #[.int .i64 0, .int .i64 0, .int .i64 0, .int .i64 0, .int .i64 0, .bool false]) := Lib.hid (.new rfl)
  have BR2 := Lib.hid (BR1.out.alloc (.cells #[.int .i64 0, .int .i64 0, .int .i64 0, .int .i64 0, .int .i64 0, .bool false] 39))
  have RW2 := Lib.hid (RW1.out.ext ((Ext.rf w1).alloc (.cells #[.int .i64 0, .int .i64 0, .int .i64 0, .int .i64 0, .int .i64 0, .bool false] 39)))
  have XW2 := Lib.hid (XW1.out.alloc (.cells #[.int .i64 0, .int .i64 0, .int .i64 0, .int .i64 0, .int .i64 0, .bool false] 39))
  obtain ⟨gb, hgb⟩ : ∃ gb, gb = w1.heap.size := ⟨_, rfl⟩
  rw [← hgb] at BE1 zb hb ⊢
  generalize w1.alloc (.cells #[.int .i64 0, .int .i64 0, .int .i64 0, .int .i64 0, .int .i64 0, .bool false] 39) = w2 at *
  clear hgb BR1 RW1 XW1
  have k0 : w2.cell? ⟨b, off, none⟩ = some (.string ⟨a0.toArray⟩) := rdv_cell (j := 0) RW2.out rfl
  have e0 : w2.cell? ⟨gb, 0, none⟩ = some (.int .i64 0) := BE1.out.cell 0
  go_wp2_with (fail)
  refine (NU.out _).mono ?_
  rintro r w3 ⟨rfl, x3⟩
  have y3 := Ext.tr (a := w2) (by (repeat (first | assumption | exact Ext.rf _ | apply Ext.drew | apply Ext.drewN | apply Ext.alloc))) x3
  have BE3 := Lib.hid (BE1.out.ext y3)
  have c0 : w3.cell? ⟨gb, 0, none⟩ = some (.int .i64 0) := BE3.out.cell 0
  have g0 := BE3.out.free 0
  have BR3 := Lib.hid ((BR2.out.ext y3).far (p := ⟨gb, 0, none⟩) (show w.heap.size ≠ gb by omega) (.int .i64 wk))
  have BE4 : Hid (Blk (w3.setCell ⟨gb, 0, none⟩ (.int .i64 wk)) gb 39 #[.int .i64 wk, .int .i64 0, .int .i64 0, .int .i64 0, .int .i64 0, .bool false]) := Lib.hid (BE3.out.set 0 (.int .i64 wk))
  have XW3 : Hid (Ext w (w3.setCell ⟨gb, 0, none⟩ (.int .i64 wk))) := Lib.hid ((XW2.out.tr y3).setNew (p := ⟨gb, 0, none⟩) (Nat.le_of_lt zb) _)
  clear BE1 BR2 RW2 XW2 BE3 y3 x3 k0 e0
  go_upto_region 19 with (fail)
  generalize w3.setCell ⟨gb, 0, none⟩ (.int .i64 wk) = w4 at *
  clear c0 g0
  have q0 : w4.cell? ⟨gb, 0, none⟩ = some (.int .i64 wk) := BE4.out.cell 0
  have q1 : w4.cell? ⟨gb, 1, none⟩ = some (.int .i64 0) := BE4.out.cell 1
  have q2 : w4.cell? ⟨gb, 2, none⟩ = some (.int .i64 0) := BE4.out.cell 2
  have q3 : w4.cell? ⟨gb, 3, none⟩ = some (.int .i64 0) := BE4.out.cell 3
  have q4 : w4.cell? ⟨gb, 4, none⟩ = some (.int .i64 0) := BE4.out.cell 4
  have q5 : w4.cell? ⟨gb, 5, none⟩ = some (.bool false) := BE4.out.cell 5
  go_wp2_with (fail)
  refine (LX.out _).mono ?_
  rintro r w5 ⟨rfl, x5⟩
  have y5 := Ext.tr (a := w4) (by (repeat (first | assumption | exact Ext.rf _ | apply Ext.drew | apply Ext.drewN | apply Ext.alloc))) x5
  have BE := Lib.hid (BE4.out.ext y5)
  have BZ := Lib.hid (BR3.out.ext y5)
  have YL := Lib.hid (XW3.out.tr y5)
  clear BE4 BR3 XW3 y5 x5 q0 q1 q2 q3 q4 q5
  have r0 : w5.cell? ⟨w.heap.size, 0, none⟩ = some (.int .i64 0) := BZ.out.cell 0
  have r1 : w5.cell? ⟨w.heap.size, 1, none⟩ = some (.int .i64 0) := BZ.out.cell 1
  have r2 : w5.cell? ⟨w.heap.size, 2, none⟩ = some (.int .i64 0) := BZ.out.cell 2
  have r3 : w5.cell? ⟨w.heap.size, 3, none⟩ = some (.int .i64 0) := BZ.out.cell 3
  have r4 : w5.cell? ⟨w.heap.size, 4, none⟩ = some (.int .i64 0) := BZ.out.cell 4
  have r5 : w5.cell? ⟨w.heap.size, 5, none⟩ = some (.bool false) := BZ.out.cell 5
  have f0 := BZ.out.free 0
  have f1 := BZ.out.free 1
  have f2 := BZ.out.free 2
  have f3 := BZ.out.free 3
  have f4 := BZ.out.free 4
  have f5 := BZ.out.free 5
  have q0 : w5.cell? ⟨gb, 0, none⟩ = some (.int .i64 wk) := BE.out.cell 0
  have q1 : w5.cell? ⟨gb, 1, none⟩ = some (.int .i64 0) := BE.out.cell 1
  have q2 : w5.cell? ⟨gb, 2, none⟩ = some (.int .i64 0) := BE.out.cell 2
  have q3 : w5.cell? ⟨gb, 3, none⟩ = some (.int .i64 0) := BE.out.cell 3
  have q4 : w5.cell? ⟨gb, 4, none⟩ = some (.int .i64 0) := BE.out.cell 4
  have q5 : w5.cell? ⟨gb, 5, none⟩ = some (.bool false) := BE.out.cell 5
  have BF := Lib.hid (ent_put BZ.out (.int .i64 wk) (.int .i64 0) (.int .i64 0) (.int .i64 0) (.int .i64 0) (.bool false))
  have YF : Hid (Ext w (ent6W w5 w.heap.size (.int .i64 wk) (.int .i64 0) (.int .i64 0) (.int .i64 0) (.int .i64 0) (.bool false))) := Lib.hid (YL.out.ent6 (Nat.le_refl _))
  unfold ent6W at BF YF
  go_wp2_with (fail)
  generalize ((((((w5.setCell ⟨w.heap.size, 0, none⟩ (.int .i64 wk)).setCell ⟨w.heap.size, 1, none⟩ (.int .i64 0)).setCell ⟨w.heap.size, 2, none⟩ (.int .i64 0)).setCell ⟨w.heap.size, 3, none⟩ (.int .i64 0)).setCell ⟨w.heap.size, 4, none⟩ (.int .i64 0)).setCell ⟨w.heap.size, 5, none⟩ (.bool false)) = wf at *
  clear r0 r1 r2 r3 r4 r5 f0 f1 f2 f3 f4 f5 q0 q1 q2 q3 q4 q5
  have r0 : wf.cell? ⟨w.heap.size, 0, none⟩ = some (.int .i64 wk) := BF.out.cell 0
  have r1 : wf.cell? ⟨w.heap.size, 1, none⟩ = some (.int .i64 0) := BF.out.cell 1
  have r2 : wf.cell? ⟨w.heap.size, 2, none⟩ = some (.int .i64 0) := BF.out.cell 2
  have r3 : wf.cell? ⟨w.heap.size, 3, none⟩ = some (.int .i64 0) := BF.out.cell 3
  have r4 : wf.cell? ⟨w.heap.size, 4, none⟩ = some (.int .i64 0) := BF.out.cell 4
  have r5 : wf.cell? ⟨w.heap.size, 5, none⟩ = some (.bool false) := BF.out.cell 5
  refine bodyPost_ret (v := .tuple #[.agg #[.int .i64 wk, .int .i64 0, .int .i64 0, .int .i64 0, .int .i64 0, .bool false], .bool true]) (by simp [results, Tryd.results22, go_sem, *]) rfl ⟨rfl, YF.out⟩
end Go.Proofs.YtcpadkaljnnieaaDoor
namespace Go.Proofs.YtcpadkaljnnieaaDoor
open Go.RowKit Go.ChangeShapes Go.WideShapes Go.ChangeAt Go.Deep

set_option maxRecDepth 100000 in
set_option maxHeartbeats 1000000 in
theorem rentry6_true (e : Ent) (hf : e.fine = true) (hi : e.In) (hq : e.quiet = false) (hdn : e.done = true) (w : World) :
    Calls Tryd.prog 22 #[.string ⟨(Lib.join e.words [32]).toArray⟩] w (REntryPost e w) := by
  have hw2 : e.words = [Lib.itoa e.worker, kindT e.kind, Lib.itoa e.cell, Lib.itoa e.old, Lib.itoa e.new, yesT e.done] := by unfold Ent.words; rw [if_neg (by rw [hq]; decide)]
  have hs := splitC_join e.words e.words_ne e.words_clean
  have hl := words_len hi
  obtain ⟨p1, p2, p3⟩ := e.fine_parts hf
  obtain ⟨p4, hk1, hk4, p5⟩ : e.quiet = false ∧ 1 ≤ e.kind ∧ e.kind ≤ 4 ∧ 0 ≤ e.cell := p3.resolve_left (by rw [hq]; decide)
  have hsh : Hid (e.sh = (decide (digN e.cell ≤ 18) && decide (digN e.old ≤ 18) && decide (digN e.new ≤ 18))) := Lib.hid (by unfold Ent.sh; rw [hq]; rfl)
  have hline := e.line_fine hf
  obtain ⟨s, hss⟩ : ∃ s, Lib.join e.words [32] = s := ⟨_, rfl⟩
  rw [hss] at hs hl hline ⊢
  have CT := Lib.hid (fun (W : World) => rcut_any s 32 W (by omega))
  rw [hs, hw2] at CT
  unfold CutsPost at CT
  have NU0 := Lib.hid (fun (W : World) => rnumber_itoa e.worker false (.inr p1) hi.worker W)
  have NU2 := Lib.hid (fun (W : World) => rnumber_itoa e.cell false (.inr p5) hi.cell W)
  have NU3 := Lib.hid (fun (W : World) => rnumber_itoa e.old true (.inl rfl) hi.old W)
  have NU4 := Lib.hid (fun (W : World) => rnumber_itoa e.new true (.inl rfl) hi.new W)
  have hd := dig_small p1 p2
  unfold NumPost at NU0 NU2 NU3 NU4
  simp only [if_pos hd, decide_eq_true hd] at NU0
  have LX := Lib.hid (fun (W : World) => rline_any e W hi)
  rw [hline] at LX
  clear hf hi hq hd hs hl hss hw2 p1 p2 p3 p4 p5 hline
  obtain ⟨wk, kd, cl, od, nw, dn⟩ := e
  simp only at hdn hk1 hk4
  subst hdn
  unfold REntryPost
  simp only at NU0 NU2 NU3 NU4 LX CT hsh ⊢
  obtain ⟨x2, hx2⟩ : ∃ x, Hid (decide (digN cl ≤ 18) = x) := ⟨_, rfl⟩
  obtain ⟨x3, hx3⟩ : ∃ x, Hid (decide (digN od ≤ 18) = x) := ⟨_, rfl⟩
  obtain ⟨x4, hx4⟩ : ∃ x, Hid (decide (digN nw ≤ 18) = x) := ⟨_, rfl⟩
  obtain ⟨n2, hn2⟩ : ∃ n, Hid ((if digN cl ≤ 18 then cl else 0) = n) := ⟨_, rfl⟩
  obtain ⟨n3, hn3⟩ : ∃ n, Hid ((if digN od ≤ 18 then od else 0) = n) := ⟨_, rfl⟩
  obtain ⟨n4, hn4⟩ : ∃ n, Hid ((if digN nw ≤ 18 then nw else 0) = n) := ⟨_, rfl⟩
  have V2 : Hid (x2 = true → n2 = cl) := Lib.hid (by intro h; rw [← hx2.out] at h; rw [← hn2.out, if_pos (of_decide_eq_true h)])
  have V3 : Hid (x3 = true → n3 = od) := Lib.hid (by intro h; rw [← hx3.out] at h; rw [← hn3.out, if_pos (of_decide_eq_true h)])
  have V4 : Hid (x4 = true → n4 = nw) := Lib.hid (by intro h; rw [← hx4.out] at h; rw [← hn4.out, if_pos (of_decide_eq_true h)])
  rw [hx2.out, hn2.out] at NU2
  rw [hx3.out, hn3.out] at NU3
  rw [hx4.out, hn4.out] at NU4
  rw [hx2.out, hx3.out, hx4.out] at hsh
  rw [hsh.out]
  obtain ⟨RB, hRB⟩ : ∃ RB, Hid ((x2 && x3 && x4) = RB) := ⟨_, rfl⟩
  obtain ⟨RV, hRV⟩ : ∃ RV, Hid (Value.agg (entC (if (x2 && x3 && x4) = true then ⟨wk, kd, cl, od, nw, true⟩ else ⟨wk, kd, 0, 0, 0, false⟩)) = RV) := ⟨_, rfl⟩
  rw [hRV.out, hRB.out]
  clear hx2 hx3 hx4 hn2 hn3 hn4 hsh
  have kY : yesT true = [121, 101, 115] := rfl
  rw [kY] at CT
  clear kY
  unfold txS at LX
  unfold entC at LX
  simp only at LX
  generalize Lib.itoa wk = a0 at *
  generalize Lib.itoa cl = a2 at *
  generalize Lib.itoa od = a3 at *
  generalize Lib.itoa nw = a4 at *
  obtain ⟨kt, hkt⟩ : ∃ kt, kindT kd = kt := ⟨_, rfl⟩
  rw [hkt] at CT
  have KT := Lib.hid hkt
  clear hkt
  go_enter Tryd.func22, Tryd.ntmps22
  go_wp2_with (fail)
  refine (CT.out _).mono ?_
  rintro r w1 ⟨A, d, rfl, o1, x1⟩
  obtain ⟨b, off, rfl, hb, hc⟩ := o1.read.form (by simp [txV])
  have RW1 := Lib.hid o1.read
  have BR1 : Hid (Blk w1 w.heap.size 39 #[.int .i64 0, .int .i64 0, .int .i64 0, .int .i64 0, .int .i64 0, .bool false]) := Lib.hid (Blk.ext (Blk.new rfl) x1)
  have XW1 := Lib.hid (Ext.tr (a := w) (by (repeat (first | assumption | exact Ext.rf _ | apply Ext.drew | apply Ext.drewN | apply Ext.alloc))) x1)
  have zb := BR1.out.lt
  clear o1 x1 hc
  go_upto_region 3 with (fail)
  have BE1 : Hid (Blk (w1.alloc (.cells #[.int .i64 0, .int .i64 0, .int .i64 0, .int .i64 0, .int .i64 0, .bool false] 39)) w1.heap.size 39 #[.int .i64 0, .int .i64 0, .int .i64 0, .int .i64 0, .int .i64 0, .bool false]) := Lib.hid (.new rfl)
  have BR2 := Lib.hid (BR1.out.alloc (.cells #[.int .i64 0, .int .i64 0, .int .i64 0, .int .i64 0, .int .i64 0, .bool false] 39))
  have RW2 := Lib.hid (RW1.out.ext ((Ext.rf w1).alloc (.cells #[.int .i64 0, .int .i64 0, .int .i64 0, .int .i64 0, .int .i64 0, .bool false] 39)))
  have XW2 := Lib.hid (XW1.out.alloc (.cells #[.int .i64 0, .int .i64 0, .int .i64 0, .int .i64 0, .int .i64 0, .bool false] 39))
  obtain ⟨gb, hgb⟩ : ∃ gb, gb = w1.heap.size := ⟨_, rfl⟩
  rw [← hgb] at BE1 zb hb ⊢
  generalize w1.alloc (.cells #[.int .i64 0, .int .i64 0, .int .i64 0, .int .i64 0, .int .i64 0, .bool false] 39) = w2 at *
  clear hgb BR1 RW1 XW1
  have k0 : w2.cell? ⟨b, off, none⟩ = some (.string ⟨a0.toArray⟩) := rdv_cell (j := 0) RW2.out rfl
  have e0 : w2.cell? ⟨gb, 0, none⟩ = some (.int .i64 0) := BE1.out.cell 0
  go_wp2_with (fail)
  refine (NU0.out _).mono ?_
  rintro r w3 ⟨rfl, x3'⟩
  have y3 := Ext.tr (a := w2) (by (repeat (first | assumption | exact Ext.rf _ | apply Ext.drew | apply Ext.drewN | apply Ext.alloc))) x3'
  have BE3 := Lib.hid (BE1.out.ext y3)
  have c0 : w3.cell? ⟨gb, 0, none⟩ = some (.int .i64 0) := BE3.out.cell 0
  have g0 := BE3.out.free 0
  have BR3 := Lib.hid ((BR2.out.ext y3).far (p := ⟨gb, 0, none⟩) (show w.heap.size ≠ gb by omega) (.int .i64 wk))
  have BE4 : Hid (Blk (w3.setCell ⟨gb, 0, none⟩ (.int .i64 wk)) gb 39 #[.int .i64 wk, .int .i64 0, .int .i64 0, .int .i64 0, .int .i64 0, .bool false]) := Lib.hid (BE3.out.set 0 (.int .i64 wk))
  have XW3 : Hid (Ext w (w3.setCell ⟨gb, 0, none⟩ (.int .i64 wk))) := Lib.hid ((XW2.out.tr y3).setNew (p := ⟨gb, 0, none⟩) (Nat.le_of_lt zb) _)
  have RW3 := Lib.hid (rdv_far' (RW2.out.ext y3) BE3.out (by decide) 0 (.int .i64 wk))
  clear BE1 BR2 RW2 XW2 BE3 y3 x3' k0 e0 CT NU0
  go_upto_region 9 with (fail)
  generalize w3.setCell ⟨gb, 0, none⟩ (.int .i64 wk) = w4 at *
  clear c0 g0
  go_loopw [8] (fun kv wr => ∃ k : Nat, kv = .int .i64 k ∧ k ≤ 4 ∧ Hid (Blk wr gb 39 #[.int .i64 wk, .int .i64 (kUp kd (k + 1)), .int .i64 0, .int .i64 0, .int .i64 0, .bool false]) ∧ Hid (Blk wr w.heap.size 39 #[.int .i64 0, .int .i64 0, .int .i64 0, .int .i64 0, .int .i64 0, .bool false]) ∧ Hid (RdV wr 9 (some ⟨b, off, none⟩) (txV [a0, kt, a2, a3, a4, [121, 101, 115]])) ∧ Hid (Ext w wr)) (fun kv _ => 4 - (intOf kv).toNat)
  case atStart => exact ⟨0, rfl, by omega, by rw [kUp_one hk1]; exact BE4, BR3, RW3, XW3⟩
  case round =>
    clear BE4 BR3 RW3 XW3
    obtain ⟨k, rfl, k5, BE, BR, RW, YR⟩ := hrel
    have hbS := rdv_lt RW.out (by simp [txV])
    by_cases k4 : k < 4
    · have c1 : wr.cell? ⟨b, off + 1, none⟩ = some (.string ⟨kt.toArray⟩) := rdv_cell (j := 1) RW.out rfl
      have q1 : (k : Int) < 4 := by omega
      obtain ⟨kx, hkx⟩ : ∃ kx, kindT ((k + 1 : Nat) : Int) = kx := ⟨_, rfl⟩
      have KX : Hid ((#[.string ⟨#[114, 101, 97, 100]⟩, .string ⟨#[119, 114, 105, 116, 101]⟩, .string ⟨#[115, 119, 97, 112]⟩, .string ⟨#[97, 100, 100]⟩] : Array Value)[k]? = some (.string ⟨kx.toArray⟩)) := Lib.hid (by
        rw [← hkx]
        have h4 : k = 0 ∨ k = 1 ∨ k = 2 ∨ k = 3 := by omega
        rcases h4 with rfl | rfl | rfl | rfl <;> rfl)
      by_cases hkd : ((k + 1 : Nat) : Int) = kd
      · have e0 : kx = kt := by rw [← hkx, hkd, KT.out]
        have KU : Hid (kUp kd (k + 1 + 1) = (k : Int) + 1) := Lib.hid (by rw [← hkd, kUp_at]; omega)
        subst e0
        clear hkx hkd
        go_wp2_with (fail)
        refine wp_region_any (by kernel_rfl) ?_
        change wpAny _ _ _ _ _ _ _ (World.drew _)
        refine wpAny_T (i := 0) (op := Op.move (Operand.tmp 4)) (t := 64) (d := some 38) (v := ?_) rfl (by decide +kernel) (by decide +kernel) (by decide +kernel) (fun _ _ _ h => h) ?_ ?_
        case refine_2 => (intro _; unfold exec2; go_simp; try with_reducible rfl)
        try simp only [Act.put, List.setIfInBounds_toArray, List.set_cons_zero, List.set_cons_succ]
        refine wpAny_T (i := 1) (op := Op.indexAddr 64 (Operand.tmp 38) (Operand.const (Value.int IntKind.i64 1))) (t := 0) (d := some 39) (v := ?_) rfl (by decide +kernel) (by decide +kernel) (by decide +kernel) (fun _ _ _ h => h) ?_ ?_
        case refine_2 => (intro _; unfold exec2; go_simp; try with_reducible rfl)
        try simp only [Act.put, List.setIfInBounds_toArray, List.set_cons_zero, List.set_cons_succ]
        refine wpAny_T (i := 4) (op := Op.move (Operand.tmp 8)) (t := 3) (d := some 42) (v := ?_) rfl (by decide +kernel) (by decide +kernel) (by decide +kernel) (fun _ _ _ h => h) ?_ ?_
        case refine_2 => (intro _; unfold exec2; go_simp; try with_reducible rfl)
        try simp only [Act.put, List.setIfInBounds_toArray, List.set_cons_zero, List.set_cons_succ]
        refine wpAny_core2 (n := 0) [(2, some 40), (3, some 41), (5, some 43), (6, some 44), (7, some 45)] (Ext wr) (VF (fun | 2 => some (.string ⟨kx.toArray⟩) | 6 => some (.string ⟨kx.toArray⟩) | 7 => some (.bool true) | _ => none) (fun i v W => (i = 3 → ∃ z, v = .slice (some ⟨z, 0, none⟩) 4 4 ∧ Blk W z 9 #[.string ⟨#[114, 101, 97, 100]⟩, .string ⟨#[119, 114, 105, 116, 101]⟩, .string ⟨#[115, 119, 97, 112]⟩, .string ⟨#[97, 100, 100]⟩]) ∧ (i = 5 → ∃ z, v = .pointer (some ⟨z, k, none⟩) ∧ Blk W z 9 #[.string ⟨#[114, 101, 97, 100]⟩, .string ⟨#[119, 114, 105, 116, 101]⟩, .string ⟨#[115, 119, 97, 112]⟩, .string ⟨#[97, 100, 100]⟩]))) Ext #[true, true, true, true, true, true, true, true] (by decide +kernel) (VF.stab ?_) ?_ ?_ (by first | exact (Ext.rf _).drew | exact Ext.rf _)
        · intro j v W W' _ gz hx
          obtain ⟨g0, g1⟩ := gz
          exact ⟨fun h => (g0 h).imp fun z hz => ⟨hz.1, hz.2.ext hx⟩, fun h => (g1 h).imp fun z hz => ⟨hz.1, hz.2.ext hx⟩⟩
        · intro pS hpm uS wS hRW hD K hK
          simp only [List.mem_cons, List.not_mem_nil, or_false] at hpm
          rcases hpm with rfl | rfl | rfl | rfl | rfl
          · ( have rX := keepEL hRW hbS c1; exact op_ld (T := 9) (x := Operand.tmp 39) (t := 9) (d := some 40) rfl (.pointer (some ⟨b, off + 1, none⟩)) (by kernel_rfl) (.string ⟨kx.toArray⟩) (by go_simp) (hK _ _ (VF.mk rfl) hRW (Ext.rf _)))
          · ( exact op_run (op := Op.buildSlice 64 4 #[(0, Operand.const (Value.string { data := #[114, 101, 97, 100] })), (1, Operand.const (Value.string { data := #[119, 114, 105, 116, 101] })), (2, Operand.const (Value.string { data := #[115, 119, 97, 112] })), (3, Operand.const (Value.string { data := #[97, 100, 100] }))]) (t := 64) (d := some 41) rfl _ (by unfold exec2; go_simp; try rfl) (hK _ _ (VF.mg rfl ⟨(fun _ => ⟨_, rfl, .new rfl⟩), (fun h => absurd h (by decide))⟩) (hRW.alloc _) ((Ext.rf _).alloc _)))
          · ( obtain ⟨z, ez, bz⟩ := ((hD 3 (depIn (by kernel_rfl))).g rfl).1 rfl; exact op_ix (T := 64) (x := Operand.tmp 41) (y := Operand.tmp 42) (t := 0) (d := some 43) rfl (.slice (some ⟨z, 0, none⟩) 4 4) (.int .i64 k) (Eq.trans (b := uS 3) (by kernel_rfl) ez) (by kernel_rfl) (.pointer (some ⟨z, k, none⟩)) (by go_simp) (hK _ _ (VF.mg rfl ⟨(fun h => absurd h (by decide)), (fun _ => ⟨z, rfl, bz⟩)⟩) hRW (Ext.rf _)))
          · (obtain ⟨z, ez, bz⟩ := ((hD 5 (depIn (by kernel_rfl))).g rfl).2 rfl; have rX : wS.cell? ⟨z, k, none⟩ = some (.string ⟨kx.toArray⟩) := (bz.cell k).trans (KX.out); exact op_ld (T := 9) (x := Operand.tmp 43) (t := 9) (d := some 44) rfl (.pointer (some ⟨z, k, none⟩)) (Eq.trans (b := uS 5) (by kernel_rfl) ez) (.string ⟨kx.toArray⟩) (by go_simp) (hK _ _ (VF.mk rfl) hRW (Ext.rf _)))
          · (have e2 : uS 2 = .string ⟨kx.toArray⟩ := (hD 2 (depIn (by kernel_rfl))).k rfl; have e6 : uS 6 = .string ⟨kx.toArray⟩ := (hD 6 (depIn (by kernel_rfl))).k rfl; exact op_run (op := Op.binOp BinOp.eql 9 (Operand.tmp 40) (Operand.tmp 44) 9) (t := 4) (d := some 45) rfl (.bool true) (by simp only [putAll, Act.put, List.setIfInBounds_toArray, List.set_cons_zero, List.set_cons_succ]; unfold exec2; (try go_simp); (try simp only [e2, e6]); (try go_simp); (try rfl); (try (exact IntWalk.i64_in _ (by omega))); (try (simp))) (hK _ _ (VF.mk rfl) hRW (Ext.rf _)))
        intro u w7 hR7 hV
        have h2 := (hV (2, some 40) (by simp)).k rfl
        have h6 := (hV (6, some 44) (by simp)).k rfl
        have h7 := (hV (7, some 45) (by simp)).k rfl
        simp only [putAll, h2, h6, h7]
        clear hV h2 h6 h7
        try simp only [Act.put, List.setIfInBounds_toArray, List.set_cons_zero, List.set_cons_succ]
        refine wpAny_done (by kernel_rfl) ?_ _
        go_simp
        have BE7 := Lib.hid (BE.out.ext hR7)
        have t1 : w7.cell? ⟨gb, 1, none⟩ = some (.int .i64 (kUp kd (k + 1))) := BE7.out.cell 1
        have f1 := BE7.out.free 1
        have BE8 : Hid (Blk (w7.setCell ⟨gb, 1, none⟩ (.int .i64 ((k : Int) + 1))) gb 39 #[.int .i64 wk, .int .i64 (kUp kd (k + 1 + 1)), .int .i64 0, .int .i64 0, .int .i64 0, .bool false]) := by rw [KU.out]; exact Lib.hid (BE7.out.set 1 (.int .i64 ((k : Int) + 1)))
        have BR8 := Lib.hid ((BR.out.ext hR7).far (p := ⟨gb, 1, none⟩) (show w.heap.size ≠ gb by omega) (.int .i64 ((k : Int) + 1)))
        have RW8 := Lib.hid (rdv_far' (RW.out.ext hR7) BE7.out (by decide) 1 (.int .i64 ((k : Int) + 1)))
        have YR8 : Hid (Ext w (w7.setCell ⟨gb, 1, none⟩ (.int .i64 ((k : Int) + 1)))) := Lib.hid ((YR.out.tr hR7).setNew (p := ⟨gb, 1, none⟩) (Nat.le_of_lt zb) _)
        clear BE BR RW YR c1 KU KX BE7 hR7
        go_wp2_with (fail)
        go_roundw
        case rel => exact ⟨k + 1, by go_num, by omega, BE8, BR8, RW8, YR8⟩
        case measure => simp [intOf]; omega
      · have e0 : kt ≠ kx := fun h => hkd (kindT_inj ⟨by omega, by omega⟩ ⟨hk1, hk4⟩ (by rw [hkx, KT.out, h]))
        have KU : Hid (kUp kd (k + 1 + 1) = kUp kd (k + 1)) := Lib.hid (kUp_ne hkd)
        have e1 : @BEq.beq (List UInt8) _ kt kx = false := beq_eq_false_iff_ne.2 e0
        clear hkx hkd
        go_wp2_with (fail)
        refine wp_region_any (by kernel_rfl) ?_
        change wpAny _ _ _ _ _ _ _ (World.drew _)
        refine wpAny_T (i := 0) (op := Op.move (Operand.tmp 4)) (t := 64) (d := some 38) (v := ?_) rfl (by decide +kernel) (by decide +kernel) (by decide +kernel) (fun _ _ _ h => h) ?_ ?_
        case refine_2 => (intro _; unfold exec2; go_simp; try with_reducible rfl)
        try simp only [Act.put, List.setIfInBounds_toArray, List.set_cons_zero, List.set_cons_succ]
        refine wpAny_T (i := 1) (op := Op.indexAddr 64 (Operand.tmp 38) (Operand.const (Value.int IntKind.i64 1))) (t := 0) (d := some 39) (v := ?_) rfl (by decide +kernel) (by decide +kernel) (by decide +kernel) (fun _ _ _ h => h) ?_ ?_
        case refine_2 => (intro _; unfold exec2; go_simp; try with_reducible rfl)
        try simp only [Act.put, List.setIfInBounds_toArray, List.set_cons_zero, List.set_cons_succ]
        refine wpAny_T (i := 4) (op := Op.move (Operand.tmp 8)) (t := 3) (d := some 42) (v := ?_) rfl (by decide +kernel) (by decide +kernel) (by decide +kernel) (fun _ _ _ h => h) ?_ ?_
        case refine_2 => (intro _; unfold exec2; go_simp; try with_reducible rfl)
        try simp only [Act.put, List.setIfInBounds_toArray, List.set_cons_zero, List.set_cons_succ]
        refine wpAny_core2 (n := 0) [(2, some 40), (3, some 41), (5, some 43), (6, some 44), (7, some 45)] (Ext wr) (VF (fun | 2 => some (.string ⟨kt.toArray⟩) | 6 => some (.string ⟨kx.toArray⟩) | 7 => some (.bool false) | _ => none) (fun i v W => (i = 3 → ∃ z, v = .slice (some ⟨z, 0, none⟩) 4 4 ∧ Blk W z 9 #[.string ⟨#[114, 101, 97, 100]⟩, .string ⟨#[119, 114, 105, 116, 101]⟩, .string ⟨#[115, 119, 97, 112]⟩, .string ⟨#[97, 100, 100]⟩]) ∧ (i = 5 → ∃ z, v = .pointer (some ⟨z, k, none⟩) ∧ Blk W z 9 #[.string ⟨#[114, 101, 97, 100]⟩, .string ⟨#[119, 114, 105, 116, 101]⟩, .string ⟨#[115, 119, 97, 112]⟩, .string ⟨#[97, 100, 100]⟩]))) Ext #[true, true, true, true, true, true, true, true] (by decide +kernel) (VF.stab ?_) ?_ ?_ (by first | exact (Ext.rf _).drew | exact Ext.rf _)
        · intro j v W W' _ gz hx
          obtain ⟨g0, g1⟩ := gz
          exact ⟨fun h => (g0 h).imp fun z hz => ⟨hz.1, hz.2.ext hx⟩, fun h => (g1 h).imp fun z hz => ⟨hz.1, hz.2.ext hx⟩⟩
        · intro pS hpm uS wS hRW hD K hK
          simp only [List.mem_cons, List.not_mem_nil, or_false] at hpm
          rcases hpm with rfl | rfl | rfl | rfl | rfl
          · ( have rX := keepEL hRW hbS c1; exact op_ld (T := 9) (x := Operand.tmp 39) (t := 9) (d := some 40) rfl (.pointer (some ⟨b, off + 1, none⟩)) (by kernel_rfl) (.string ⟨kt.toArray⟩) (by go_simp) (hK _ _ (VF.mk rfl) hRW (Ext.rf _)))
          · ( exact op_run (op := Op.buildSlice 64 4 #[(0, Operand.const (Value.string { data := #[114, 101, 97, 100] })), (1, Operand.const (Value.string { data := #[119, 114, 105, 116, 101] })), (2, Operand.const (Value.string { data := #[115, 119, 97, 112] })), (3, Operand.const (Value.string { data := #[97, 100, 100] }))]) (t := 64) (d := some 41) rfl _ (by unfold exec2; go_simp; try rfl) (hK _ _ (VF.mg rfl ⟨(fun _ => ⟨_, rfl, .new rfl⟩), (fun h => absurd h (by decide))⟩) (hRW.alloc _) ((Ext.rf _).alloc _)))
          · ( obtain ⟨z, ez, bz⟩ := ((hD 3 (depIn (by kernel_rfl))).g rfl).1 rfl; exact op_ix (T := 64) (x := Operand.tmp 41) (y := Operand.tmp 42) (t := 0) (d := some 43) rfl (.slice (some ⟨z, 0, none⟩) 4 4) (.int .i64 k) (Eq.trans (b := uS 3) (by kernel_rfl) ez) (by kernel_rfl) (.pointer (some ⟨z, k, none⟩)) (by go_simp) (hK _ _ (VF.mg rfl ⟨(fun h => absurd h (by decide)), (fun _ => ⟨z, rfl, bz⟩)⟩) hRW (Ext.rf _)))
          · (obtain ⟨z, ez, bz⟩ := ((hD 5 (depIn (by kernel_rfl))).g rfl).2 rfl; have rX : wS.cell? ⟨z, k, none⟩ = some (.string ⟨kx.toArray⟩) := (bz.cell k).trans (KX.out); exact op_ld (T := 9) (x := Operand.tmp 43) (t := 9) (d := some 44) rfl (.pointer (some ⟨z, k, none⟩)) (Eq.trans (b := uS 5) (by kernel_rfl) ez) (.string ⟨kx.toArray⟩) (by go_simp) (hK _ _ (VF.mk rfl) hRW (Ext.rf _)))
          · (have e2 : uS 2 = .string ⟨kt.toArray⟩ := (hD 2 (depIn (by kernel_rfl))).k rfl; have e6 : uS 6 = .string ⟨kx.toArray⟩ := (hD 6 (depIn (by kernel_rfl))).k rfl; exact op_run (op := Op.binOp BinOp.eql 9 (Operand.tmp 40) (Operand.tmp 44) 9) (t := 4) (d := some 45) rfl (.bool false) (by simp only [putAll, Act.put, List.setIfInBounds_toArray, List.set_cons_zero, List.set_cons_succ]; unfold exec2; (try go_simp); (try simp only [e2, e6]); (try go_simp); (try rfl); (try (exact IntWalk.i64_in _ (by omega))); (try (exact e1))) (hK _ _ (VF.mk rfl) hRW (Ext.rf _)))
        intro u w7 hR7 hV
        have h2 := (hV (2, some 40) (by simp)).k rfl
        have h6 := (hV (6, some 44) (by simp)).k rfl
        have h7 := (hV (7, some 45) (by simp)).k rfl
        simp only [putAll, h2, h6, h7]
        clear hV h2 h6 h7
        try simp only [Act.put, List.setIfInBounds_toArray, List.set_cons_zero, List.set_cons_succ]
        refine wpAny_done (by kernel_rfl) ?_ _
        go_simp
        have BE8 : Hid (Blk w7 gb 39 #[.int .i64 wk, .int .i64 (kUp kd (k + 1 + 1)), .int .i64 0, .int .i64 0, .int .i64 0, .bool false]) := by rw [KU.out]; exact Lib.hid (BE.out.ext hR7)
        have BR8 := Lib.hid (BR.out.ext hR7)
        have RW8 := Lib.hid (RW.out.ext hR7)
        have YR8 := Lib.hid (YR.out.tr hR7)
        clear BE BR RW YR c1 KU KX hR7 e0 e1
        go_wp2_with (fail)
        go_roundw
        case rel => exact ⟨k + 1, by go_num, by omega, BE8, BR8, RW8, YR8⟩
        case measure => simp [intOf]; omega
    · obtain rfl : k = 4 := by omega
      rw [kUp_five hk4] at BE
      clear KT hk1 hk4 k4 k5
      have k2 : wr.cell? ⟨b, off + 2, none⟩ = some (.string ⟨a2.toArray⟩) := rdv_cell (j := 2) RW.out rfl
      go_wp2_with (fail)
      refine (NU2.out _).mono ?_
      rintro r w6 ⟨rfl, x6⟩
      have y6 := Lib.hid (Ext.tr (a := wr) (by (repeat (first | assumption | exact Ext.rf _ | apply Ext.drew | apply Ext.drewN | apply Ext.alloc))) x6)
      have k3 : w6.cell? ⟨b, off + 3, none⟩ = some (.string ⟨a3.toArray⟩) := rdv_cell (j := 3) (RW.out.ext y6.out) rfl
      clear x6
      go_wp2_with (fail)
      refine (NU3.out _).mono ?_
      rintro r w7 ⟨rfl, x7⟩
      have y7 := Lib.hid (y6.out.tr (Ext.tr (by (repeat (first | assumption | exact Ext.rf _ | apply Ext.drew | apply Ext.drewN | apply Ext.alloc))) x7))
      have k4 : w7.cell? ⟨b, off + 4, none⟩ = some (.string ⟨a4.toArray⟩) := rdv_cell (j := 4) (RW.out.ext y7.out) rfl
      clear x7 y6 k3
      go_wp2_with (fail)
      refine (NU4.out _).mono ?_
      rintro r w8 ⟨rfl, x8⟩
      have y8 := Lib.hid (y7.out.tr (Ext.tr (by (repeat (first | assumption | exact Ext.rf _ | apply Ext.drew | apply Ext.drewN | apply Ext.alloc))) x8))
      have BE8 := Lib.hid (BE.out.ext y8.out)
      have BZ8 := Lib.hid (BR.out.ext y8.out)
      have RW8 := Lib.hid (RW.out.ext y8.out)
      have YL8 := Lib.hid (YR.out.tr y8.out)
      clear x8 y7 y8 k2 k4 BE BR RW YR NU2 NU3 NU4
      cases x2 with
      | false =>
        have r0 : w8.cell? ⟨w.heap.size, 0, none⟩ = some (.int .i64 0) := BZ8.out.cell 0
        have r1 : w8.cell? ⟨w.heap.size, 1, none⟩ = some (.int .i64 0) := BZ8.out.cell 1
        have r2 : w8.cell? ⟨w.heap.size, 2, none⟩ = some (.int .i64 0) := BZ8.out.cell 2
        have r3 : w8.cell? ⟨w.heap.size, 3, none⟩ = some (.int .i64 0) := BZ8.out.cell 3
        have r4 : w8.cell? ⟨w.heap.size, 4, none⟩ = some (.int .i64 0) := BZ8.out.cell 4
        have r5 : w8.cell? ⟨w.heap.size, 5, none⟩ = some (.bool false) := BZ8.out.cell 5
        have f0 := BZ8.out.free 0
        have f1 := BZ8.out.free 1
        have f2 := BZ8.out.free 2
        have f3 := BZ8.out.free 3
        have f4 := BZ8.out.free 4
        have f5 := BZ8.out.free 5
        have q0 : w8.cell? ⟨gb, 0, none⟩ = some (.int .i64 wk) := BE8.out.cell 0
        have q1 : w8.cell? ⟨gb, 1, none⟩ = some (.int .i64 kd) := BE8.out.cell 1
        have q2 : w8.cell? ⟨gb, 2, none⟩ = some (.int .i64 0) := BE8.out.cell 2
        have q3 : w8.cell? ⟨gb, 3, none⟩ = some (.int .i64 0) := BE8.out.cell 3
        have q4 : w8.cell? ⟨gb, 4, none⟩ = some (.int .i64 0) := BE8.out.cell 4
        have q5 : w8.cell? ⟨gb, 5, none⟩ = some (.bool false) := BE8.out.cell 5
        have BF := Lib.hid (ent_put BZ8.out (.int .i64 wk) (.int .i64 kd) (.int .i64 0) (.int .i64 0) (.int .i64 0) (.bool false))
        have YF : Hid (Ext w (ent6W w8 w.heap.size (.int .i64 wk) (.int .i64 kd) (.int .i64 0) (.int .i64 0) (.int .i64 0) (.bool false))) := Lib.hid (YL8.out.ent6 (Nat.le_refl _))
        unfold ent6W at BF YF
        go_wp2_with (fail)
        generalize ((((((w8.setCell ⟨w.heap.size, 0, none⟩ (.int .i64 wk)).setCell ⟨w.heap.size, 1, none⟩ (.int .i64 kd)).setCell ⟨w.heap.size, 2, none⟩ (.int .i64 0)).setCell ⟨w.heap.size, 3, none⟩ (.int .i64 0)).setCell ⟨w.heap.size, 4, none⟩ (.int .i64 0)).setCell ⟨w.heap.size, 5, none⟩ (.bool false)) = wf at *
        clear r0 r1 r2 r3 r4 r5 f0 f1 f2 f3 f4 f5 q0 q1 q2 q3 q4 q5
        have r0 : wf.cell? ⟨w.heap.size, 0, none⟩ = some (.int .i64 wk) := BF.out.cell 0
        have r1 : wf.cell? ⟨w.heap.size, 1, none⟩ = some (.int .i64 kd) := BF.out.cell 1
        have r2 : wf.cell? ⟨w.heap.size, 2, none⟩ = some (.int .i64 0) := BF.out.cell 2
        have r3 : wf.cell? ⟨w.heap.size, 3, none⟩ = some (.int .i64 0) := BF.out.cell 3
        have r4 : wf.cell? ⟨w.heap.size, 4, none⟩ = some (.int .i64 0) := BF.out.cell 4
        have r5 : wf.cell? ⟨w.heap.size, 5, none⟩ = some (.bool false) := BF.out.cell 5
        refine bodyPost_ret (v := .tuple #[.agg #[.int .i64 wk, .int .i64 kd, .int .i64 0, .int .i64 0, .int .i64 0, .bool false], .bool false]) (by simp [results, Tryd.results22, go_sem, *]) rfl ⟨by rw [← hRV.out, ← hRB.out]; simp [entC], YF.out⟩
      | true =>
        cases x3 with
        | false =>
          have r0 : w8.cell? ⟨w.heap.size, 0, none⟩ = some (.int .i64 0) := BZ8.out.cell 0
          have r1 : w8.cell? ⟨w.heap.size, 1, none⟩ = some (.int .i64 0) := BZ8.out.cell 1
          have r2 : w8.cell? ⟨w.heap.size, 2, none⟩ = some (.int .i64 0) := BZ8.out.cell 2
          have r3 : w8.cell? ⟨w.heap.size, 3, none⟩ = some (.int .i64 0) := BZ8.out.cell 3
          have r4 : w8.cell? ⟨w.heap.size, 4, none⟩ = some (.int .i64 0) := BZ8.out.cell 4
          have r5 : w8.cell? ⟨w.heap.size, 5, none⟩ = some (.bool false) := BZ8.out.cell 5
          have f0 := BZ8.out.free 0
          have f1 := BZ8.out.free 1
          have f2 := BZ8.out.free 2
          have f3 := BZ8.out.free 3
          have f4 := BZ8.out.free 4
          have f5 := BZ8.out.free 5
          have q0 : w8.cell? ⟨gb, 0, none⟩ = some (.int .i64 wk) := BE8.out.cell 0
          have q1 : w8.cell? ⟨gb, 1, none⟩ = some (.int .i64 kd) := BE8.out.cell 1
          have q2 : w8.cell? ⟨gb, 2, none⟩ = some (.int .i64 0) := BE8.out.cell 2
          have q3 : w8.cell? ⟨gb, 3, none⟩ = some (.int .i64 0) := BE8.out.cell 3
          have q4 : w8.cell? ⟨gb, 4, none⟩ = some (.int .i64 0) := BE8.out.cell 4
          have q5 : w8.cell? ⟨gb, 5, none⟩ = some (.bool false) := BE8.out.cell 5
          have BF := Lib.hid (ent_put BZ8.out (.int .i64 wk) (.int .i64 kd) (.int .i64 0) (.int .i64 0) (.int .i64 0) (.bool false))
          have YF : Hid (Ext w (ent6W w8 w.heap.size (.int .i64 wk) (.int .i64 kd) (.int .i64 0) (.int .i64 0) (.int .i64 0) (.bool false))) := Lib.hid (YL8.out.ent6 (Nat.le_refl _))
          unfold ent6W at BF YF
          go_wp2_with (fail)
          generalize ((((((w8.setCell ⟨w.heap.size, 0, none⟩ (.int .i64 wk)).setCell ⟨w.heap.size, 1, none⟩ (.int .i64 kd)).setCell ⟨w.heap.size, 2, none⟩ (.int .i64 0)).setCell ⟨w.heap.size, 3, none⟩ (.int .i64 0)).setCell ⟨w.heap.size, 4, none⟩ (.int .i64 0)).setCell ⟨w.heap.size, 5, none⟩ (.bool false)) = wf at *
          clear r0 r1 r2 r3 r4 r5 f0 f1 f2 f3 f4 f5 q0 q1 q2 q3 q4 q5
          have r0 : wf.cell? ⟨w.heap.size, 0, none⟩ = some (.int .i64 wk) := BF.out.cell 0
          have r1 : wf.cell? ⟨w.heap.size, 1, none⟩ = some (.int .i64 kd) := BF.out.cell 1
          have r2 : wf.cell? ⟨w.heap.size, 2, none⟩ = some (.int .i64 0) := BF.out.cell 2
          have r3 : wf.cell? ⟨w.heap.size, 3, none⟩ = some (.int .i64 0) := BF.out.cell 3
          have r4 : wf.cell? ⟨w.heap.size, 4, none⟩ = some (.int .i64 0) := BF.out.cell 4
          have r5 : wf.cell? ⟨w.heap.size, 5, none⟩ = some (.bool false) := BF.out.cell 5
          refine bodyPost_ret (v := .tuple #[.agg #[.int .i64 wk, .int .i64 kd, .int .i64 0, .int .i64 0, .int .i64 0, .bool false], .bool false]) (by simp [results, Tryd.results22, go_sem, *]) rfl ⟨by rw [← hRV.out, ← hRB.out]; simp [entC], YF.out⟩
        | true =>
          cases x4 with
          | false =>
            have r0 : w8.cell? ⟨w.heap.size, 0, none⟩ = some (.int .i64 0) := BZ8.out.cell 0
            have r1 : w8.cell? ⟨w.heap.size, 1, none⟩ = some (.int .i64 0) := BZ8.out.cell 1
            have r2 : w8.cell? ⟨w.heap.size, 2, none⟩ = some (.int .i64 0) := BZ8.out.cell 2
            have r3 : w8.cell? ⟨w.heap.size, 3, none⟩ = some (.int .i64 0) := BZ8.out.cell 3
            have r4 : w8.cell? ⟨w.heap.size, 4, none⟩ = some (.int .i64 0) := BZ8.out.cell 4
            have r5 : w8.cell? ⟨w.heap.size, 5, none⟩ = some (.bool false) := BZ8.out.cell 5
            have f0 := BZ8.out.free 0
            have f1 := BZ8.out.free 1
            have f2 := BZ8.out.free 2
            have f3 := BZ8.out.free 3
            have f4 := BZ8.out.free 4
            have f5 := BZ8.out.free 5
            have q0 : w8.cell? ⟨gb, 0, none⟩ = some (.int .i64 wk) := BE8.out.cell 0
            have q1 : w8.cell? ⟨gb, 1, none⟩ = some (.int .i64 kd) := BE8.out.cell 1
            have q2 : w8.cell? ⟨gb, 2, none⟩ = some (.int .i64 0) := BE8.out.cell 2
            have q3 : w8.cell? ⟨gb, 3, none⟩ = some (.int .i64 0) := BE8.out.cell 3
            have q4 : w8.cell? ⟨gb, 4, none⟩ = some (.int .i64 0) := BE8.out.cell 4
            have q5 : w8.cell? ⟨gb, 5, none⟩ = some (.bool false) := BE8.out.cell 5
            have BF := Lib.hid (ent_put BZ8.out (.int .i64 wk) (.int .i64 kd) (.int .i64 0) (.int .i64 0) (.int .i64 0) (.bool false))
            have YF : Hid (Ext w (ent6W w8 w.heap.size (.int .i64 wk) (.int .i64 kd) (.int .i64 0) (.int .i64 0) (.int .i64 0) (.bool false))) := Lib.hid (YL8.out.ent6 (Nat.le_refl _))
            unfold ent6W at BF YF
            go_wp2_with (fail)
            generalize ((((((w8.setCell ⟨w.heap.size, 0, none⟩ (.int .i64 wk)).setCell ⟨w.heap.size, 1, none⟩ (.int .i64 kd)).setCell ⟨w.heap.size, 2, none⟩ (.int .i64 0)).setCell ⟨w.heap.size, 3, none⟩ (.int .i64 0)).setCell ⟨w.heap.size, 4, none⟩ (.int .i64 0)).setCell ⟨w.heap.size, 5, none⟩ (.bool false)) = wf at *
            clear r0 r1 r2 r3 r4 r5 f0 f1 f2 f3 f4 f5 q0 q1 q2 q3 q4 q5
            have r0 : wf.cell? ⟨w.heap.size, 0, none⟩ = some (.int .i64 wk) := BF.out.cell 0
            have r1 : wf.cell? ⟨w.heap.size, 1, none⟩ = some (.int .i64 kd) := BF.out.cell 1
            have r2 : wf.cell? ⟨w.heap.size, 2, none⟩ = some (.int .i64 0) := BF.out.cell 2
            have r3 : wf.cell? ⟨w.heap.size, 3, none⟩ = some (.int .i64 0) := BF.out.cell 3
            have r4 : wf.cell? ⟨w.heap.size, 4, none⟩ = some (.int .i64 0) := BF.out.cell 4
            have r5 : wf.cell? ⟨w.heap.size, 5, none⟩ = some (.bool false) := BF.out.cell 5
            refine bodyPost_ret (v := .tuple #[.agg #[.int .i64 wk, .int .i64 kd, .int .i64 0, .int .i64 0, .int .i64 0, .bool false], .bool false]) (by simp [results, Tryd.results22, go_sem, *]) rfl ⟨by rw [← hRV.out, ← hRB.out]; simp [entC], YF.out⟩
          | true =>
            have v2 := V2.out rfl
            have v3 := V3.out rfl
            have v4 := V4.out rfl
            subst v2 v3 v4
            clear V2 V3 V4
            have c5 : w8.cell? ⟨b, off + 5, none⟩ = some (.string ⟨#[121, 101, 115]⟩) := rdv_cell (j := 5) RW8.out rfl
            have t2 : w8.cell? ⟨gb, 2, none⟩ = some (.int .i64 0) := BE8.out.cell 2
            have t3 : w8.cell? ⟨gb, 3, none⟩ = some (.int .i64 0) := BE8.out.cell 3
            have t4 : w8.cell? ⟨gb, 4, none⟩ = some (.int .i64 0) := BE8.out.cell 4
            have t5 : w8.cell? ⟨gb, 5, none⟩ = some (.bool false) := BE8.out.cell 5
            have f2 := BE8.out.free 2
            have f3 := BE8.out.free 3
            have f4 := BE8.out.free 4
            have f5 := BE8.out.free 5
            have BE9 : Hid (Blk ((((w8.setCell ⟨gb, 2, none⟩ (.int .i64 n2)).setCell ⟨gb, 3, none⟩ (.int .i64 n3)).setCell ⟨gb, 4, none⟩ (.int .i64 n4)).setCell ⟨gb, 5, none⟩ (.bool true)) gb 39 #[.int .i64 wk, .int .i64 kd, .int .i64 n2, .int .i64 n3, .int .i64 n4, .bool true]) := Lib.hid ((((BE8.out.set 2 (.int .i64 n2)).set 3 (.int .i64 n3)).set 4 (.int .i64 n4)).set 5 (.bool true))
            have BZ9 := Lib.hid ((((BZ8.out.far (p := ⟨gb, 2, none⟩) (show w.heap.size ≠ gb by omega) (.int .i64 n2)).far (p := ⟨gb, 3, none⟩) (show w.heap.size ≠ gb by omega) (.int .i64 n3)).far (p := ⟨gb, 4, none⟩) (show w.heap.size ≠ gb by omega) (.int .i64 n4)).far (p := ⟨gb, 5, none⟩) (show w.heap.size ≠ gb by omega) (.bool true))
            have YL9 : Hid (Ext w ((((w8.setCell ⟨gb, 2, none⟩ (.int .i64 n2)).setCell ⟨gb, 3, none⟩ (.int .i64 n3)).setCell ⟨gb, 4, none⟩ (.int .i64 n4)).setCell ⟨gb, 5, none⟩ (.bool true))) := Lib.hid ((((YL8.out.setNew (p := ⟨gb, 2, none⟩) (Nat.le_of_lt zb) _).setNew (p := ⟨gb, 3, none⟩) (Nat.le_of_lt zb) _).setNew (p := ⟨gb, 4, none⟩) (Nat.le_of_lt zb) _).setNew (p := ⟨gb, 5, none⟩) (Nat.le_of_lt zb) _)
            have hbn : ¬ b = gb := by omega
            have hbn2 : ¬ gb = b := by omega
            go_wp2_with (fail)
            go_region_held3 (fun W' => W'.cell? ⟨b, off + 5, none⟩ = some (.string ⟨#[121, 101, 115]⟩)) (first | go_keep | (focus (go_simp; done))) (fail)
            clear c5 t2 t3 t4 t5 f2 f3 f4 f5 RW8 BE8 BZ8 YL8
            go_upto_region 19 with (fail)
            generalize ((((w8.setCell ⟨gb, 2, none⟩ (.int .i64 n2)).setCell ⟨gb, 3, none⟩ (.int .i64 n3)).setCell ⟨gb, 4, none⟩ (.int .i64 n4)).setCell ⟨gb, 5, none⟩ (.bool true)) = w9 at *
            obtain ⟨wd, hwd⟩ : ∃ wd, wd = w9.drew := ⟨_, rfl⟩
            have BEd : Hid (Blk wd gb 39 #[.int .i64 wk, .int .i64 kd, .int .i64 n2, .int .i64 n3, .int .i64 n4, .bool true]) := by rw [hwd]; exact Lib.hid BE9.out.drew
            have BZd : Hid (Blk wd w.heap.size 39 #[.int .i64 0, .int .i64 0, .int .i64 0, .int .i64 0, .int .i64 0, .bool false]) := by rw [hwd]; exact Lib.hid BZ9.out.drew
            have YLd : Hid (Ext w wd) := by rw [hwd]; exact Lib.hid YL9.out.drew
            rw [← hwd]
            clear hwd BE9 BZ9 YL9
            have q0 : wd.cell? ⟨gb, 0, none⟩ = some (.int .i64 wk) := BEd.out.cell 0
            have q1 : wd.cell? ⟨gb, 1, none⟩ = some (.int .i64 kd) := BEd.out.cell 1
            have q2 : wd.cell? ⟨gb, 2, none⟩ = some (.int .i64 n2) := BEd.out.cell 2
            have q3 : wd.cell? ⟨gb, 3, none⟩ = some (.int .i64 n3) := BEd.out.cell 3
            have q4 : wd.cell? ⟨gb, 4, none⟩ = some (.int .i64 n4) := BEd.out.cell 4
            have q5 : wd.cell? ⟨gb, 5, none⟩ = some (.bool true) := BEd.out.cell 5
            go_wp2_with (fail)
            refine (LX.out _).mono ?_
            rintro r w5 ⟨rfl, x5⟩
            have y5 := Ext.tr (a := wd) (by (repeat (first | assumption | exact Ext.rf _ | apply Ext.drew | apply Ext.drewN | apply Ext.alloc))) x5
            have BE := Lib.hid (BEd.out.ext y5)
            have BZ := Lib.hid (BZd.out.ext y5)
            have YL := Lib.hid (YLd.out.tr y5)
            clear BEd BZd YLd y5 x5 q0 q1 q2 q3 q4 q5
            have r0 : w5.cell? ⟨w.heap.size, 0, none⟩ = some (.int .i64 0) := BZ.out.cell 0
            have r1 : w5.cell? ⟨w.heap.size, 1, none⟩ = some (.int .i64 0) := BZ.out.cell 1
            have r2 : w5.cell? ⟨w.heap.size, 2, none⟩ = some (.int .i64 0) := BZ.out.cell 2
            have r3 : w5.cell? ⟨w.heap.size, 3, none⟩ = some (.int .i64 0) := BZ.out.cell 3
            have r4 : w5.cell? ⟨w.heap.size, 4, none⟩ = some (.int .i64 0) := BZ.out.cell 4
            have r5 : w5.cell? ⟨w.heap.size, 5, none⟩ = some (.bool false) := BZ.out.cell 5
            have f0 := BZ.out.free 0
            have f1 := BZ.out.free 1
            have f2 := BZ.out.free 2
            have f3 := BZ.out.free 3
            have f4 := BZ.out.free 4
            have f5 := BZ.out.free 5
            have q0 : w5.cell? ⟨gb, 0, none⟩ = some (.int .i64 wk) := BE.out.cell 0
            have q1 : w5.cell? ⟨gb, 1, none⟩ = some (.int .i64 kd) := BE.out.cell 1
            have q2 : w5.cell? ⟨gb, 2, none⟩ = some (.int .i64 n2) := BE.out.cell 2
            have q3 : w5.cell? ⟨gb, 3, none⟩ = some (.int .i64 n3) := BE.out.cell 3
            have q4 : w5.cell? ⟨gb, 4, none⟩ = some (.int .i64 n4) := BE.out.cell 4
            have q5 : w5.cell? ⟨gb, 5, none⟩ = some (.bool true) := BE.out.cell 5
            have BF := Lib.hid (ent_put BZ.out (.int .i64 wk) (.int .i64 kd) (.int .i64 n2) (.int .i64 n3) (.int .i64 n4) (.bool true))
            have YF : Hid (Ext w (ent6W w5 w.heap.size (.int .i64 wk) (.int .i64 kd) (.int .i64 n2) (.int .i64 n3) (.int .i64 n4) (.bool true))) := Lib.hid (YL.out.ent6 (Nat.le_refl _))
            unfold ent6W at BF YF
            go_wp2_with (fail)
            generalize ((((((w5.setCell ⟨w.heap.size, 0, none⟩ (.int .i64 wk)).setCell ⟨w.heap.size, 1, none⟩ (.int .i64 kd)).setCell ⟨w.heap.size, 2, none⟩ (.int .i64 n2)).setCell ⟨w.heap.size, 3, none⟩ (.int .i64 n3)).setCell ⟨w.heap.size, 4, none⟩ (.int .i64 n4)).setCell ⟨w.heap.size, 5, none⟩ (.bool true)) = wf at *
            clear r0 r1 r2 r3 r4 r5 f0 f1 f2 f3 f4 f5 q0 q1 q2 q3 q4 q5
            have r0 : wf.cell? ⟨w.heap.size, 0, none⟩ = some (.int .i64 wk) := BF.out.cell 0
            have r1 : wf.cell? ⟨w.heap.size, 1, none⟩ = some (.int .i64 kd) := BF.out.cell 1
            have r2 : wf.cell? ⟨w.heap.size, 2, none⟩ = some (.int .i64 n2) := BF.out.cell 2
            have r3 : wf.cell? ⟨w.heap.size, 3, none⟩ = some (.int .i64 n3) := BF.out.cell 3
            have r4 : wf.cell? ⟨w.heap.size, 4, none⟩ = some (.int .i64 n4) := BF.out.cell 4
            have r5 : wf.cell? ⟨w.heap.size, 5, none⟩ = some (.bool true) := BF.out.cell 5
            refine bodyPost_ret (v := .tuple #[.agg #[.int .i64 wk, .int .i64 kd, .int .i64 n2, .int .i64 n3, .int .i64 n4, .bool true], .bool true]) (by simp [results, Tryd.results22, go_sem, *]) rfl ⟨by rw [← hRV.out, ← hRB.out]; simp [entC], YF.out⟩
set_option maxRecDepth 100000 in
set_option maxHeartbeats 1000000 in
theorem rentry6_false (e : Ent) (hf : e.fine = true) (hi : e.In) (hq : e.quiet = false) (hdn : e.done = false) (w : World) :
    Calls Tryd.prog 22 #[.string ⟨(Lib.join e.words [32]).toArray⟩] w (REntryPost e w) := by
  have hw2 : e.words = [Lib.itoa e.worker, kindT e.kind, Lib.itoa e.cell, Lib.itoa e.old, Lib.itoa e.new, yesT e.done] := by unfold Ent.words; rw [if_neg (by rw [hq]; decide)]
  have hs := splitC_join e.words e.words_ne e.words_clean
  have hl := words_len hi
  obtain ⟨p1, p2, p3⟩ := e.fine_parts hf
  obtain ⟨p4, hk1, hk4, p5⟩ : e.quiet = false ∧ 1 ≤ e.kind ∧ e.kind ≤ 4 ∧ 0 ≤ e.cell := p3.resolve_left (by rw [hq]; decide)
  have hsh : Hid (e.sh = (decide (digN e.cell ≤ 18) && decide (digN e.old ≤ 18) && decide (digN e.new ≤ 18))) := Lib.hid (by unfold Ent.sh; rw [hq]; rfl)
  have hline := e.line_fine hf
  obtain ⟨s, hss⟩ : ∃ s, Lib.join e.words [32] = s := ⟨_, rfl⟩
  rw [hss] at hs hl hline ⊢
  have CT := Lib.hid (fun (W : World) => rcut_any s 32 W (by omega))
  rw [hs, hw2] at CT
  unfold CutsPost at CT
  have NU0 := Lib.hid (fun (W : World) => rnumber_itoa e.worker false (.inr p1) hi.worker W)
  have NU2 := Lib.hid (fun (W : World) => rnumber_itoa e.cell false (.inr p5) hi.cell W)
  have NU3 := Lib.hid (fun (W : World) => rnumber_itoa e.old true (.inl rfl) hi.old W)
  have NU4 := Lib.hid (fun (W : World) => rnumber_itoa e.new true (.inl rfl) hi.new W)
  have hd := dig_small p1 p2
  unfold NumPost at NU0 NU2 NU3 NU4
  simp only [if_pos hd, decide_eq_true hd] at NU0
  have LX := Lib.hid (fun (W : World) => rline_any e W hi)
  rw [hline] at LX
  clear hf hi hq hd hs hl hss hw2 p1 p2 p3 p4 p5 hline
  obtain ⟨wk, kd, cl, od, nw, dn⟩ := e
  simp only at hdn hk1 hk4
  subst hdn
  unfold REntryPost
  simp only at NU0 NU2 NU3 NU4 LX CT hsh ⊢
  obtain ⟨x2, hx2⟩ : ∃ x, Hid (decide (digN cl ≤ 18) = x) := ⟨_, rfl⟩
  obtain ⟨x3, hx3⟩ : ∃ x, Hid (decide (digN od ≤ 18) = x) := ⟨_, rfl⟩
  obtain ⟨x4, hx4⟩ : ∃ x, Hid (decide (digN nw ≤ 18) = x) := ⟨_, rfl⟩
  obtain ⟨n2, hn2⟩ : ∃ n, Hid ((if digN cl ≤ 18 then cl else 0) = n) := ⟨_, rfl⟩
  obtain ⟨n3, hn3⟩ : ∃ n, Hid ((if digN od ≤ 18 then od else 0) = n) := ⟨_, rfl⟩
  obtain ⟨n4, hn4⟩ : ∃ n, Hid ((if digN nw ≤ 18 then nw else 0) = n) := ⟨_, rfl⟩
  have V2 : Hid (x2 = true → n2 = cl) := Lib.hid (by intro h; rw [← hx2.out] at h; rw [← hn2.out, if_pos (of_decide_eq_true h)])
  have V3 : Hid (x3 = true → n3 = od) := Lib.hid (by intro h; rw [← hx3.out] at h; rw [← hn3.out, if_pos (of_decide_eq_true h)])
  have V4 : Hid (x4 = true → n4 = nw) := Lib.hid (by intro h; rw [← hx4.out] at h; rw [← hn4.out, if_pos (of_decide_eq_true h)])
  rw [hx2.out, hn2.out] at NU2
  rw [hx3.out, hn3.out] at NU3
  rw [hx4.out, hn4.out] at NU4
  rw [hx2.out, hx3.out, hx4.out] at hsh
  rw [hsh.out]
  obtain ⟨RB, hRB⟩ : ∃ RB, Hid ((x2 && x3 && x4) = RB) := ⟨_, rfl⟩
  obtain ⟨RV, hRV⟩ : ∃ RV, Hid (Value.agg (entC (if (x2 && x3 && x4) = true then ⟨wk, kd, cl, od, nw, false⟩ else ⟨wk, kd, 0, 0, 0, false⟩)) = RV) := ⟨_, rfl⟩
  rw [hRV.out, hRB.out]
  clear hx2 hx3 hx4 hn2 hn3 hn4 hsh
  have kY : yesT false = [110, 111] := rfl
  rw [kY] at CT
  clear kY
  unfold txS at LX
  unfold entC at LX
  simp only at LX
  generalize Lib.itoa wk = a0 at *
  generalize Lib.itoa cl = a2 at *
  generalize Lib.itoa od = a3 at *
  generalize Lib.itoa nw = a4 at *
  obtain ⟨kt, hkt⟩ : ∃ kt, kindT kd = kt := ⟨_, rfl⟩
  rw [hkt] at CT
  have KT := Lib.hid hkt
  clear hkt
  go_enter Tryd.func22, Tryd.ntmps22
  go_wp2_with (fail)
  refine (CT.out _).mono ?_
  rintro r w1 ⟨A, d, rfl, o1, x1⟩
  obtain ⟨b, off, rfl, hb, hc⟩ := o1.read.form (by simp [txV])
  have RW1 := Lib.hid o1.read
  have BR1 : Hid (Blk w1 w.heap.size 39 #[.int .i64 0, .int .i64 0, .int .i64 0, .int .i64 0, .int .i64 0, .bool false]) := Lib.hid (Blk.ext (Blk.new rfl) x1)
  have XW1 := Lib.hid (Ext.tr (a := w) (by (repeat (first | assumption | exact Ext.rf _ | apply Ext.drew | apply Ext.drewN | apply Ext.alloc))) x1)
  have zb := BR1.out.lt
  clear o1 x1 hc
  go_upto_region 3 with (fail)
  have BE1 : Hid (Blk (w1.alloc (.cells #[.int .i64 0, .int .i64 0, .int .i64 0, .int .i64 0, .int .i64 0, .bool false] 39)) w1.heap.size 39 #[.int .i64 0, .int .i64 0, .int .i64 0, .int .i64 0, .int .i64 0, .bool false]) := Lib.hid (.new rfl)
  have BR2 := Lib.hid (BR1.out.alloc (.cells #[.int .i64 0, .int .i64 0, .int .i64 0, .int .i64 0, .int .i64 0, .bool false] 39))
  have RW2 := Lib.hid (RW1.out.ext ((Ext.rf w1).alloc (.cells #[.int .i64 0, .int .i64 0, .int .i64 0, .int .i64 0, .int .i64 0, .bool false] 39)))
  have XW2 := Lib.hid (XW1.out.alloc (.cells #[.int .i64 0, .int .i64 0, .int .i64 0, .int .i64 0, .int .i64 0, .bool false] 39))
  obtain ⟨gb, hgb⟩ : ∃ gb, gb = w1.heap.size := ⟨_, rfl⟩
  rw [← hgb] at BE1 zb hb ⊢
  generalize w1.alloc (.cells #[.int .i64 0, .int .i64 0, .int .i64 0, .int .i64 0, .int .i64 0, .bool false] 39) = w2 at *
  clear hgb BR1 RW1 XW1
  have k0 : w2.cell? ⟨b, off, none⟩ = some (.string ⟨a0.toArray⟩) := rdv_cell (j := 0) RW2.out rfl
  have e0 : w2.cell? ⟨gb, 0, none⟩ = some (.int .i64 0) := BE1.out.cell 0
  go_wp2_with (fail)
  refine (NU0.out _).mono ?_
  rintro r w3 ⟨rfl, x3'⟩
  have y3 := Ext.tr (a := w2) (by (repeat (first | assumption | exact Ext.rf _ | apply Ext.drew | apply Ext.drewN | apply Ext.alloc))) x3'
  have BE3 := Lib.hid (BE1.out.ext y3)
  have c0 : w3.cell? ⟨gb, 0, none⟩ = some (.int .i64 0) := BE3.out.cell 0
  have g0 := BE3.out.free 0
  have BR3 := Lib.hid ((BR2.out.ext y3).far (p := ⟨gb, 0, none⟩) (show w.heap.size ≠ gb by omega) (.int .i64 wk))
  have BE4 : Hid (Blk (w3.setCell ⟨gb, 0, none⟩ (.int .i64 wk)) gb 39 #[.int .i64 wk, .int .i64 0, .int .i64 0, .int .i64 0, .int .i64 0, .bool false]) := Lib.hid (BE3.out.set 0 (.int .i64 wk))
  have XW3 : Hid (Ext w (w3.setCell ⟨gb, 0, none⟩ (.int .i64 wk))) := Lib.hid ((XW2.out.tr y3).setNew (p := ⟨gb, 0, none⟩) (Nat.le_of_lt zb) _)
  have RW3 := Lib.hid (rdv_far' (RW2.out.ext y3) BE3.out (by decide) 0 (.int .i64 wk))
  clear BE1 BR2 RW2 XW2 BE3 y3 x3' k0 e0 CT NU0
  go_upto_region 9 with (fail)
  generalize w3.setCell ⟨gb, 0, none⟩ (.int .i64 wk) = w4 at *
  clear c0 g0
  go_loopw [8] (fun kv wr => ∃ k : Nat, kv = .int .i64 k ∧ k ≤ 4 ∧ Hid (Blk wr gb 39 #[.int .i64 wk, .int .i64 (kUp kd (k + 1)), .int .i64 0, .int .i64 0, .int .i64 0, .bool false]) ∧ Hid (Blk wr w.heap.size 39 #[.int .i64 0, .int .i64 0, .int .i64 0, .int .i64 0, .int .i64 0, .bool false]) ∧ Hid (RdV wr 9 (some ⟨b, off, none⟩) (txV [a0, kt, a2, a3, a4, [110, 111]])) ∧ Hid (Ext w wr)) (fun kv _ => 4 - (intOf kv).toNat)
  case atStart => exact ⟨0, rfl, by omega, by rw [kUp_one hk1]; exact BE4, BR3, RW3, XW3⟩
  case round =>
    clear BE4 BR3 RW3 XW3
    obtain ⟨k, rfl, k5, BE, BR, RW, YR⟩ := hrel
    have hbS := rdv_lt RW.out (by simp [txV])
    by_cases k4 : k < 4
    · have c1 : wr.cell? ⟨b, off + 1, none⟩ = some (.string ⟨kt.toArray⟩) := rdv_cell (j := 1) RW.out rfl
      have q1 : (k : Int) < 4 := by omega
      obtain ⟨kx, hkx⟩ : ∃ kx, kindT ((k + 1 : Nat) : Int) = kx := ⟨_, rfl⟩
      have KX : Hid ((#[.string ⟨#[114, 101, 97, 100]⟩, .string ⟨#[119, 114, 105, 116, 101]⟩, .string ⟨#[115, 119, 97, 112]⟩, .string ⟨#[97, 100, 100]⟩] : Array Value)[k]? = some (.string ⟨kx.toArray⟩)) := Lib.hid (by
        rw [← hkx]
        have h4 : k = 0 ∨ k = 1 ∨ k = 2 ∨ k = 3 := by omega
        rcases h4 with rfl | rfl | rfl | rfl <;> rfl)
      by_cases hkd : ((k + 1 : Nat) : Int) = kd
      · have e0 : kx = kt := by rw [← hkx, hkd, KT.out]
        have KU : Hid (kUp kd (k + 1 + 1) = (k : Int) + 1) := Lib.hid (by rw [← hkd, kUp_at]; omega)
        subst e0
        clear hkx hkd
        go_wp2_with (fail)
        refine wp_region_any (by kernel_rfl) ?_
        change wpAny _ _ _ _ _ _ _ (World.drew _)
        refine wpAny_T (i := 0) (op := Op.move (Operand.tmp 4)) (t := 64) (d := some 38) (v := ?_) rfl (by decide +kernel) (by decide +kernel) (by decide +kernel) (fun _ _ _ h => h) ?_ ?_
        case refine_2 => (intro _; unfold exec2; go_simp; try with_reducible rfl)
        try simp only [Act.put, List.setIfInBounds_toArray, List.set_cons_zero, List.set_cons_succ]
        refine wpAny_T (i := 1) (op := Op.indexAddr 64 (Operand.tmp 38) (Operand.const (Value.int IntKind.i64 1))) (t := 0) (d := some 39) (v := ?_) rfl (by decide +kernel) (by decide +kernel) (by decide +kernel) (fun _ _ _ h => h) ?_ ?_
        case refine_2 => (intro _; unfold exec2; go_simp; try with_reducible rfl)
        try simp only [Act.put, List.setIfInBounds_toArray, List.set_cons_zero, List.set_cons_succ]
        refine wpAny_T (i := 4) (op := Op.move (Operand.tmp 8)) (t := 3) (d := some 42) (v := ?_) rfl (by decide +kernel) (by decide +kernel) (by decide +kernel) (fun _ _ _ h => h) ?_ ?_
        case refine_2 => (intro _; unfold exec2; go_simp; try with_reducible rfl)
        try simp only [Act.put, List.setIfInBounds_toArray, List.set_cons_zero, List.set_cons_succ]
        refine wpAny_core2 (n := 0) [(2, some 40), (3, some 41), (5, some 43), (6, some 44), (7, some 45)] (Ext wr) (VF (fun | 2 => some (.string ⟨kx.toArray⟩) | 6 => some (.string ⟨kx.toArray⟩) | 7 => some (.bool true) | _ => none) (fun i v W => (i = 3 → ∃ z, v = .slice (some ⟨z, 0, none⟩) 4 4 ∧ Blk W z 9 #[.string ⟨#[114, 101, 97, 100]⟩, .string ⟨#[119, 114, 105, 116, 101]⟩, .string ⟨#[115, 119, 97, 112]⟩, .string ⟨#[97, 100, 100]⟩]) ∧ (i = 5 → ∃ z, v = .pointer (some ⟨z, k, none⟩) ∧ Blk W z 9 #[.string ⟨#[114, 101, 97, 100]⟩, .string ⟨#[119, 114, 105, 116, 101]⟩, .string ⟨#[115, 119, 97, 112]⟩, .string ⟨#[97, 100, 100]⟩]))) Ext #[true, true, true, true, true, true, true, true] (by decide +kernel) (VF.stab ?_) ?_ ?_ (by first | exact (Ext.rf _).drew | exact Ext.rf _)
        · intro j v W W' _ gz hx
          obtain ⟨g0, g1⟩ := gz
          exact ⟨fun h => (g0 h).imp fun z hz => ⟨hz.1, hz.2.ext hx⟩, fun h => (g1 h).imp fun z hz => ⟨hz.1, hz.2.ext hx⟩⟩
        · intro pS hpm uS wS hRW hD K hK
          simp only [List.mem_cons, List.not_mem_nil, or_false] at hpm
          rcases hpm with rfl | rfl | rfl | rfl | rfl
          · ( have rX := keepEL hRW hbS c1; exact op_ld (T := 9) (x := Operand.tmp 39) (t := 9) (d := some 40) rfl (.pointer (some ⟨b, off + 1, none⟩)) (by kernel_rfl) (.string ⟨kx.toArray⟩) (by go_simp) (hK _ _ (VF.mk rfl) hRW (Ext.rf _)))
          · ( exact op_run (op := Op.buildSlice 64 4 #[(0, Operand.const (Value.string { data := #[114, 101, 97, 100] })), (1, Operand.const (Value.string { data := #[119, 114, 105, 116, 101] })), (2, Operand.const (Value.string { data := #[115, 119, 97, 112] })), (3, Operand.const (Value.string { data := #[97, 100, 100] }))]) (t := 64) (d := some 41) rfl _ (by unfold exec2; go_simp; try rfl) (hK _ _ (VF.mg rfl ⟨(fun _ => ⟨_, rfl, .new rfl⟩), (fun h => absurd h (by decide))⟩) (hRW.alloc _) ((Ext.rf _).alloc _)))
          · ( obtain ⟨z, ez, bz⟩ := ((hD 3 (depIn (by kernel_rfl))).g rfl).1 rfl; exact op_ix (T := 64) (x := Operand.tmp 41) (y := Operand.tmp 42) (t := 0) (d := some 43) rfl (.slice (some ⟨z, 0, none⟩) 4 4) (.int .i64 k) (Eq.trans (b := uS 3) (by kernel_rfl) ez) (by kernel_rfl) (.pointer (some ⟨z, k, none⟩)) (by go_simp) (hK _ _ (VF.mg rfl ⟨(fun h => absurd h (by decide)), (fun _ => ⟨z, rfl, bz⟩)⟩) hRW (Ext.rf _)))
          · (obtain ⟨z, ez, bz⟩ := ((hD 5 (depIn (by kernel_rfl))).g rfl).2 rfl; have rX : wS.cell? ⟨z, k, none⟩ = some (.string ⟨kx.toArray⟩) := (bz.cell k).trans (KX.out); exact op_ld (T := 9) (x := Operand.tmp 43) (t := 9) (d := some 44) rfl (.pointer (some ⟨z, k, none⟩)) (Eq.trans (b := uS 5) (by kernel_rfl) ez) (.string ⟨kx.toArray⟩) (by go_simp) (hK _ _ (VF.mk rfl) hRW (Ext.rf _)))
          · (have e2 : uS 2 = .string ⟨kx.toArray⟩ := (hD 2 (depIn (by kernel_rfl))).k rfl; have e6 : uS 6 = .string ⟨kx.toArray⟩ := (hD 6 (depIn (by kernel_rfl))).k rfl; exact op_run (op := Op.binOp BinOp.eql 9 (Operand.tmp 40) (Operand.tmp 44) 9) (t := 4) (d := some 45) rfl (.bool true) (by simp only [putAll, Act.put, List.setIfInBounds_toArray, List.set_cons_zero, List.set_cons_succ]; unfold exec2; (try go_simp); (try simp only [e2, e6]); (try go_simp); (try rfl); (try (exact IntWalk.i64_in _ (by omega))); (try (simp))) (hK _ _ (VF.mk rfl) hRW (Ext.rf _)))
        intro u w7 hR7 hV
        have h2 := (hV (2, some 40) (by simp)).k rfl
        have h6 := (hV (6, some 44) (by simp)).k rfl
        have h7 := (hV (7, some 45) (by simp)).k rfl
        simp only [putAll, h2, h6, h7]
        clear hV h2 h6 h7
        try simp only [Act.put, List.setIfInBounds_toArray, List.set_cons_zero, List.set_cons_succ]
        refine wpAny_done (by kernel_rfl) ?_ _
        go_simp
        have BE7 := Lib.hid (BE.out.ext hR7)
        have t1 : w7.cell? ⟨gb, 1, none⟩ = some (.int .i64 (kUp kd (k + 1))) := BE7.out.cell 1
        have f1 := BE7.out.free 1
        have BE8 : Hid (Blk (w7.setCell ⟨gb, 1, none⟩ (.int .i64 ((k : Int) + 1))) gb 39 #[.int .i64 wk, .int .i64 (kUp kd (k + 1 + 1)), .int .i64 0, .int .i64 0, .int .i64 0, .bool false]) := by rw [KU.out]; exact Lib.hid (BE7.out.set 1 (.int .i64 ((k : Int) + 1)))
        have BR8 := Lib.hid ((BR.out.ext hR7).far (p := ⟨gb, 1, none⟩) (show w.heap.size ≠ gb by omega) (.int .i64 ((k : Int) + 1)))
        have RW8 := Lib.hid (rdv_far' (RW.out.ext hR7) BE7.out (by decide) 1 (.int .i64 ((k : Int) + 1)))
        have YR8 : Hid (Ext w (w7.setCell ⟨gb, 1, none⟩ (.int .i64 ((k : Int) + 1)))) := Lib.hid ((YR.out.tr hR7).setNew (p := ⟨gb, 1, none⟩) (Nat.le_of_lt zb) _)
        clear BE BR RW YR c1 KU KX BE7 hR7
        go_wp2_with (fail)
        go_roundw
        case rel => exact ⟨k + 1, by go_num, by omega, BE8, BR8, RW8, YR8⟩
        case measure => simp [intOf]; omega
      · have e0 : kt ≠ kx := fun h => hkd (kindT_inj ⟨by omega, by omega⟩ ⟨hk1, hk4⟩ (by rw [hkx, KT.out, h]))
        have KU : Hid (kUp kd (k + 1 + 1) = kUp kd (k + 1)) := Lib.hid (kUp_ne hkd)
        have e1 : @BEq.beq (List UInt8) _ kt kx = false := beq_eq_false_iff_ne.2 e0
        clear hkx hkd
        go_wp2_with (fail)
        refine wp_region_any (by kernel_rfl) ?_
        change wpAny _ _ _ _ _ _ _ (World.drew _)
        refine wpAny_T (i := 0) (op := Op.move (Operand.tmp 4)) (t := 64) (d := some 38) (v := ?_) rfl (by decide +kernel) (by decide +kernel) (by decide +kernel) (fun _ _ _ h => h) ?_ ?_
        case refine_2 => (intro _; unfold exec2; go_simp; try with_reducible rfl)
        try simp only [Act.put, List.setIfInBounds_toArray, List.set_cons_zero, List.set_cons_succ]
        refine wpAny_T (i := 1) (op := Op.indexAddr 64 (Operand.tmp 38) (Operand.const (Value.int IntKind.i64 1))) (t := 0) (d := some 39) (v := ?_) rfl (by decide +kernel) (by decide +kernel) (by decide +kernel) (fun _ _ _ h => h) ?_ ?_
        case refine_2 => (intro _; unfold exec2; go_simp; try with_reducible rfl)
        try simp only [Act.put, List.setIfInBounds_toArray, List.set_cons_zero, List.set_cons_succ]
        refine wpAny_T (i := 4) (op := Op.move (Operand.tmp 8)) (t := 3) (d := some 42) (v := ?_) rfl (by decide +kernel) (by decide +kernel) (by decide +kernel) (fun _ _ _ h => h) ?_ ?_
        case refine_2 => (intro _; unfold exec2; go_simp; try with_reducible rfl)
        try simp only [Act.put, List.setIfInBounds_toArray, List.set_cons_zero, List.set_cons_succ]
        refine wpAny_core2 (n := 0) [(2, some 40), (3, some 41), (5, some 43), (6, some 44), (7, some 45)] (Ext wr) (VF (fun | 2 => some (.string ⟨kt.toArray⟩) | 6 => some (.string ⟨kx.toArray⟩) | 7 => some (.bool false) | _ => none) (fun i v W => (i = 3 → ∃ z, v = .slice (some ⟨z, 0, none⟩) 4 4 ∧ Blk W z 9 #[.string ⟨#[114, 101, 97, 100]⟩, .string ⟨#[119, 114, 105, 116, 101]⟩, .string ⟨#[115, 119, 97, 112]⟩, .string ⟨#[97, 100, 100]⟩]) ∧ (i = 5 → ∃ z, v = .pointer (some ⟨z, k, none⟩) ∧ Blk W z 9 #[.string ⟨#[114, 101, 97, 100]⟩, .string ⟨#[119, 114, 105, 116, 101]⟩, .string ⟨#[115, 119, 97, 112]⟩, .string ⟨#[97, 100, 100]⟩]))) Ext #[true, true, true, true, true, true, true, true] (by decide +kernel) (VF.stab ?_) ?_ ?_ (by first | exact (Ext.rf _).drew | exact Ext.rf _)
        · intro j v W W' _ gz hx
          obtain ⟨g0, g1⟩ := gz
          exact ⟨fun h => (g0 h).imp fun z hz => ⟨hz.1, hz.2.ext hx⟩, fun h => (g1 h).imp fun z hz => ⟨hz.1, hz.2.ext hx⟩⟩
        · intro pS hpm uS wS hRW hD K hK
          simp only [List.mem_cons, List.not_mem_nil, or_false] at hpm
          rcases hpm with rfl | rfl | rfl | rfl | rfl
          · ( have rX := keepEL hRW hbS c1; exact op_ld (T := 9) (x := Operand.tmp 39) (t := 9) (d := some 40) rfl (.pointer (some ⟨b, off + 1, none⟩)) (by kernel_rfl) (.string ⟨kt.toArray⟩) (by go_simp) (hK _ _ (VF.mk rfl) hRW (Ext.rf _)))
          · ( exact op_run (op := Op.buildSlice 64 4 #[(0, Operand.const (Value.string { data := #[114, 101, 97, 100] })), (1, Operand.const (Value.string { data := #[119, 114, 105, 116, 101] })), (2, Operand.const (Value.string { data := #[115, 119, 97, 112] })), (3, Operand.const (Value.string { data := #[97, 100, 100] }))]) (t := 64) (d := some 41) rfl _ (by unfold exec2; go_simp; try rfl) (hK _ _ (VF.mg rfl ⟨(fun _ => ⟨_, rfl, .new rfl⟩), (fun h => absurd h (by decide))⟩) (hRW.alloc _) ((Ext.rf _).alloc _)))
          · ( obtain ⟨z, ez, bz⟩ := ((hD 3 (depIn (by kernel_rfl))).g rfl).1 rfl; exact op_ix (T := 64) (x := Operand.tmp 41) (y := Operand.tmp 42) (t := 0) (d := some 43) rfl (.slice (some ⟨z, 0, none⟩) 4 4) (.int .i64 k) (Eq.trans (b := uS 3) (by kernel_rfl) ez) (by kernel_rfl) (.pointer (some ⟨z, k, none⟩)) (by go_simp) (hK _ _ (VF.mg rfl ⟨(fun h => absurd h (by decide)), (fun _ => ⟨z, rfl, bz⟩)⟩) hRW (Ext.rf _)))
          · (obtain ⟨z, ez, bz⟩ := ((hD 5 (depIn (by kernel_rfl))).g rfl).2 rfl; have rX : wS.cell? ⟨z, k, none⟩ = some (.string ⟨kx.toArray⟩) := (bz.cell k).trans (KX.out); exact op_ld (T := 9) (x := Operand.tmp 43) (t := 9) (d := some 44) rfl (.pointer (some ⟨z, k, none⟩)) (Eq.trans (b := uS 5) (by kernel_rfl) ez) (.string ⟨kx.toArray⟩) (by go_simp) (hK _ _ (VF.mk rfl) hRW (Ext.rf _)))
          · (have e2 : uS 2 = .string ⟨kt.toArray⟩ := (hD 2 (depIn (by kernel_rfl))).k rfl; have e6 : uS 6 = .string ⟨kx.toArray⟩ := (hD 6 (depIn (by kernel_rfl))).k rfl; exact op_run (op := Op.binOp BinOp.eql 9 (Operand.tmp 40) (Operand.tmp 44) 9) (t := 4) (d := some 45) rfl (.bool false) (by simp only [putAll, Act.put, List.setIfInBounds_toArray, List.set_cons_zero, List.set_cons_succ]; unfold exec2; (try go_simp); (try simp only [e2, e6]); (try go_simp); (try rfl); (try (exact IntWalk.i64_in _ (by omega))); (try (exact e1))) (hK _ _ (VF.mk rfl) hRW (Ext.rf _)))
        intro u w7 hR7 hV
        have h2 := (hV (2, some 40) (by simp)).k rfl
        have h6 := (hV (6, some 44) (by simp)).k rfl
        have h7 := (hV (7, some 45) (by simp)).k rfl
        simp only [putAll, h2, h6, h7]
        clear hV h2 h6 h7
        try simp only [Act.put, List.setIfInBounds_toArray, List.set_cons_zero, List.set_cons_succ]
        refine wpAny_done (by kernel_rfl) ?_ _
        go_simp
        have BE8 : Hid (Blk w7 gb 39 #[.int .i64 wk, .int .i64 (kUp kd (k + 1 + 1)), .int .i64 0, .int .i64 0, .int .i64 0, .bool false]) := by rw [KU.out]; exact Lib.hid (BE.out.ext hR7)
        have BR8 := Lib.hid (BR.out.ext hR7)
        have RW8 := Lib.hid (RW.out.ext hR7)
        have YR8 := Lib.hid (YR.out.tr hR7)
        clear BE BR RW YR c1 KU KX hR7 e0 e1
        go_wp2_with (fail)
        go_roundw
        case rel => exact ⟨k + 1, by go_num, by omega, BE8, BR8, RW8, YR8⟩
        case measure => simp [intOf]; omega
    · obtain rfl : k = 4 := by omega
      rw [kUp_five hk4] at BE
      clear KT hk1 hk4 k4 k5
      have k2 : wr.cell? ⟨b, off + 2, none⟩ = some (.string ⟨a2.toArray⟩) := rdv_cell (j := 2) RW.out rfl
      go_wp2_with (fail)
      refine (NU2.out _).mono ?_
      rintro r w6 ⟨rfl, x6⟩
      have y6 := Lib.hid (Ext.tr (a := wr) (by (repeat (first | assumption | exact Ext.rf _ | apply Ext.drew | apply Ext.drewN | apply Ext.alloc))) x6)
      have k3 : w6.cell? ⟨b, off + 3, none⟩ = some (.string ⟨a3.toArray⟩) := rdv_cell (j := 3) (RW.out.ext y6.out) rfl
      clear x6
      go_wp2_with (fail)
      refine (NU3.out _).mono ?_
      rintro r w7 ⟨rfl, x7⟩
      have y7 := Lib.hid (y6.out.tr (Ext.tr (by (repeat (first | assumption | exact Ext.rf _ | apply Ext.drew | apply Ext.drewN | apply Ext.alloc))) x7))
      have k4 : w7.cell? ⟨b, off + 4, none⟩ = some (.string ⟨a4.toArray⟩) := rdv_cell (j := 4) (RW.out.ext y7.out) rfl
      clear x7 y6 k3
      go_wp2_with (fail)
      refine (NU4.out _).mono ?_
      rintro r w8 ⟨rfl, x8⟩
      have y8 := Lib.hid (y7.out.tr (Ext.tr (by (repeat (first | assumption | exact Ext.rf _ | apply Ext.drew | apply Ext.drewN | apply Ext.alloc))) x8))
      have BE8 := Lib.hid (BE.out.ext y8.out)
      have BZ8 := Lib.hid (BR.out.ext y8.out)
      have RW8 := Lib.hid (RW.out.ext y8.out)
      have YL8 := Lib.hid (YR.out.tr y8.out)
      clear x8 y7 y8 k2 k4 BE BR RW YR NU2 NU3 NU4
      cases x2 with
      | false =>
        have r0 : w8.cell? ⟨w.heap.size, 0, none⟩ = some (.int .i64 0) := BZ8.out.cell 0
        have r1 : w8.cell? ⟨w.heap.size, 1, none⟩ = some (.int .i64 0) := BZ8.out.cell 1
        have r2 : w8.cell? ⟨w.heap.size, 2, none⟩ = some (.int .i64 0) := BZ8.out.cell 2
        have r3 : w8.cell? ⟨w.heap.size, 3, none⟩ = some (.int .i64 0) := BZ8.out.cell 3
        have r4 : w8.cell? ⟨w.heap.size, 4, none⟩ = some (.int .i64 0) := BZ8.out.cell 4
        have r5 : w8.cell? ⟨w.heap.size, 5, none⟩ = some (.bool false) := BZ8.out.cell 5
        have f0 := BZ8.out.free 0
        have f1 := BZ8.out.free 1
        have f2 := BZ8.out.free 2
        have f3 := BZ8.out.free 3
        have f4 := BZ8.out.free 4
        have f5 := BZ8.out.free 5
        have q0 : w8.cell? ⟨gb, 0, none⟩ = some (.int .i64 wk) := BE8.out.cell 0
        have q1 : w8.cell? ⟨gb, 1, none⟩ = some (.int .i64 kd) := BE8.out.cell 1
        have q2 : w8.cell? ⟨gb, 2, none⟩ = some (.int .i64 0) := BE8.out.cell 2
        have q3 : w8.cell? ⟨gb, 3, none⟩ = some (.int .i64 0) := BE8.out.cell 3
        have q4 : w8.cell? ⟨gb, 4, none⟩ = some (.int .i64 0) := BE8.out.cell 4
        have q5 : w8.cell? ⟨gb, 5, none⟩ = some (.bool false) := BE8.out.cell 5
        have BF := Lib.hid (ent_put BZ8.out (.int .i64 wk) (.int .i64 kd) (.int .i64 0) (.int .i64 0) (.int .i64 0) (.bool false))
        have YF : Hid (Ext w (ent6W w8 w.heap.size (.int .i64 wk) (.int .i64 kd) (.int .i64 0) (.int .i64 0) (.int .i64 0) (.bool false))) := Lib.hid (YL8.out.ent6 (Nat.le_refl _))
        unfold ent6W at BF YF
        go_wp2_with (fail)
        generalize ((((((w8.setCell ⟨w.heap.size, 0, none⟩ (.int .i64 wk)).setCell ⟨w.heap.size, 1, none⟩ (.int .i64 kd)).setCell ⟨w.heap.size, 2, none⟩ (.int .i64 0)).setCell ⟨w.heap.size, 3, none⟩ (.int .i64 0)).setCell ⟨w.heap.size, 4, none⟩ (.int .i64 0)).setCell ⟨w.heap.size, 5, none⟩ (.bool false)) = wf at *
        clear r0 r1 r2 r3 r4 r5 f0 f1 f2 f3 f4 f5 q0 q1 q2 q3 q4 q5
        have r0 : wf.cell? ⟨w.heap.size, 0, none⟩ = some (.int .i64 wk) := BF.out.cell 0
        have r1 : wf.cell? ⟨w.heap.size, 1, none⟩ = some (.int .i64 kd) := BF.out.cell 1
        have r2 : wf.cell? ⟨w.heap.size, 2, none⟩ = some (.int .i64 0) := BF.out.cell 2
        have r3 : wf.cell? ⟨w.heap.size, 3, none⟩ = some (.int .i64 0) := BF.out.cell 3
        have r4 : wf.cell? ⟨w.heap.size, 4, none⟩ = some (.int .i64 0) := BF.out.cell 4
        have r5 : wf.cell? ⟨w.heap.size, 5, none⟩ = some (.bool false) := BF.out.cell 5
        refine bodyPost_ret (v := .tuple #[.agg #[.int .i64 wk, .int .i64 kd, .int .i64 0, .int .i64 0, .int .i64 0, .bool false], .bool false]) (by simp [results, Tryd.results22, go_sem, *]) rfl ⟨by rw [← hRV.out, ← hRB.out]; simp [entC], YF.out⟩
      | true =>
        cases x3 with
        | false =>
          have r0 : w8.cell? ⟨w.heap.size, 0, none⟩ = some (.int .i64 0) := BZ8.out.cell 0
          have r1 : w8.cell? ⟨w.heap.size, 1, none⟩ = some (.int .i64 0) := BZ8.out.cell 1
          have r2 : w8.cell? ⟨w.heap.size, 2, none⟩ = some (.int .i64 0) := BZ8.out.cell 2
          have r3 : w8.cell? ⟨w.heap.size, 3, none⟩ = some (.int .i64 0) := BZ8.out.cell 3
          have r4 : w8.cell? ⟨w.heap.size, 4, none⟩ = some (.int .i64 0) := BZ8.out.cell 4
          have r5 : w8.cell? ⟨w.heap.size, 5, none⟩ = some (.bool false) := BZ8.out.cell 5
          have f0 := BZ8.out.free 0
          have f1 := BZ8.out.free 1
          have f2 := BZ8.out.free 2
          have f3 := BZ8.out.free 3
          have f4 := BZ8.out.free 4
          have f5 := BZ8.out.free 5
          have q0 : w8.cell? ⟨gb, 0, none⟩ = some (.int .i64 wk) := BE8.out.cell 0
          have q1 : w8.cell? ⟨gb, 1, none⟩ = some (.int .i64 kd) := BE8.out.cell 1
          have q2 : w8.cell? ⟨gb, 2, none⟩ = some (.int .i64 0) := BE8.out.cell 2
          have q3 : w8.cell? ⟨gb, 3, none⟩ = some (.int .i64 0) := BE8.out.cell 3
          have q4 : w8.cell? ⟨gb, 4, none⟩ = some (.int .i64 0) := BE8.out.cell 4
          have q5 : w8.cell? ⟨gb, 5, none⟩ = some (.bool false) := BE8.out.cell 5
          have BF := Lib.hid (ent_put BZ8.out (.int .i64 wk) (.int .i64 kd) (.int .i64 0) (.int .i64 0) (.int .i64 0) (.bool false))
          have YF : Hid (Ext w (ent6W w8 w.heap.size (.int .i64 wk) (.int .i64 kd) (.int .i64 0) (.int .i64 0) (.int .i64 0) (.bool false))) := Lib.hid (YL8.out.ent6 (Nat.le_refl _))
          unfold ent6W at BF YF
          go_wp2_with (fail)
          generalize ((((((w8.setCell ⟨w.heap.size, 0, none⟩ (.int .i64 wk)).setCell ⟨w.heap.size, 1, none⟩ (.int .i64 kd)).setCell ⟨w.heap.size, 2, none⟩ (.int .i64 0)).setCell ⟨w.heap.size, 3, none⟩ (.int .i64 0)).setCell ⟨w.heap.size, 4, none⟩ (.int .i64 0)).setCell ⟨w.heap.size, 5, none⟩ (.bool false)) = wf at *
          clear r0 r1 r2 r3 r4 r5 f0 f1 f2 f3 f4 f5 q0 q1 q2 q3 q4 q5
          have r0 : wf.cell? ⟨w.heap.size, 0, none⟩ = some (.int .i64 wk) := BF.out.cell 0
          have r1 : wf.cell? ⟨w.heap.size, 1, none⟩ = some (.int .i64 kd) := BF.out.cell 1
          have r2 : wf.cell? ⟨w.heap.size, 2, none⟩ = some (.int .i64 0) := BF.out.cell 2
          have r3 : wf.cell? ⟨w.heap.size, 3, none⟩ = some (.int .i64 0) := BF.out.cell 3
          have r4 : wf.cell? ⟨w.heap.size, 4, none⟩ = some (.int .i64 0) := BF.out.cell 4
          have r5 : wf.cell? ⟨w.heap.size, 5, none⟩ = some (.bool false) := BF.out.cell 5
          refine bodyPost_ret (v := .tuple #[.agg #[.int .i64 wk, .int .i64 kd, .int .i64 0, .int .i64 0, .int .i64 0, .bool false], .bool false]) (by simp [results, Tryd.results22, go_sem, *]) rfl ⟨by rw [← hRV.out, ← hRB.out]; simp [entC], YF.out⟩
        | true =>
          cases x4 with
          | false =>
            have r0 : w8.cell? ⟨w.heap.size, 0, none⟩ = some (.int .i64 0) := BZ8.out.cell 0
            have r1 : w8.cell? ⟨w.heap.size, 1, none⟩ = some (.int .i64 0) := BZ8.out.cell 1
            have r2 : w8.cell? ⟨w.heap.size, 2, none⟩ = some (.int .i64 0) := BZ8.out.cell 2
            have r3 : w8.cell? ⟨w.heap.size, 3, none⟩ = some (.int .i64 0) := BZ8.out.cell 3
            have r4 : w8.cell? ⟨w.heap.size, 4, none⟩ = some (.int .i64 0) := BZ8.out.cell 4
            have r5 : w8.cell? ⟨w.heap.size, 5, none⟩ = some (.bool false) := BZ8.out.cell 5
            have f0 := BZ8.out.free 0
            have f1 := BZ8.out.free 1
            have f2 := BZ8.out.free 2
            have f3 := BZ8.out.free 3
            have f4 := BZ8.out.free 4
            have f5 := BZ8.out.free 5
            have q0 : w8.cell? ⟨gb, 0, none⟩ = some (.int .i64 wk) := BE8.out.cell 0
            have q1 : w8.cell? ⟨gb, 1, none⟩ = some (.int .i64 kd) := BE8.out.cell 1
            have q2 : w8.cell? ⟨gb, 2, none⟩ = some (.int .i64 0) := BE8.out.cell 2
            have q3 : w8.cell? ⟨gb, 3, none⟩ = some (.int .i64 0) := BE8.out.cell 3
            have q4 : w8.cell? ⟨gb, 4, none⟩ = some (.int .i64 0) := BE8.out.cell 4
            have q5 : w8.cell? ⟨gb, 5, none⟩ = some (.bool false) := BE8.out.cell 5
            have BF := Lib.hid (ent_put BZ8.out (.int .i64 wk) (.int .i64 kd) (.int .i64 0) (.int .i64 0) (.int .i64 0) (.bool false))
            have YF : Hid (Ext w (ent6W w8 w.heap.size (.int .i64 wk) (.int .i64 kd) (.int .i64 0) (.int .i64 0) (.int .i64 0) (.bool false))) := Lib.hid (YL8.out.ent6 (Nat.le_refl _))
            unfold ent6W at BF YF
            go_wp2_with (fail)
            generalize ((((((w8.setCell ⟨w.heap.size, 0, none⟩ (.int .i64 wk)).setCell ⟨w.heap.size, 1, none⟩ (.int .i64 kd)).setCell ⟨w.heap.size, 2, none⟩ (.int .i64 0)).setCell ⟨w.heap.size, 3, none⟩ (.int .i64 0)).setCell ⟨w.heap.size, 4, none⟩ (.int .i64 0)).setCell ⟨w.heap.size, 5, none⟩ (.bool false)) = wf at *
            clear r0 r1 r2 r3 r4 r5 f0 f1 f2 f3 f4 f5 q0 q1 q2 q3 q4 q5
            have r0 : wf.cell? ⟨w.heap.size, 0, none⟩ = some (.int .i64 wk) := BF.out.cell 0
            have r1 : wf.cell? ⟨w.heap.size, 1, none⟩ = some (.int .i64 kd) := BF.out.cell 1
            have r2 : wf.cell? ⟨w.heap.size, 2, none⟩ = some (.int .i64 0) := BF.out.cell 2
            have r3 : wf.cell? ⟨w.heap.size, 3, none⟩ = some (.int .i64 0) := BF.out.cell 3
            have r4 : wf.cell? ⟨w.heap.size, 4, none⟩ = some (.int .i64 0) := BF.out.cell 4
            have r5 : wf.cell? ⟨w.heap.size, 5, none⟩ = some (.bool false) := BF.out.cell 5
            refine bodyPost_ret (v := .tuple #[.agg #[.int .i64 wk, .int .i64 kd, .int .i64 0, .int .i64 0, .int .i64 0, .bool false], .bool false]) (by simp [results, Tryd.results22, go_sem, *]) rfl ⟨by rw [← hRV.out, ← hRB.out]; simp [entC], YF.out⟩
          | true =>
            have v2 := V2.out rfl
            have v3 := V3.out rfl
            have v4 := V4.out rfl
            subst v2 v3 v4
            clear V2 V3 V4
            have c5 : w8.cell? ⟨b, off + 5, none⟩ = some (.string ⟨#[110, 111]⟩) := rdv_cell (j := 5) RW8.out rfl
            have t2 : w8.cell? ⟨gb, 2, none⟩ = some (.int .i64 0) := BE8.out.cell 2
            have t3 : w8.cell? ⟨gb, 3, none⟩ = some (.int .i64 0) := BE8.out.cell 3
            have t4 : w8.cell? ⟨gb, 4, none⟩ = some (.int .i64 0) := BE8.out.cell 4
            have t5 : w8.cell? ⟨gb, 5, none⟩ = some (.bool false) := BE8.out.cell 5
            have f2 := BE8.out.free 2
            have f3 := BE8.out.free 3
            have f4 := BE8.out.free 4
            have f5 := BE8.out.free 5
            have BE9 : Hid (Blk ((((w8.setCell ⟨gb, 2, none⟩ (.int .i64 n2)).setCell ⟨gb, 3, none⟩ (.int .i64 n3)).setCell ⟨gb, 4, none⟩ (.int .i64 n4)).setCell ⟨gb, 5, none⟩ (.bool false)) gb 39 #[.int .i64 wk, .int .i64 kd, .int .i64 n2, .int .i64 n3, .int .i64 n4, .bool false]) := Lib.hid ((((BE8.out.set 2 (.int .i64 n2)).set 3 (.int .i64 n3)).set 4 (.int .i64 n4)).set 5 (.bool false))
            have BZ9 := Lib.hid ((((BZ8.out.far (p := ⟨gb, 2, none⟩) (show w.heap.size ≠ gb by omega) (.int .i64 n2)).far (p := ⟨gb, 3, none⟩) (show w.heap.size ≠ gb by omega) (.int .i64 n3)).far (p := ⟨gb, 4, none⟩) (show w.heap.size ≠ gb by omega) (.int .i64 n4)).far (p := ⟨gb, 5, none⟩) (show w.heap.size ≠ gb by omega) (.bool false))
            have YL9 : Hid (Ext w ((((w8.setCell ⟨gb, 2, none⟩ (.int .i64 n2)).setCell ⟨gb, 3, none⟩ (.int .i64 n3)).setCell ⟨gb, 4, none⟩ (.int .i64 n4)).setCell ⟨gb, 5, none⟩ (.bool false))) := Lib.hid ((((YL8.out.setNew (p := ⟨gb, 2, none⟩) (Nat.le_of_lt zb) _).setNew (p := ⟨gb, 3, none⟩) (Nat.le_of_lt zb) _).setNew (p := ⟨gb, 4, none⟩) (Nat.le_of_lt zb) _).setNew (p := ⟨gb, 5, none⟩) (Nat.le_of_lt zb) _)
            have hbn : ¬ b = gb := by omega
            have hbn2 : ¬ gb = b := by omega
            go_wp2_with (fail)
            go_region_held3 (fun W' => W'.cell? ⟨b, off + 5, none⟩ = some (.string ⟨#[110, 111]⟩)) (first | go_keep | (focus (go_simp; done))) (fail)
            clear c5 t2 t3 t4 t5 f2 f3 f4 f5 RW8 BE8 BZ8 YL8
            go_upto_region 19 with (fail)
            generalize ((((w8.setCell ⟨gb, 2, none⟩ (.int .i64 n2)).setCell ⟨gb, 3, none⟩ (.int .i64 n3)).setCell ⟨gb, 4, none⟩ (.int .i64 n4)).setCell ⟨gb, 5, none⟩ (.bool false)) = w9 at *
            obtain ⟨wd, hwd⟩ : ∃ wd, wd = w9.drew := ⟨_, rfl⟩
            have BEd : Hid (Blk wd gb 39 #[.int .i64 wk, .int .i64 kd, .int .i64 n2, .int .i64 n3, .int .i64 n4, .bool false]) := by rw [hwd]; exact Lib.hid BE9.out.drew
            have BZd : Hid (Blk wd w.heap.size 39 #[.int .i64 0, .int .i64 0, .int .i64 0, .int .i64 0, .int .i64 0, .bool false]) := by rw [hwd]; exact Lib.hid BZ9.out.drew
            have YLd : Hid (Ext w wd) := by rw [hwd]; exact Lib.hid YL9.out.drew
            rw [← hwd]
            clear hwd BE9 BZ9 YL9
            have q0 : wd.cell? ⟨gb, 0, none⟩ = some (.int .i64 wk) := BEd.out.cell 0
            have q1 : wd.cell? ⟨gb, 1, none⟩ = some (.int .i64 kd) := BEd.out.cell 1
            have q2 : wd.cell? ⟨gb, 2, none⟩ = some (.int .i64 n2) := BEd.out.cell 2
            have q3 : wd.cell? ⟨gb, 3, none⟩ = some (.int .i64 n3) := BEd.out.cell 3
            have q4 : wd.cell? ⟨gb, 4, none⟩ = some (.int .i64 n4) := BEd.out.cell 4
            have q5 : wd.cell? ⟨gb, 5, none⟩ = some (.bool false) := BEd.out.cell 5
            go_wp2_with (fail)
            refine (LX.out _).mono ?_
            rintro r w5 ⟨rfl, x5⟩
            have y5 := Ext.tr (a := wd) (by (repeat (first | assumption | exact Ext.rf _ | apply Ext.drew | apply Ext.drewN | apply Ext.alloc))) x5
            have BE := Lib.hid (BEd.out.ext y5)
            have BZ := Lib.hid (BZd.out.ext y5)
            have YL := Lib.hid (YLd.out.tr y5)
            clear BEd BZd YLd y5 x5 q0 q1 q2 q3 q4 q5
            have r0 : w5.cell? ⟨w.heap.size, 0, none⟩ = some (.int .i64 0) := BZ.out.cell 0
            have r1 : w5.cell? ⟨w.heap.size, 1, none⟩ = some (.int .i64 0) := BZ.out.cell 1
            have r2 : w5.cell? ⟨w.heap.size, 2, none⟩ = some (.int .i64 0) := BZ.out.cell 2
            have r3 : w5.cell? ⟨w.heap.size, 3, none⟩ = some (.int .i64 0) := BZ.out.cell 3
            have r4 : w5.cell? ⟨w.heap.size, 4, none⟩ = some (.int .i64 0) := BZ.out.cell 4
            have r5 : w5.cell? ⟨w.heap.size, 5, none⟩ = some (.bool false) := BZ.out.cell 5
            have f0 := BZ.out.free 0
            have f1 := BZ.out.free 1
            have f2 := BZ.out.free 2
            have f3 := BZ.out.free 3
            have f4 := BZ.out.free 4
            have f5 := BZ.out.free 5
            have q0 : w5.cell? ⟨gb, 0, none⟩ = some (.int .i64 wk) := BE.out.cell 0
            have q1 : w5.cell? ⟨gb, 1, none⟩ = some (.int .i64 kd) := BE.out.cell 1
            have q2 : w5.cell? ⟨gb, 2, none⟩ = some (.int .i64 n2) := BE.out.cell 2
            have q3 : w5.cell? ⟨gb, 3, none⟩ = some (.int .i64 n3) := BE.out.cell 3
            have q4 : w5.cell? ⟨gb, 4, none⟩ = some (.int .i64 n4) := BE.out.cell 4
            have q5 : w5.cell? ⟨gb, 5, none⟩ = some (.bool false) := BE.out.cell 5
            have BF := Lib.hid (ent_put BZ.out (.int .i64 wk) (.int .i64 kd) (.int .i64 n2) (.int .i64 n3) (.int .i64 n4) (.bool false))
            have YF : Hid (Ext w (ent6W w5 w.heap.size (.int .i64 wk) (.int .i64 kd) (.int .i64 n2) (.int .i64 n3) (.int .i64 n4) (.bool false))) := Lib.hid (YL.out.ent6 (Nat.le_refl _))
            unfold ent6W at BF YF
            go_wp2_with (fail)
            generalize ((((((w5.setCell ⟨w.heap.size, 0, none⟩ (.int .i64 wk)).setCell ⟨w.heap.size, 1, none⟩ (.int .i64 kd)).setCell ⟨w.heap.size, 2, none⟩ (.int .i64 n2)).setCell ⟨w.heap.size, 3, none⟩ (.int .i64 n3)).setCell ⟨w.heap.size, 4, none⟩ (.int .i64 n4)).setCell ⟨w.heap.size, 5, none⟩ (.bool false)) = wf at *
            clear r0 r1 r2 r3 r4 r5 f0 f1 f2 f3 f4 f5 q0 q1 q2 q3 q4 q5
            have r0 : wf.cell? ⟨w.heap.size, 0, none⟩ = some (.int .i64 wk) := BF.out.cell 0
            have r1 : wf.cell? ⟨w.heap.size, 1, none⟩ = some (.int .i64 kd) := BF.out.cell 1
            have r2 : wf.cell? ⟨w.heap.size, 2, none⟩ = some (.int .i64 n2) := BF.out.cell 2
            have r3 : wf.cell? ⟨w.heap.size, 3, none⟩ = some (.int .i64 n3) := BF.out.cell 3
            have r4 : wf.cell? ⟨w.heap.size, 4, none⟩ = some (.int .i64 n4) := BF.out.cell 4
            have r5 : wf.cell? ⟨w.heap.size, 5, none⟩ = some (.bool false) := BF.out.cell 5
            refine bodyPost_ret (v := .tuple #[.agg #[.int .i64 wk, .int .i64 kd, .int .i64 n2, .int .i64 n3, .int .i64 n4, .bool false], .bool true]) (by simp [results, Tryd.results22, go_sem, *]) rfl ⟨by rw [← hRV.out, ← hRB.out]; simp [entC], YF.out⟩
end Go.Proofs.YtcpadkaljnnieaaDoor
namespace Go.Proofs.YtcpadkaljnnieaaDoor
open Go.RowKit Go.ChangeShapes Go.WideShapes Go.ChangeAt Go.Deep

set_option maxRecDepth 100000 in
set_option maxHeartbeats 1000000 in
theorem traces_any (w : World) (hT : Ten w) :
    Calls Tryd.prog 8 #[] w fun e w' => e = .returned (.bool true) ∧ Ext w w' := by
  have TW := Lib.hid (fun (W : World) (x : Ext w W) (A : Option Addr) (c : Nat) (h : RdV W 50 A (entsL [exA])) => twrite_any A c [exA] W h (by decide) (fun e he => by rw [List.mem_singleton.1 he]; exact exA_in) (hT.ext x))
  rw [exA_write] at TW
  have TR := Lib.hid (fun (W : World) (x : Ext w W) => tread_any [exB] W (by decide) (fun e he => by rw [List.mem_singleton.1 he]; exact exB_in) (fun e he => by rw [List.mem_singleton.1 he]; decide) (hT.ext x))
  rw [exB_read, exB_lines] at TR
  unfold ReadTo at TR
  simp only [List.length_cons, List.length_nil, Nat.zero_add] at TR
  unfold txS at TW
  clear hT
  go_enter Tryd.func8, Tryd.ntmps8
  go_wp2_with (fail)
  refine (TW.out _ (by (repeat (first | assumption | exact Ext.rf _ | apply Ext.drew | apply Ext.drewN | apply Ext.alloc))) (some ⟨w.heap.size, 0, none⟩) 1 (RdV.blk (by (first | exact .new (by simp) | exact .drew (.new (by simp)) | exact .alloc (.new (by simp)) _ | exact .drew (.alloc (.new (by simp)) _) | exact .alloc (.alloc (.new (by simp)) _) _ | exact .drew (.alloc (.alloc (.new (by simp)) _) _) | (repeat (first | assumption | (refine Blk.new ?_; (focus (simp; done))) | apply Blk.drew | apply Blk.drewN | apply Blk.alloc)))))).mono ?_
  rintro r w2 ⟨rfl, x2⟩
  have y2 := Lib.hid (Ext.tr (a := w) (by (repeat (first | assumption | exact Ext.rf _ | apply Ext.drew | apply Ext.drewN | apply Ext.alloc))) x2)
  clear x2
  go_wp2_with (fail)
  refine (TR.out _ (y2.out.tr (by (repeat (first | assumption | exact Ext.rf _ | apply Ext.drew | apply Ext.drewN | apply Ext.alloc))))).mono ?_
  rintro r w3 ⟨A, c, rfl, o3, x3⟩
  have y3 := Lib.hid (Ext.tr (a := w) (y2.out.tr (by (repeat (first | assumption | exact Ext.rf _ | apply Ext.drew | apply Ext.drewN | apply Ext.alloc)))) x3)
  obtain ⟨b, off, e, rfl, hb, he, c0, c1, c2, c3, c4, c5⟩ := o3.read.ent (k := 0) (by decide)
  have hee : e = exB := by have := he.out; simpa using this.symm
  rw [hee] at c0 c1 c2 c3 c4 c5
  simp only [exB, Nat.zero_mul, Nat.add_zero] at c0 c1 c2 c3 c4 c5
  clear o3 x3 he hee
  go_wp2_with (fail)
  go_ret
  exact ⟨rfl, y3.out.tr (by (repeat (first | assumption | exact Ext.rf _ | apply Ext.drew | apply Ext.drewN | apply Ext.alloc)))⟩
def ToPost (l : List Ent) (w : World) (r : Ending) (w' : World) : Prop := ∃ (A : Option Addr) (c : Nat), r = .returned (.slice A l.length c) ∧ OwV w' w.heap.size 50 6 A l.length c (entsL l) ∧ Ext w w'
set_option maxRecDepth 100000 in
set_option maxHeartbeats 1000000 in
theorem to_any (A : Option Addr) (c : Nat) (l : List Ent) (w : World) (hA : RdV w 39 A (entsL l)) (hl : l.length ≤ 1000) :
    Calls Tryd.prog 6 #[.slice A l.length c] w (ToPost l w) := by
  obtain ⟨i0, hi, hz0, hz1, hz2⟩ := info_parts tent_info
  replace hi := Lib.hid hi
  replace hz0 := Lib.hid hz0
  replace hz1 := Lib.hid hz1
  replace hz2 := Lib.hid hz2
  have RA := Lib.hid (fun (W : World) (x : Ext w W) => hA.ext x)
  clear hA
  go_enter Tryd.func6, Tryd.ntmps6
  go_wp2_with (fail)
  go_loopw [3, 4] (fun ov iv wr => ∃ (k : Nat) (B : Option Addr) (d : Nat), ov = .slice B k d ∧ iv = .int .i64 k ∧ k ≤ l.length ∧ Hid (OwV wr w.heap.size 50 6 B k d (entsL (l.take k))) ∧ Hid (Ext w wr)) (fun _ iv _ => l.length - (intOf iv).toNat)
  case atStart => exact ⟨0, none, 0, rfl, rfl, by omega, Lib.hid (OwV.nil _ _ _ _), Lib.hid (by (repeat (first | assumption | exact Ext.rf _ | apply Ext.drew | apply Ext.drewN | apply Ext.alloc)))⟩
  case round =>
    obtain ⟨k, B, d, rfl, rfl, hk, HO, Y⟩ := hrel
    by_cases hlt : k < l.length
    · obtain ⟨b, off, e, rfl, hb, he, c0, c1, c2, c3, c4, c5⟩ := (RA.out _ Y.out).ent hlt
      have hTK : Hid (l.take (k + 1) = l.take k ++ [e]) := Lib.hid (by rw [List.take_add_one, he.out]; rfl)
      clear he
      go_wp2_with (at_builtin; refine wpl_app_v _ (e := 50) Tryd.underlying26 hi.out hz0.out hz1.out hz2.out (by simp [Value.cells]) (by omega) rfl _ _ rfl w.heap.size B k d (entsL (l.take k)) _ 1 1 (entL e) rfl rfl (HO.out.ext (by (repeat (first | assumption | exact Ext.rf _ | apply Ext.drew | apply Ext.drewN | apply Ext.alloc)))) (RdV.blk (by (first | exact .new (by simp) | exact .drew (.new (by simp)) | exact .alloc (.new (by simp)) _ | exact .drew (.alloc (.new (by simp)) _) | exact .alloc (.alloc (.new (by simp)) _) _ | exact .drew (.alloc (.alloc (.new (by simp)) _) _) | (repeat (first | assumption | (refine Blk.new ?_; (focus (simp; done))) | apply Blk.drew | apply Blk.drewN | apply Blk.alloc))))).rdC (by rfl) (by simp [Value.oneCell', entL]) (by simp only [maxLen]; omega) (by omega) (by have := Y.out.size; simp; omega) ?_; rintro A6 c6 w6 o6 g6 _)
      have M6 : ModT w.heap.size [50] wr w6 := (ModT.of_ext (by (repeat (first | assumption | exact Ext.rf _ | apply Ext.drew | apply Ext.drewN | apply Ext.alloc)))).tr ((HO.out.ext (by (repeat (first | assumption | exact Ext.rf _ | apply Ext.drew | apply Ext.drewN | apply Ext.alloc)))).grownT g6)
      have O6 : Hid (OwV w6 w.heap.size 50 6 A6 (k + 1) c6 (entsL (l.take (k + 1)))) := by rw [hTK.out, entsL_snoc]; exact Lib.hid o6
      have Y6 := Lib.hid (Y.out.modT M6 (Nat.le_refl _))
      clear M6 o6 g6 HO
      go_roundw
      case rel => exact ⟨k + 1, A6, c6, rfl, by go_num, by omega, O6, Y6⟩
      case measure => simp [intOf]; omega
    · obtain rfl : k = l.length := by omega
      have HO2 : Hid (OwV wr w.heap.size 50 6 B l.length d (entsL l)) := by have := HO.out; rw [List.take_length] at this; exact Lib.hid this
      clear HO
      go_wp2_with (fail)
      go_ret
      exact ⟨B, d, rfl, HO2.out, Y.out⟩
end Go.Proofs.YtcpadkaljnnieaaDoor
