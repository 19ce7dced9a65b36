/-
  The program's shape of a problem, and Check whole.
-/
import Derived.Test.YtpfdkocelmmllaaDoorFuncs
namespace Go.Proofs.YtpfdkocelmmllaaDoor
open Go.RowKit Go.ChangeShapes Go.WideShapes Go.ChangeAt Go.Deep

/-- lists of the right lengths -/
def shapeP (i : InstP) : Bool :=
  if i.kind = 1 then ((i.weight.length : Int) == i.n) && ((i.value.length : Int) == i.n) && ((i.cost.length : Int) == 0)
  else (((i.cost.length : Int) == i.n) && (i.cap == 0) && decide (i.weight.length + i.value.length = 0)) && !(i.cost.any fun r => (r.length : Int) != i.n)
/-- in form? -/
def checkP (i : InstP) : Int :=
  if sizeP i.kind i.n = 0 then (if shapeP i = true then (if i.kind = 1 then itemsP i.cap i.weight i.value i.weight.length else rowsE i.kind 0 i.cost) else 8) else sizeP i.kind i.n
set_option maxRecDepth 100000 in
set_option maxHeartbeats 4000000 in
theorem shape1_any (n cap : Int) (A B C : Option Addr) (a b c : Nat) (xs ys : List Int) (l : List (List Int)) (w : World) :
    Calls Tryd.prog 42 #[.agg #[.int .i64 1, .int .i64 n, .int .i64 cap, .slice A xs.length a, .slice B ys.length b, .slice C l.length c]] w fun e w' => e = .returned (.bool (((xs.length : Int) == n) && ((ys.length : Int) == n) && ((l.length : Int) == 0))) ∧ Ext w w' := by
  cases h1 : ((xs.length : Int) == n)
  · go_enter Tryd.func42, Tryd.ntmps42
    go_wp2
    go_ret
    exact ⟨rfl, by (repeat (first | assumption | exact Ext.rf _ | apply Ext.drew | apply Ext.drewN | apply Ext.alloc))⟩
  · cases h2 : ((ys.length : Int) == n)
    · go_enter Tryd.func42, Tryd.ntmps42
      go_wp2
      go_ret
      exact ⟨rfl, by (repeat (first | assumption | exact Ext.rf _ | apply Ext.drew | apply Ext.drewN | apply Ext.alloc))⟩
    · cases h3 : ((l.length : Int) == 0)
      · go_enter Tryd.func42, Tryd.ntmps42
        go_wp2
        go_ret
        exact ⟨rfl, by (repeat (first | assumption | exact Ext.rf _ | apply Ext.drew | apply Ext.drewN | apply Ext.alloc))⟩
      · go_enter Tryd.func42, Tryd.ntmps42
        go_wp2
        go_ret
        exact ⟨rfl, by (repeat (first | assumption | exact Ext.rf _ | apply Ext.drew | apply Ext.drewN | apply Ext.alloc))⟩
set_option maxRecDepth 100000 in
set_option maxHeartbeats 4000000 in
theorem shape0_any (k n cap : Int) (A B C : Option Addr) (a b c : Nat) (xs ys : List Int) (l : List (List Int)) (w : World) (hk : k ≠ 1) (hC : RdE 1 RInts w C l) (lc : l.length ≤ c) (mc : c ≤ maxLen) (lx : xs.length ≤ 1000000000) (ly : ys.length ≤ 1000000000) :
    Calls Tryd.prog 42 #[.agg #[.int .i64 k, .int .i64 n, .int .i64 cap, .slice A xs.length a, .slice B ys.length b, .slice C l.length c]] w fun e w' => e = .returned (.bool ((((l.length : Int) == n) && (cap == 0) && decide (xs.length + ys.length = 0)) && !(l.any fun r => (r.length : Int) != n))) ∧ Ext w w' := by
  have B1 : Hid (Blk (w.alloc (.cells #[.int .i64 k, .int .i64 n, .int .i64 cap, .slice A xs.length a, .slice B ys.length b, .slice C l.length c] 25)) w.heap.size 25 #[.int .i64 k, .int .i64 n, .int .i64 cap, .slice A xs.length a, .slice B ys.length b, .slice C l.length c]) := .new rfl
  have hk' : (k == 1) = false := by simpa using hk
  have lm : l.length ≤ maxLen := by omega
  replace hC := Lib.hid hC
  replace mc := Lib.hid mc
  replace lm := Lib.hid lm
  clear hk
  cases h1 : ((l.length : Int) == n)
  · have h1' : ((l.length : Int) != n) = true := by simp only [bne, h1]; rfl
    go_enter Tryd.func42, Tryd.ntmps42
    go_wp2
    go_ret
    exact ⟨rfl, by (repeat (first | assumption | exact Ext.rf _ | apply Ext.drew | apply Ext.drewN | apply Ext.alloc))⟩
  · have h1' : ((l.length : Int) != n) = false := by simp only [bne, h1]; rfl
    cases h2 : (cap == 0)
    · have h2' : (cap != 0) = true := by simp only [bne, h2]; rfl
      go_enter Tryd.func42, Tryd.ntmps42
      go_wp2
      go_ret
      exact ⟨rfl, by (repeat (first | assumption | exact Ext.rf _ | apply Ext.drew | apply Ext.drewN | apply Ext.alloc))⟩
    · have h2' : (cap != 0) = false := by simp only [bne, h2]; rfl
      by_cases hs : xs.length + ys.length = 0
      · have hs1 : decide (xs.length + ys.length = 0) = true := by simpa using hs
        rw [hs1]
        have l0 : xs.length = 0 := by omega
        have l1 : ys.length = 0 := by omega
        rw [l0, l1] at B1 ⊢
        clear hs hs1 l0 l1 lx ly
        go_enter Tryd.func42, Tryd.ntmps42
        go_wp2_with (fail)
        refine (has_rows _ _ (fun m => (m : Int) != n) lens_enters C c l _ (hC.out.ext ((Ext.rf _).alloc _) fun _ _ h => h.ext ((Ext.rf _).alloc _)) lm.out ?_).mono ?_
        · intro W D r d _ hx
          exact lens_any D r.length d w.heap.size n _ W (B1.out.ext hx) rfl
        rintro e w' ⟨rfl, x'⟩
        go_wp2
        go_ret
        exact ⟨by simp, Ext.tr (a := w) (by (repeat (first | assumption | exact Ext.rf _ | apply Ext.drew | apply Ext.drewN | apply Ext.alloc))) x'⟩
      · have hs1 : decide (xs.length + ys.length = 0) = false := by simpa using hs
        rw [hs1]
        have hs2 : (0 : Int) < (xs.length : Int) + (ys.length : Int) := by omega
        clear hs hs1
        go_enter Tryd.func42, Tryd.ntmps42
        go_wp2
        go_ret
        exact ⟨rfl, by (repeat (first | assumption | exact Ext.rf _ | apply Ext.drew | apply Ext.drewN | apply Ext.alloc))⟩
theorem sizeP_kind {k n : Int} (h : sizeP k n = 0) : k = 1 ∨ k = 2 ∨ k = 3 := by
  unfold sizeP at h
  split at h
  · exact .inl ‹_›
  · split at h
    · exact .inr (.inl ‹_›)
    · split at h
      · exact .inr (.inr ‹_›)
      · cases h
set_option maxRecDepth 100000 in
set_option maxHeartbeats 4000000 in
theorem check_any (i : InstP) (vs : List Value) (w : World) (H : RInst w vs i) (lw : i.weight.length ≤ 1000000000) (lv : i.value.length ≤ 1000000000) :
    Calls Tryd.prog 28 #[.agg (List.toArray vs)] w fun e w' => e = .returned (.int .i64 (checkP i)) ∧ Ext w w' := by
  obtain ⟨k, n, cap, xs, ys, l⟩ := i
  obtain ⟨A, a, B, b, C, c, rfl, ⟨rA, iA, lA, mA⟩, ⟨rB, iB, lB, mB⟩, ⟨rC, lC, mC⟩⟩ := H
  simp only at *
  have B1 : Hid (Blk (w.alloc (.cells #[.int .i64 k, .int .i64 n, .int .i64 cap, .slice A xs.length a, .slice B ys.length b, .slice C l.length c] 25)) w.heap.size 25 #[.int .i64 k, .int .i64 n, .int .i64 cap, .slice A xs.length a, .slice B ys.length b, .slice C l.length c]) := .new rfl
  replace rA := Lib.hid rA
  replace rB := Lib.hid rB
  replace rC := Lib.hid rC
  replace iA := Lib.hid iA
  replace iB := Lib.hid iB
  replace mA := Lib.hid mA
  replace mB := Lib.hid mB
  replace mC := Lib.hid mC
  have X1 : Ext w (w.alloc (.cells #[.int .i64 k, .int .i64 n, .int .i64 cap, .slice A xs.length a, .slice B ys.length b, .slice C l.length c] 25)) := (Ext.rf _).alloc _
  replace X1 := Lib.hid X1
  go_enter Tryd.func28, Tryd.ntmps28
  go_wp2_with (fail)
  refine (size_any k n cap _ _ _ _).mono ?_
  rintro e w2 ⟨rfl, x2⟩
  have X2 := Lib.hid (Ext.tr X1.out x2)
  have B2 := Lib.hid (B1.out.ext x2)
  have d0 : w2.cell? ⟨w.heap.size, 0, none⟩ = some (.int .i64 k) := B2.out.cell 0
  have d1 : w2.cell? ⟨w.heap.size, 1, none⟩ = some (.int .i64 n) := B2.out.cell 1
  have d2 : w2.cell? ⟨w.heap.size, 2, none⟩ = some (.int .i64 cap) := B2.out.cell 2
  have d3 : w2.cell? ⟨w.heap.size, 3, none⟩ = some (.slice A xs.length a) := B2.out.cell 3
  have d4 : w2.cell? ⟨w.heap.size, 4, none⟩ = some (.slice B ys.length b) := B2.out.cell 4
  have d5 : w2.cell? ⟨w.heap.size, 5, none⟩ = some (.slice C l.length c) := B2.out.cell 5
  by_cases hs : sizeP k n = 0
  · have hs' : (sizeP k n != 0) = false := by simpa using hs
    have qHS : checkP ⟨k, n, cap, xs, ys, l⟩ = (if shapeP ⟨k, n, cap, xs, ys, l⟩ = true then (if k = 1 then itemsP cap xs ys xs.length else rowsE k 0 l) else 8) := by
      unfold checkP
      simp only [if_pos hs]
    have HS := Lib.hid qHS
    clear qHS
    have kk := sizeP_kind hs
    replace hs := Lib.hid hs
    clear x2
    by_cases k1 : k = 1
    · subst k1
      have qHS2 : checkP ⟨1, n, cap, xs, ys, l⟩ = (if (((xs.length : Int) == n) && ((ys.length : Int) == n) && ((l.length : Int) == 0)) = true then itemsP cap xs ys xs.length else 8) := by
        have h1 := HS.out
        unfold shapeP at h1
        simpa only [if_true] using h1
      have HS2 := Lib.hid qHS2
      clear qHS2
      clear HS
      go_wp2_with (fail)
      refine (shape1_any n cap A B C a b c xs ys l _).mono ?_
      rintro e w3 ⟨rfl, x3⟩
      have X3 := Lib.hid (Ext.tr X2.out x3)
      have B3 := Lib.hid (B2.out.ext x3)
      have e0 : w3.cell? ⟨w.heap.size, 0, none⟩ = some (.int .i64 1) := B3.out.cell 0
      have e1 : w3.cell? ⟨w.heap.size, 1, none⟩ = some (.int .i64 n) := B3.out.cell 1
      have e2 : w3.cell? ⟨w.heap.size, 2, none⟩ = some (.int .i64 cap) := B3.out.cell 2
      have e3 : w3.cell? ⟨w.heap.size, 3, none⟩ = some (.slice A xs.length a) := B3.out.cell 3
      have e4 : w3.cell? ⟨w.heap.size, 4, none⟩ = some (.slice B ys.length b) := B3.out.cell 4
      have e5 : w3.cell? ⟨w.heap.size, 5, none⟩ = some (.slice C l.length c) := B3.out.cell 5
      clear d0 d1 d2 d3 d4 d5 x3 kk
      cases hh : (((xs.length : Int) == n) && ((ys.length : Int) == n) && ((l.length : Int) == 0)) with
      | false =>
        have qHC : checkP ⟨1, n, cap, xs, ys, l⟩ = 8 := by
          have h1 := HS2.out
          rw [hh, if_neg (by decide)] at h1
          exact h1
        have HC := Lib.hid qHC
        clear qHC
        clear hh
        go_wp2
        go_ret
        exact ⟨ret_i HC.out.symm, X3.out⟩
      | true =>
        have qHC : checkP ⟨1, n, cap, xs, ys, l⟩ = itemsP cap xs ys xs.length := by
          have h1 := HS2.out
          rw [hh, if_pos rfl] at h1
          exact h1
        have HC := Lib.hid qHC
        clear qHC
        simp only [Bool.and_eq_true, beq_iff_eq] at hh
        obtain ⟨⟨rfl, hy⟩, hz⟩ := hh
        clear HS2
        have hyx : Hid (xs.length = ys.length) := by have : xs.length = ys.length := by omega
                                                     exact this
        clear hy hz
        go_wp2_with (fail)
        refine (items_any A B a b 1 cap xs ys _ _ (rA.out.ext X3.out) (rB.out.ext X3.out) lA mA.out lB mB.out hyx.out).mono ?_
        rintro e w4 ⟨rfl, x4⟩
        go_wp2
        go_ret
        exact ⟨ret_i HC.out.symm, Ext.tr X3.out x4⟩
    · have k1' : (k == 1) = false := by simpa using k1
      have qHS2 : checkP ⟨k, n, cap, xs, ys, l⟩ = (if ((((l.length : Int) == n) && (cap == 0) && decide (xs.length + ys.length = 0)) && !(l.any fun r => (r.length : Int) != n)) = true then rowsE k 0 l else 8) := by
        have h1 := HS.out
        unfold shapeP at h1
        simpa only [if_neg k1] using h1
      have HS2 := Lib.hid qHS2
      clear qHS2
      clear HS
      go_wp2_with (fail)
      refine (shape0_any k n cap A B C a b c xs ys l _ k1 (rC.out.ext X2.out fun _ _ h => h.ext X2.out) lC mC.out lw lv).mono ?_
      rintro e w3 ⟨rfl, x3⟩
      have X3 := Lib.hid (Ext.tr X2.out x3)
      have B3 := Lib.hid (B2.out.ext x3)
      have e0 : w3.cell? ⟨w.heap.size, 0, none⟩ = some (.int .i64 k) := B3.out.cell 0
      have e1 : w3.cell? ⟨w.heap.size, 1, none⟩ = some (.int .i64 n) := B3.out.cell 1
      have e2 : w3.cell? ⟨w.heap.size, 2, none⟩ = some (.int .i64 cap) := B3.out.cell 2
      have e3 : w3.cell? ⟨w.heap.size, 3, none⟩ = some (.slice A xs.length a) := B3.out.cell 3
      have e4 : w3.cell? ⟨w.heap.size, 4, none⟩ = some (.slice B ys.length b) := B3.out.cell 4
      have e5 : w3.cell? ⟨w.heap.size, 5, none⟩ = some (.slice C l.length c) := B3.out.cell 5
      clear d0 d1 d2 d3 d4 d5 x3 kk k1
      generalize ((((l.length : Int) == n) && (cap == 0) && decide (xs.length + ys.length = 0)) && !(l.any fun r => (r.length : Int) != n)) = hh at HS2 ⊢
      cases hh with
      | false =>
        have HC : Hid (checkP ⟨k, n, cap, xs, ys, l⟩ = 8) := HS2.out
        clear HS2
        go_wp2
        go_ret
        exact ⟨ret_i HC.out.symm, X3.out⟩
      | true =>
        have HC : Hid (checkP ⟨k, n, cap, xs, ys, l⟩ = rowsE k 0 l) := HS2.out
        clear HS2
        go_wp2_with (fail)
        refine (rows_any k n cap _ _ C c l _ (rC.out.ext X3.out fun _ _ h => h.ext X3.out) lC mC.out).mono ?_
        rintro e w4 ⟨rfl, x4⟩
        go_wp2
        go_ret
        exact ⟨ret_i HC.out.symm, Ext.tr X3.out x4⟩
  · have hs' : (sizeP k n != 0) = true := by simpa using hs
    have qHC : checkP ⟨k, n, cap, xs, ys, l⟩ = sizeP k n := by
      unfold checkP
      simp only [if_neg hs]
    have HC := Lib.hid qHC
    clear qHC
    clear hs
    go_wp2
    go_ret
    exact ⟨ret_i HC.out.symm, X2.out⟩
end Go.Proofs.YtpfdkocelmmllaaDoor
