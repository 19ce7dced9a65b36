/-
  The program's sets of numbers below 64: Next; All, one by one.
-/
import Derived.Test.YtpfdkocelmmllaaDoorSet
import Derived.Test.YtpfdkocelmmllaaDoorCore
import Derived.RangeFuncNested
import Derived.RangeFuncBound
import Derived.RangeFuncCalls
import Derived.RangeFuncLeaves
import Derived.RangeFuncBox
import Derived.Maps.AppendAt
import Derived.Shelf.Abstract
import Derived.Shelf.RegionOpen
import Derived.OwnWalkIn
import Derived.TacticsInMore
import Derived.LoopNIn
import Derived.LoopIn
namespace Go.Proofs.YtpfdkocelmmllaaDoor
open Go.RowKit Go.ChangeShapes Go.WideShapes Go.ChangeAt Go.Deep Go.Shelf
attribute [local go_sem] Oper.semAt_some

set_option maxRecDepth 100000 in
set_option maxHeartbeats 1000000 in
theorem next_any (m x : Nat) (hm : m < 18446744073709551616) (hx : x < 63) (w : World) (hT : Tab w) :
    Calls Tryd.prog 57 #[setV m, .int .i64 x] w fun e w' => e = .returned (.int .i64 (headI (memsM (andNotN m (2 ^ (x + 1) - 1))))) ∧ Ext w w' := by
  have FU : Hid (∀ W : World, Calls Tryd.prog 45 #[.int .i64 ((x : Int) + 1)] W fun e w' => e = .returned (setV (2 ^ (x + 1) - 1)) ∧ Ext W w') := fun W => by
    have h := full_any (x + 1) (by omega) W
    have e : ((x + 1 : Nat) : Int) = (x : Int) + 1 := by omega
    rw [e] at h
    exact h
  have hf : 2 ^ (x + 1) - 1 < 18446744073709551616 := by
    have : 2 ^ (x + 1) < 2 ^ 64 := Nat.pow_lt_pow_right (by omega) (by omega)
    omega
  have MI := Lib.hid (fun (W : World) => minus_any m (2 ^ (x + 1) - 1) hm hf W)
  have FI := Lib.hid (fun (W : World) (y : Ext w W) => first_any (andNotN m (2 ^ (x + 1) - 1)) (andNotN_lt _ _) W (hT.ext y))
  clear hT hf hm
  generalize headI (memsM (andNotN m (2 ^ (x + 1) - 1))) = r at *
  generalize andNotN m (2 ^ (x + 1) - 1) = z at *
  generalize 2 ^ (x + 1) - 1 = f at *
  unfold setV at *
  have hq1 : (if (x : Int) < -1 then (-1 : Int) else (x : Int)) = (x : Int) := if_neg (by omega)
  have hq2 : IntKind.i64.wrap ((x : Int) + 1) = (x : Int) + 1 := IntWalk.i64_in _ (by omega)
  have B1 : Blk (w.alloc (.cells #[.int .u64 m, .int .u64 0] 51)) w.heap.size 51 #[.int .u64 m, .int .u64 0] := .new rfl
  have X0 : Ext w (w.alloc (.cells #[.int .u64 m, .int .u64 0] 51)) := (Ext.rf w).alloc _
  go_enter Tryd.func57, Tryd.ntmps57
  go_upto_region 3 with (fail)
  generalize w.alloc (.cells #[.int .u64 m, .int .u64 0] 51) = w1 at *
  refine wp_region_any (by kernel_rfl) ?_
  change wpAny _ _ _ _ _ _ _ (World.drew _)
  refine wpAny_T (i := 1) (op := Op.move (Operand.tmp 1)) (t := 3) (d := some 8) (v := ?_) rfl (by decide +kernel) (by decide +kernel) (by decide +kernel) (fun _ _ _ h => h) ?_ ?_
  case refine_2 => (intro _; unfold exec2; go_simp; try with_reducible rfl)
  try simp only [Act.put, List.setIfInBounds_toArray, List.set_cons_zero, List.set_cons_succ]
  refine wpAny_T (i := 2) (op := Op.call { callee := Callee.builtin Builtin.max, args := #[Operand.tmp 8, Operand.const (Value.int IntKind.i64 (-1))], argTypes := #[3, 3] }) (t := 3) (d := some 9) (v := ?_) rfl (by decide +kernel) (by decide +kernel) (by decide +kernel) (fun _ _ _ h => h) ?_ ?_
  case refine_2 => (intro _; unfold exec2; go_simp; try with_reducible rfl)
  try simp only [Act.put, List.setIfInBounds_toArray, List.set_cons_zero, List.set_cons_succ]
  refine wpAny_T (i := 3) (op := Op.binOp BinOp.add 3 (Operand.tmp 9) (Operand.const (Value.int IntKind.i64 1)) 3) (t := 3) (d := some 10) (v := ?_) rfl (by decide +kernel) (by decide +kernel) (by decide +kernel) (fun _ _ _ h => h) ?_ ?_
  case refine_2 => (intro _; unfold exec2; go_simp; try with_reducible rfl)
  try simp only [Act.put, List.setIfInBounds_toArray, List.set_cons_zero, List.set_cons_succ]
  refine wpAny_core2 (n := 3) [(0, some 7), (4, some 11)] (Ext w1)
    (VF (fun | 0 => some (.agg #[.int .u64 m, .int .u64 0]) | 4 => some (.agg #[.int .u64 f, .int .u64 0]) | _ => none) (fun _ _ _ => True))
    Ext #[true, true, true, true, true, false, false, false] (by kernel_rfl) (VF.stab ?_) ?_ ?_ ((Ext.rf _).drew)
  · intro j v W W' _ h _
    exact h
  · intro pq hpm u W hRW hD K hK
    have c0 : W.cell? ⟨w.heap.size, 0, none⟩ = some (.int .u64 m) := (B1.ext hRW).cell 0
    have c1 : W.cell? ⟨w.heap.size, 1, none⟩ = some (.int .u64 0) := (B1.ext hRW).cell 1
    simp only [List.mem_cons, List.not_mem_nil, or_false] at hpm
    rcases hpm with rfl | rfl
    · exact op_ld (T := 51) rfl (.pointer (some ⟨w.heap.size, 0, none⟩)) (by kernel_rfl) (.agg #[.int .u64 m, .int .u64 0]) (by go_simp) (hK _ _ (VF.mk rfl) hRW (Ext.rf _))
    · refine op_call rfl #[.int .i64 ((x : Int) + 1)] (by go_simp) (by kernel_rfl) _ (FU.out W) ?_
      rintro e w3 ⟨rfl, x3⟩
      exact ⟨_, rfl, hK _ _ (VF.mk rfl) (hRW.tr x3) x3⟩
  · intro u W hRW hV
    have h0 := (hV (0, some 7) (by simp)).k rfl
    have h4 := (hV (4, some 11) (by simp)).k rfl
    simp only [putAll, h0, h4]
    have XW := X0.tr hRW
    try simp only [Act.put, List.setIfInBounds_toArray, List.set_cons_zero, List.set_cons_succ]
    refine wpAny_next 5 (by decide +kernel) (op_call (f := 62) (xs := #[Operand.tmp 7, Operand.tmp 11]) (ts := #[51, 51]) (t := 51) (d := some 12) rfl #[.agg #[.int .u64 m, .int .u64 0], .agg #[.int .u64 f, .int .u64 0]] (by go_simp) (by kernel_rfl) _ (MI.out W) ?_)
    rintro e w3 ⟨rfl, x3⟩
    refine ⟨_, rfl, ?_⟩
    try simp only [Act.put, List.setIfInBounds_toArray, List.set_cons_zero, List.set_cons_succ]
    refine wpAny_next 6 (by decide +kernel) (op_call (f := 56) (xs := #[Operand.tmp 12]) (ts := #[51]) (t := 3) (d := some 13) rfl #[.agg #[.int .u64 z, .int .u64 0]] (by go_simp) (by kernel_rfl) _ (FI.out w3 (XW.tr x3)) ?_)
    rintro e w4 ⟨rfl, x4⟩
    refine ⟨_, rfl, ?_⟩
    try simp only [Act.put, List.setIfInBounds_toArray, List.set_cons_zero, List.set_cons_succ]
    refine wpAny_T (i := 7) (op := Op.assign (Operand.tmp 13)) (t := 3) (d := some 4) (v := ?_) rfl (by decide +kernel) (by decide +kernel) (by decide +kernel) (fun _ _ _ h => h) ?_ ?_
    case refine_2 => (intro _; unfold exec2; go_simp; try with_reducible rfl)
    try simp only [Act.put, List.setIfInBounds_toArray, List.set_cons_zero, List.set_cons_succ]
    refine wpAny_done (by kernel_rfl) ?_ _
    have X4 := Lib.hid ((XW.tr x3).tr x4)
    clear XW x3 x4 hRW hV h0 h4
    go_simp
    go_wp2_with (fail)
    go_ret
    exact ⟨rfl, X4.out⟩
set_option maxRecDepth 100000 in
theorem all_any (m : Nat) (w : World) : Calls Tryd.prog 49 #[setV m] w fun e w' => e = .returned (.func (.func 55) #[] #[.pointer (some ⟨w.heap.size, 0, none⟩)]) ∧ w' = w.alloc (.cells #[.int .u64 m, .int .u64 0] 51) := by
  unfold setV
  go_enter Tryd.func49, Tryd.ntmps49
  go_wp2_with (fail)
  go_ret
  exact ⟨rfl, rfl⟩
/-- one of a set -/
abbrev In (m : Nat) : Type := { x : Nat // x ∈ memsM m }
theorem In.lt {m : Nat} (x : In m) : x.1 < 64 := (memsM_mem.1 x.2).1
/-- what a round keeps: what lay ahead, and the set itself -/
def SetKp (n₀ Bn : Nat) (W W' : World) : Prop := Below n₀ W W' ∧ W'.heap[Bn]? = W.heap[Bn]?
theorem SetKp.tr {n₀ Bn : Nat} {A B C : World} (h : SetKp n₀ Bn A B) (k : SetKp n₀ Bn B C) : SetKp n₀ Bn A C := ⟨h.1.trans k.1, k.2.trans h.2⟩
theorem grown_of_ext {W W' : World} (x : Ext W W') : W.grownBy W' none := ⟨x.os, x.tape, x.output, x.size, fun k hk _ => x.block k hk⟩
theorem headI_cons (x : Nat) (l : List Nat) : headI (x :: l) = (x : Int) := rfl
set_option maxRecDepth 100000 in
set_option maxHeartbeats 2000000 in
theorem all1_in (n : Nat) (m : Nat) (hm : m < 18446744073709551616) (l Bn n₀ : Nat) (J Jx : List (In m) → World → Prop) (W : World) (hJ : AbidesFrom W.heap.size J)
    (hY : ∀ pre x W1, J pre W1 → pre.length < (memsM m).length → YieldAt Fence.wide (n - 1) Tryd.prog l #[.int .i64 ((x : In m).1 : Nat)] W1 fun e W' =>
      (e = .returned (.bool true) ∧ J (pre ++ [x]) W' ∧ SetKp n₀ Bn W1 W') ∨ (e = .returned (.bool false) ∧ Jx (pre ++ [x]) W'))
    (hB : Blk W Bn 51 #[.int .u64 m, .int .u64 0]) (hT : Tab W) (hT0 : ∀ j, j < Lib.deBruijn64tab.length → 0 < n₀) (hn₀ : n₀ ≤ W.heap.size) (h0 : J [] W) (h63 : ∀ x ∈ memsM m, x < 63) :
    CallsIn Fence.wide n Tryd.prog 55 #[.func (.yield l) #[] #[], .pointer (some ⟨Bn, 0, none⟩)] W fun e W' => (∃ v, e = .returned v) ∧
      ((∃ ys, ys = (memsM m).attach ∧ J ys W') ∨ (∃ pre, pre <+: (memsM m).attach ∧ Jx pre W')) := by
  have key : ∀ (W1 : World), Below n₀ W W1 → Tab W1 := fun W1 hb j hj => by
    rw [hb.cell (p := ⟨0, j, none⟩) (hT0 j hj)]
    exact hT j hj
  refine callsIn_of_wp Tryd.func55 rfl trivial ?_ rfl
  simp only [Tryd.ntmps55, List.size_toArray, List.length_cons, List.length_nil, Nat.reduceAdd, Nat.reduceSub, Array.replicate_succ, Array.replicate_zero, List.push_toArray, List.append_toArray, List.nil_append, List.cons_append]
  have c0 : W.cell? ⟨Bn, 0, none⟩ = some (.int .u64 m) := hB.cell 0
  have c1 : W.cell? ⟨Bn, 1, none⟩ = some (.int .u64 0) := hB.cell 1
  have FI := Lib.hid (first_any m hm W hT)
  unfold setV at FI
  gi_wp2
  refine ⟨trivial, fun h => (by cases h), ?_⟩
  refine (callsIn_wide.2 FI.out).mono ?_
  rintro e w1 ⟨rfl, x1⟩
  have h1 : J [] w1 := hJ [] W w1 none h0 (grown_of_ext x1) (fun r h => by cases h)
  have b1 := hB.ext x1
  have k1 : Below n₀ W w1 := x1.mono hn₀
  gi_wp2
  gi_loopw [3] (fun p wr => ∃ (pre rest : List (In m)), p = .int .i64 (headI (rest.map (·.1))) ∧ Hid ((memsM m).attach = pre ++ rest) ∧ Hid (J pre wr) ∧ Hid (Blk wr Bn 51 #[.int .u64 m, .int .u64 0]) ∧ Hid (Below n₀ W wr) ∧ Hid (W.heap.size ≤ wr.heap.size)) (fun p _ => ((65 - intOf p) % 66).toNat)
  case atStart => exact ⟨[], (memsM m).attach, by rw [List.attach_map_subtype_val], rfl, h1, b1, k1, x1.size⟩
  case round =>
    obtain ⟨pre, rest, rfl, hx, hJ1, hB1, hk, hz⟩ := hrel
    have hval : memsM m = (pre ++ rest).map (·.1) := by rw [← hx.out, List.attach_map_subtype_val]
    cases rest with
    | nil =>
      gi_wp2
      go_end0
      exact ⟨⟨_, rfl⟩, .inl ⟨pre, by rw [hx.out, List.append_nil], hJ1.out⟩⟩
    | cons x rest =>
      have hlen : pre.length < (memsM m).length := by rw [hval]; simp
      obtain ⟨fn, tmps, assign, body, hy, hR⟩ := hY pre x wr hJ1.out hlen
      have hx64 := h63 x.1 x.2
      have hnx : memsM m = pre.map (·.1) ++ x.1 :: rest.map (·.1) := hval.trans (by simp)
      have NX := fun (V : World) (hT' : Tab V) => next_any m x.1 hm hx64 V hT'
      rw [memsM_next hm hnx] at NX
      have hpre : pre ++ [x] <+: (memsM m).attach := ⟨rest, by rw [hx.out]; simp⟩
      have hx2 : Hid ((memsM m).attach = (pre ++ [x]) ++ rest) := by
        have h : (memsM m).attach = (pre ++ [x]) ++ rest := by rw [hx.out]; simp
        exact h
      have hsort := memsM_sorted m
      rw [hnx] at hsort
      have hlt : ∀ y ∈ rest.map (·.1), x.1 < y := (List.pairwise_cons.1 (List.pairwise_append.1 hsort).2.1).1
      obtain ⟨nx, hnxt⟩ : ∃ nx, Hid (headI (rest.map (·.1)) = nx) := ⟨_, rfl⟩
      have hms : nx = -1 ∨ ((x.1 : Int) < nx ∧ nx ≤ 63) := by
        rw [← hnxt.out]
        cases rest with
        | nil => left; rfl
        | cons y l => right; have h1 := hlt y.1 (by simp); have h2 := y.lt; simp only [List.map_cons, headI_cons]; omega
      rw [hnxt.out] at NX
      replace NX := Lib.hid NX
      unfold setV at NX
      simp only [List.map_cons, headI_cons]
      replace hpre := Lib.hid hpre
      clear hval hnx hsort hlt hlen
      have B1' := hB1.out
      gi_wp2
      refine ⟨fun h => (by cases h), ?_⟩
      refine hR.mono ?_
      rintro e W3 (⟨rfl, hJ3, hk3⟩ | ⟨rfl, hJx3⟩)
      · have b3 : Blk W3 Bn 51 #[.int .u64 m, .int .u64 0] := hk3.2.trans B1'
        have kb3 := hk.out.trans hk3.1
        have c0' : W3.cell? ⟨Bn, 0, none⟩ = some (.int .u64 m) := b3.cell 0
        have c1' : W3.cell? ⟨Bn, 1, none⟩ = some (.int .u64 0) := b3.cell 1
        have NX3 := Lib.hid (NX.out W3 (key W3 kb3))
        gi_wp2
        refine ⟨trivial, fun h => (by cases h), ?_⟩
        refine (callsIn_wide.2 NX3.out).mono ?_
        rintro e w4 ⟨rfl, x4⟩
        have z3 := hk3.1.size
        have hJ4 := hJ (pre ++ [x]) W3 w4 none hJ3 (grown_of_ext x4) (fun r h => by cases h)
        gi_wp2
        go_roundw
        case rel => exact ⟨pre ++ [x], rest, by rw [hnxt.out], hx2, hJ4, b3.ext x4, kb3.trans (x4.mono (by have := hz.out; omega)), by have := hz.out; have := x4.size; exact (by omega : W.heap.size ≤ w4.heap.size)⟩
        case measure =>
          simp only [intOf]
          have q1 := hms
          have q2 := hx64
          omega
      · gi_wp2
        refine bodyPost_ret (results_none rfl _ _ _) rfl ?_
        exact ⟨⟨_, rfl⟩, .inr ⟨pre ++ [x], hpre.out, hJx3⟩⟩
theorem tab_low {w : World} (h : Tab w) : 0 < w.heap.size := World.block_lt_of_cell? w _ (h 0 (by decide))
/-- All's value gives the set's numbers, one by one, rising -/
theorem all_stops (n : Nat) (m : Nat) (hm : m < 18446744073709551616) (h63 : ∀ x ∈ memsM m, x < 63) (Bn n₀ : Nat) (w : World) (hB : Blk w Bn 51 #[.int .u64 m, .int .u64 0]) (hT : Tab w) (hn₀ : n₀ ≤ w.heap.size) (hg : 0 < n₀) :
    SeqStopsK Fence.wide n Tryd.prog 55 #[.pointer (some ⟨Bn, 0, none⟩)] (fun x : In m => #[Value.int .i64 ((x.1 : Nat) : Int)]) (SetKp n₀ Bn) (fun ys => ys = (memsM m).attach) (fun pre => pre <+: (memsM m).attach) (memsM m).length w := fun l J Jx W hW hJ _ hY h0 =>
  all1_in n m hm l Bn n₀ J Jx W hJ hY (hB.ext hW) (hT.ext hW) (fun _ _ => hg) (Nat.le_trans hn₀ hW.size) h0 h63
theorem setKp_b {n₀ Bn : Nat} {w : World} {cs : Array Value} (hn : n₀ ≤ w.heap.size) (hB : Blk w Bn 51 cs) (W : World) (l : Nat) (o o' : Obj) (hl : w.heap.size ≤ l) (h : W.heap[l]? = some o) (h1 : o.isCells = false) (h2 : o.isWalk = false) : SetKp n₀ Bn W (W.putObj l o') :=
  ⟨belowK_b hn W l o o' hl h h1 h2, World.putObj_heap_other (by have := hB.lt; omega)⟩
end Go.Proofs.YtpfdkocelmmllaaDoor
