/-
  The document's Same of items, the law package's from and same.
-/
import Derived.Test.YthmjeajfchpdoaaRefC
namespace Go.Proofs.Ythmjeajfchpdoaa
open Go.RowKit Go.ChangeShapes Go.WideShapes Go.ChangeAt

theorem eqIt_cons (x y : It) (xs ys : List It) : decide (x :: xs = y :: ys) = (decide (x = y) && decide (xs = ys)) := by
  rw [Bool.eq_iff_iff]; simp
theorem eql_ritem (a b c d : Int) (u : World) : (binOp .eql 73 (.agg #[.int .i64 a, .int .i64 b]) (.agg #[.int .i64 c, .int .i64 d])).run Try.prog u = .ok (.bool (a == c && b == d)) u := by
  by_cases h1 : a = c <;> by_cases h2 : b = d <;> go_simp
theorem neq_ritem (a b c d : Int) (u : World) : (binOp .neq 73 (.agg #[.int .i64 a, .int .i64 b]) (.agg #[.int .i64 c, .int .i64 d])).run Try.prog u = .ok (.bool (!(a == c && b == d))) u := by
  by_cases h1 : a = c <;> by_cases h2 : b = d <;> go_simp
theorem RdV.item {w : World} {E : TypeId} {A : Option Addr} {l : List It} (h : RdV w E A (flat l)) {k : Nat} (hk : k < l.length) :
    ∃ b off p, A = some ⟨b, off, none⟩ ∧ b < w.heap.size ∧ w.cell? ⟨b, off + k * 2, none⟩ = some (.int .i64 p.1) ∧ w.cell? ⟨b, off + k * 2 + 1, none⟩ = some (.int .i64 p.2) ∧ Hid (l[k]? = some p) ∧ Hid (l.drop k = p :: l.drop (k + 1)) := by
  have e : l[k]? = some l[k] := List.getElem?_eq_getElem hk
  obtain ⟨b, off, rfl, hb, hc⟩ := h.form (flat_ne (by omega))
  obtain ⟨h1, h2⟩ := flat_get e
  exact ⟨b, off, l[k], rfl, hb, hc _ _ h1, by rw [Nat.add_assoc]; exact hc _ _ h2, e, List.drop_eq_getElem_cons hk⟩
set_option maxRecDepth 100000 in
theorem rsame_any (A B : Option Addr) (c d : Nat) (l m : List It) (w : World) (hx : RdV w 73 A (flat l)) (hy : RdV w 73 B (flat m)) (lx : l.length ≤ 2 ^ 40) (ly : m.length ≤ 2 ^ 40) :
    Calls Try.prog 69 #[.slice A l.length c, .slice B m.length d] w fun e w' => e = .returned (.bool (decide (l = m))) ∧ Ext w w' := by
  by_cases hl : l.length = m.length
  · have hb : ((l.length : Int) != (m.length : Int)) = false := by simp [hl]
    have hl := Lib.hid hl
    go_enter Try.func69, Try.ntmps69
    go_wp2_with fail
    go_loopw [5] (fun i wr => ∃ k : Nat, k ≤ l.length ∧ i = .int .i64 k ∧ Hid (decide (l = m) = decide (l.drop k = m.drop k)) ∧ Ext w wr) (fun i _ => l.length - (intOf i).toNat)
    case atStart => exact ⟨0, by omega, rfl, by exact rfl, Ext.rf _⟩
    case round =>
      obtain ⟨k, hk1, rfl, hH, he⟩ := hrel
      by_cases h1 : k < l.length
      · have h2 : k < m.length := by have := hl.out; omega
        obtain ⟨b, off, x, rfl, _, a1, a2, _, hd1⟩ := (hx.ext he).item h1
        obtain ⟨b', off', y, rfl, _, b1, b2, _, hd2⟩ := (hy.ext he).item h2
        by_cases h3 : x = y
        · subst h3
          go_wp2_with (go_quiet (fail))
          go_roundw
          case rel => exact ⟨k + 1, by omega, by go_num, by rw [hH.out, hd1.out, hd2.out, eqIt_cons, decide_eq_true rfl, Bool.true_and]; exact rfl, by repeat (first | exact he | apply Ext.drewN)⟩
          case measure => simp [intOf]; omega
        · obtain ⟨x1, x2⟩ := x
          obtain ⟨y1, y2⟩ := y
          have hend := Lib.hid (show decide (l = m) = false by rw [hH.out, hd1.out, hd2.out, eqIt_cons]; simp [h3])
          by_cases e1 : x1 = y1
          · subst e1
            have e2 : ¬ x2 = y2 := fun e => h3 (by rw [e])
            clear hd1 hd2 h3
            go_wp2_with (go_quiet (fail))
            go_ret
            exact ⟨ret_b hend.out.symm, by repeat (first | exact he | apply Ext.drewN)⟩
          · clear hd1 hd2 h3
            go_wp2_with (go_quiet (fail))
            go_ret
            exact ⟨ret_b hend.out.symm, by repeat (first | exact he | apply Ext.drewN)⟩
      · have hd1 := drop_nil (xs := l) (k := k) (by omega)
        have hd2 := drop_nil (xs := m) (k := k) (by have := hl.out; omega)
        go_wp2
        go_ret
        exact ⟨ret_b (by rw [hH.out, hd1.out, hd2.out]; rfl), he⟩
  · have hne : l ≠ m := fun e => hl (by rw [e])
    have hb : ((l.length : Int) != (m.length : Int)) = true := by rw [bne_iff_ne]; omega
    clear hl
    go_enter Try.func69, Try.ntmps69
    go_wp2
    go_ret
    exact ⟨ret_b (by simp [hne]), Ext.rf _⟩

def FromPost (l : List It) (w : World) (e : Ending) (w' : World) : Prop := ∃ A c, e = .returned (.slice A l.length c) ∧ RdV w' 73 A (flat l) ∧ Ext w w'
theorem flat_take_succ {l : List It} {k : Nat} {p : It} (h : l[k]? = some p) : flat (l.take (k + 1)) = flat (l.take k) ++ [.int .i64 p.1, .int .i64 p.2] := by
  obtain ⟨h1, h2⟩ := List.getElem?_eq_some_iff.1 h
  rw [List.take_succ_eq_append_getElem h1, h2, flat_append]
  rfl
set_option maxRecDepth 100000 in
set_option maxHeartbeats 1000000 in
theorem from_any (A : Option Addr) (c : Nat) (l : List It) (w : World) (hx : RdV w 61 A (flat l)) (lx : l.length ≤ 2 ^ 40) :
    Calls Try.prog 70 #[.slice A l.length c] w (FromPost l w) := by
  obtain ⟨i0, hi, hz0, hz1, hz2⟩ := info_parts ritem_info
  replace hi := Lib.hid hi
  replace hz0 := Lib.hid hz0
  replace hz1 := Lib.hid hz1
  replace hz2 := Lib.hid hz2
  go_enter Try.func70, Try.ntmps70
  go_wp2_with fail
  go_loopw [3, 4] (fun v i wr => ∃ (k : Nat) (A' : Option Addr) (c' : Nat), i = .int .i64 k ∧ v = .slice A' k c' ∧ k ≤ l.length ∧ Hid (OwV wr w.heap.size 73 2 A' k c' (flat (l.take k))) ∧ Ext w wr) (fun _ i _ => l.length - (intOf i).toNat)
  case atStart => exact ⟨0, none, 0, rfl, rfl, by omega, Lib.hid (by simpa [flat] using OwV.nil w w.heap.size 73 2), Ext.rf _⟩
  case round =>
    obtain ⟨k, A', c', rfl, rfl, hk, ho, X⟩ := hrel
    by_cases h1 : k < l.length
    · obtain ⟨b, off, p, rfl, hb, a1, a2, hp, _⟩ := (hx.ext X).item h1
      have hfl := Lib.hid (flat_take_succ hp.out)
      have hsz := X.size
      have hbs : ∀ u : World, (Instr.buildSlice 109 1 #[(0, .agg #[.int .i64 p.1, .int .i64 p.2])]).run Try.prog u = .ok (.slice (some ⟨u.heap.size, 0, none⟩) 1 1) (u.alloc (.cells #[.int .i64 p.1, .int .i64 p.2] 73)) := fun u => by go_simp
      replace hbs := Lib.hid hbs
      go_wp2_with fail
      refine wp_region_any (by kernel_rfl) ?_
      change wpAny _ _ _ _ _ _ _ (World.drew _)
      refine wpAny_T (i := 0) (op := Op.move (Operand.tmp 3)) (t := 109) (d := some 11) (v := ?_) rfl (by decide +kernel) (by decide +kernel) (by decide +kernel) (fun _ _ _ h => h) ?_ ?_
      case refine_2 => (intro _; unfold exec2; go_simp; try with_reducible rfl)
      try simp only [Act.put, List.setIfInBounds_toArray, List.set_cons_zero, List.set_cons_succ]
      refine wpAny_T (i := 1) (op := Op.move (Operand.tmp 0)) (t := 82) (d := some 12) (v := ?_) rfl (by decide +kernel) (by decide +kernel) (by decide +kernel) (fun _ _ _ h => h) ?_ ?_
      case refine_2 => (intro _; unfold exec2; go_simp; try with_reducible rfl)
      try simp only [Act.put, List.setIfInBounds_toArray, List.set_cons_zero, List.set_cons_succ]
      refine wpAny_T (i := 2) (op := Op.move (Operand.tmp 4)) (t := 3) (d := some 13) (v := ?_) rfl (by decide +kernel) (by decide +kernel) (by decide +kernel) (fun _ _ _ h => h) ?_ ?_
      case refine_2 => (intro _; unfold exec2; go_simp; try with_reducible rfl)
      try simp only [Act.put, List.setIfInBounds_toArray, List.set_cons_zero, List.set_cons_succ]
      refine wpAny_T (i := 3) (op := Op.indexAddr 82 (Operand.tmp 12) (Operand.tmp 13)) (t := 0) (d := some 14) (v := ?_) rfl (by decide +kernel) (by decide +kernel) (by decide +kernel) (fun _ _ _ h => h) ?_ ?_
      case refine_2 => (intro _; unfold exec2; go_simp; try with_reducible rfl)
      try simp only [Act.put, List.setIfInBounds_toArray, List.set_cons_zero, List.set_cons_succ]
      refine wpAny_T (i := 4) (op := Op.fieldAddr 61 (Operand.tmp 14) 0) (t := 0) (d := some 15) (v := ?_) rfl (by decide +kernel) (by decide +kernel) (by decide +kernel) (fun _ _ _ h => h) ?_ ?_
      case refine_2 => (intro _; unfold exec2; go_simp; try with_reducible rfl)
      try simp only [Act.put, List.setIfInBounds_toArray, List.set_cons_zero, List.set_cons_succ]
      refine wpAny_T (i := 6) (op := Op.move (Operand.tmp 0)) (t := 82) (d := some 17) (v := ?_) rfl (by decide +kernel) (by decide +kernel) (by decide +kernel) (fun _ _ _ h => h) ?_ ?_
      case refine_2 => (intro _; unfold exec2; go_simp; try with_reducible rfl)
      try simp only [Act.put, List.setIfInBounds_toArray, List.set_cons_zero, List.set_cons_succ]
      refine wpAny_T (i := 7) (op := Op.move (Operand.tmp 4)) (t := 3) (d := some 18) (v := ?_) rfl (by decide +kernel) (by decide +kernel) (by decide +kernel) (fun _ _ _ h => h) ?_ ?_
      case refine_2 => (intro _; unfold exec2; go_simp; try with_reducible rfl)
      try simp only [Act.put, List.setIfInBounds_toArray, List.set_cons_zero, List.set_cons_succ]
      refine wpAny_T (i := 8) (op := Op.indexAddr 82 (Operand.tmp 17) (Operand.tmp 18)) (t := 0) (d := some 19) (v := ?_) rfl (by decide +kernel) (by decide +kernel) (by decide +kernel) (fun _ _ _ h => h) ?_ ?_
      case refine_2 => (intro _; unfold exec2; go_simp; try with_reducible rfl)
      try simp only [Act.put, List.setIfInBounds_toArray, List.set_cons_zero, List.set_cons_succ]
      refine wpAny_T (i := 9) (op := Op.fieldAddr 61 (Operand.tmp 19) 1) (t := 0) (d := some 20) (v := ?_) rfl (by decide +kernel) (by decide +kernel) (by decide +kernel) (fun _ _ _ h => h) ?_ ?_
      case refine_2 => (intro _; unfold exec2; go_simp; try with_reducible rfl)
      try simp only [Act.put, List.setIfInBounds_toArray, List.set_cons_zero, List.set_cons_succ]
      refine wpAny_reads (n := 4) [(5, some 16), (10, some 21)] (fun | 5 => .int .i64 p.1 | 10 => .int .i64 p.2 | _ => undef) #[true, true, true, true, true, true, true, true, true, true, true, false, false, false, false] (by decide +kernel) ?_ ?_
      · intro p hpm u hD K hK
        simp only [List.mem_cons, List.not_mem_nil, or_false] at hpm
        rcases hpm with rfl | rfl
        · exact op_ld (T := 3) (x := Operand.tmp 15) (t := 3) (d := some 16) rfl (.pointer (some ⟨b, off + k * 2, none⟩)) (by kernel_rfl) (.int .i64 p.1) (by go_simp) hK
        · exact op_ld (T := 3) (x := Operand.tmp 20) (t := 3) (d := some 21) rfl (.pointer (some ⟨b, off + k * 2 + 1, none⟩)) (by kernel_rfl) (.int .i64 p.2) (by go_simp) hK
      simp only [putAll, Act.put, List.setIfInBounds_toArray, List.set_cons_zero, List.set_cons_succ]
      refine wpAny_T (i := 11) (op := Op.build 73 #[(0, Operand.tmp 16), (1, Operand.tmp 21)]) (t := 73) (d := some 22) (v := ?_) rfl (by decide +kernel) (by decide +kernel) (by decide +kernel) (fun _ _ _ h => h) ?_ ?_
      case refine_2 => (intro _; unfold exec2; go_simp; try with_reducible rfl)
      try simp only [Act.put, List.setIfInBounds_toArray, List.set_cons_zero, List.set_cons_succ]
      refine wpAny_next 12 (by decide +kernel) (op_bs1 rfl (.agg #[.int .i64 p.1, .int .i64 p.2]) (by kernel_rfl) _ (hbs.out _) ?_)
      try simp only [Act.put, List.setIfInBounds_toArray, List.set_cons_zero, List.set_cons_succ]
      obtain ⟨A1, c1, w1, hrun, h2, h3, _⟩ := run_app_v ((World.drew wr).alloc (.cells #[.int .i64 p.1, .int .i64 p.2] 73)) (e := 73) Try.underlying109 hi.out hz0.out hz1.out hz2.out (by simp [Value.cells]) (by omega) w.heap.size 109 A' k c' (flat (l.take k)) (some ⟨(World.drew wr).heap.size, 0, none⟩) 1 1 [.int .i64 p.1, .int .i64 p.2] (ho.out.ext (((Ext.rf _).drew).alloc _)) ((RdV.blk (.new rfl)).rdC) (by simp) (by simp [Value.oneCell']) (by simp only [maxLen]; omega) (by omega) (by simp; omega)
      refine wpAny_next 13 (by decide +kernel) (op_app rfl (.slice A' k c') (.slice (some ⟨(World.drew wr).heap.size, 0, none⟩) 1 1) (by kernel_rfl) (by kernel_rfl) _ hrun ?_)
      try simp only [Act.put, List.setIfInBounds_toArray, List.set_cons_zero, List.set_cons_succ]
      refine wpAny_T (i := 14) (op := Op.assign (Operand.tmp 24)) (t := 109) (d := some 3) (v := ?_) rfl (by decide +kernel) (by decide +kernel) (by decide +kernel) (fun _ _ _ h => h) ?_ ?_
      case refine_2 => (intro _; unfold exec2; go_simp; try with_reducible rfl)
      try simp only [Act.put, List.setIfInBounds_toArray, List.set_cons_zero, List.set_cons_succ]
      refine wpAny_done (by kernel_rfl) ?_ _
      rw [← hfl.out] at h2
      have X1 := ((X.drew).alloc (.cells #[.int .i64 p.1, .int .i64 p.2] 73)).grow h3 (fun j hj => (ho.out.lt j hj).1)
      replace h2 := Lib.hid h2
      clear hrun h3
      go_simp
      go_wp2_with fail
      go_roundw
      case rel => exact ⟨k + 1, A1, c1, by go_num, rfl, by omega, h2, X1⟩
      case measure => simp [intOf]; omega
    · obtain rfl : k = l.length := by omega
      go_wp2
      go_ret
      exact ⟨A', c', rfl, by have := ho.out.read; rwa [List.take_length] at this, X⟩
end Go.Proofs.Ythmjeajfchpdoaa
