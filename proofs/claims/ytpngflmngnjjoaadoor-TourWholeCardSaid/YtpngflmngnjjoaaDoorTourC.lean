/-
  A tour's kernel: what may follow a beginning.
  A tour's kernel: no kernel; the answer of a whole list.
-/
import Derived.Test.YtpngflmngnjjoaaDoorTourB
import Derived.Test.YtpngflmngnjjoaaDoorAssignW3
import Derived.Test.YtpngflmngnjjoaaDoorAssignW2
namespace Go.Proofs.YtpngflmngnjjoaaDoor
open Go.RowKit Go.ChangeShapes Go.WideShapes Go.ChangeAt Go.Deep

theorem walk_last {rows : List (List Int)} (h1 : 1 ≤ rows.length) {p : List Int} {m last : Nat} {cost : Int} {l : List Nat} (h : WalkOk rows p m last cost l) : last < rows.length := by
  rw [h.last]
  rcases lastT_mem l 0 with e | e
  · rw [e]; exact h1
  · exact (h.inn _ e).1
set_option maxRecDepth 100000 in
theorem insertion_nil (cm : Value) (w : World) : Calls Tryd.prog 88 #[.slice none 0 0, .int .i64 0, .int .i64 0, cm] w fun e w' => e = .returned (.tuple #[]) ∧ Ext w w' := by
  go_enter Tryd.func88, Tryd.ntmps88
  go_wp2_with (fail)
  go_loopw [8] (fun iv wr => iv = .int .i64 1 ∧ Hid (Ext w wr)) (fun _ _ => 0)
  case atStart => exact ⟨by first | rfl | go_num, Ext.rf _⟩
  case round =>
    obtain ⟨rfl, X⟩ := hrel
    go_wp2_with (fail)
    go_end0
    exact ⟨rfl, X.out⟩
set_option maxRecDepth 100000 in
theorem stable_nil (cm : Value) (w : World) : Calls Tryd.prog 77 #[.slice none 0 0, .int .i64 0, cm] w fun e w' => e = .returned (.tuple #[]) ∧ Ext w w' := by
  go_enter Tryd.func77, Tryd.ntmps77
  go_wp2_with (fail)
  go_loopw [7, 8] (fun av bv wr => av = .int .i64 0 ∧ bv = .int .i64 20 ∧ Hid (Ext w wr)) (fun _ _ _ => 0)
  case atStart => exact ⟨rfl, rfl, Ext.rf _⟩
  case round =>
    obtain ⟨wo, rfl⟩ : ∃ wo : World, wo = wr := ⟨_, rfl⟩
    obtain ⟨rfl, rfl, X⟩ := hrel
    go_wp2_with (fail)
    refine (insertion_nil cm _).mono ?_
    rintro e w1 ⟨rfl, x1⟩
    have X1 := Lib.hid (X.out.tr x1)
    go_wp2_with (fail)
    go_loopw [6] (fun v wr => v = .int .i64 20 ∧ Hid (Ext w wr)) (fun _ _ => 0)
    case atStart => exact ⟨rfl, X1⟩
    case round =>
      obtain ⟨rfl, X2⟩ := hrel
      go_wp2_with (fail)
      go_end0
      exact ⟨rfl, X2.out⟩
set_option maxRecDepth 100000 in
theorem sortstable_nil (cm : Value) (w : World) : Calls Tryd.prog 54 #[.slice none 0 0, cm] w fun e w' => e = .returned (.tuple #[]) ∧ Ext w w' := by
  go_enter Tryd.func54, Tryd.ntmps54
  go_wp2_with (fail)
  refine (stable_nil cm _).mono ?_
  rintro e w1 ⟨rfl, x1⟩
  go_wp2_with (fail)
  go_end0
  exact ⟨rfl, by (repeat (first | assumption | exact Ext.rf _ | apply Ext.drew | apply Ext.drewN | apply Ext.alloc))⟩
set_option maxRecDepth 100000 in
set_option maxHeartbeats 1000000 in
theorem cmpt_any (row : List Int) (hbd : ∀ x ∈ row, 0 ≤ x ∧ x ≤ 2147483647) (D : Option Addr) (d rb : Nat) (a b : Nat) (ha : a < row.length) (hb : b < row.length) (w : World) (B : w.cell? ⟨rb, 0, none⟩ = some (.slice D row.length d)) (hD : RdI w D row) :
    Calls Tryd.prog 67 #[.int .i64 a, .int .i64 b, .pointer (some ⟨rb, 0, none⟩)] w fun e w' => e = .returned (.int .i64 (row.getD a 0 - row.getD b 0)) ∧ ∃ q, w' = w.drewN q := by
  obtain ⟨cb, co, x, rfl, z1, c1, e1, _⟩ := hD.at ha
  obtain ⟨cb', co', y, hq, z2, c2, e2, _⟩ := hD.at hb
  obtain ⟨rfl, rfl⟩ : cb = cb' ∧ co = co' := by simpa using hq
  have b1 := hbd x (List.mem_of_getElem? e1.out)
  have b2 := hbd y (List.mem_of_getElem? e2.out)
  rw [getD_some e1.out, getD_some e2.out]
  have hw : IntKind.i64.wrap (x - y) = x - y := IntWalk.i64_in _ (by omega)
  have q1 : (a : Int) < (row.length : Int) := by omega
  have q2 : (b : Int) < (row.length : Int) := by omega
  clear e1 e2 b1 b2 hbd hD hq
  go_enter Tryd.func67, Tryd.ntmps67
  go_wp2_with (fail)
  go_quiet (fail)
  go_wp2_with (fail)
  go_ret
  exact ⟨rfl, _, rfl⟩
set_option maxRecDepth 100000 in
set_option maxHeartbeats 4000000 in
theorem kidst_any {base g : Nat} {rows : List (List Int)} {mi : Bool} (P : Option Addr) (pc : Nat) (p : List Int) (w : World) (hT : Tab w) (H : KernT w base g rows mi) (ok : RowsOk rows) (hP : RdI w P p) (lp : p.length ≤ 1000000000) :
    Calls Tryd.prog 38 #[.pointer (some ⟨g, 0, none⟩), .slice P p.length pc] w (OwnPost (kidsT rows p).1 (kidsT rows p).2 w) := by
  have FR := fun (W : World) (x : Ext w W) => walkt_any P pc p W (H.ext x) ok (hP.ext x) lp
  have l1 := ok.n1
  have l2 := ok.n2
  obtain ⟨C, cc, us, hB, _, hV, hR⟩ := H
  have lus : Hid (us.length = rows.length) := hR.1
  obtain ⟨r, hr⟩ : ∃ r, Hid (walkP rows p = r) := ⟨_, rfl⟩
  rw [hr.out] at FR
  cases r with
  | none =>
    have e : kidsT rows p = ([], 1) := by unfold kidsT; rw [hr.out]
    rw [e]
    simp only [wayV, wayT] at FR
    replace FR := Lib.hid FR
    go_enter Tryd.func38, Tryd.ntmps38
    go_wp2_with (fail)
    refine (FR.out _ (Ext.rf w)).mono ?_
    rintro e w1 ⟨rfl, x1⟩
    have X := Lib.hid (x1.alloc (.cells #[.int .u64 0, .int .u64 0, .int .i64 0, .int .i64 0] 70))
    go_wp2_with (fail)
    go_ret2
    exact ⟨none, 0, rfl, OwI.nil _ _, by have := X.out; first | exact x1 | exact this⟩
  | some s =>
    obtain ⟨m, last, cost⟩ := s
    obtain ⟨pl, WO⟩ := walk_ok l1 l2 hr.out
    have hS := WO.sub
    have hlast := walk_last l1 WO
    have hlen : (memsM m).length ≤ 24 := by have := WO.len; omega
    have e : kidsT rows p = (intsN (sortP (ltC (cfR (rows.getD last []))) (memsM m)), 0) := by unfold kidsT; rw [hr.out]
    rw [e]
    clear e
    have LI := Lib.hid (fun (W : World) (hW : Tab W) => list_any m hS.1 (fun x hx => by have := hS.2 x hx; omega) W hW)
    have hsub := Lib.hid hS.2
    have hsrt := Lib.hid (memsM_sorted m)
    simp only [wayV, wayT] at FR
    unfold setV at LI
    replace FR := Lib.hid FR
    clear hr hS WO
    generalize memsM m = l at *
    replace hP := Lib.hid hP
    replace hV := Lib.hid hV
    replace hR := Lib.hid hR
    replace hT := Lib.hid hT
    replace hB := Lib.hid hB
    have hkr : last < rows.length := hlast
    have er : rows[last]? = some rows[last] := List.getElem?_eq_getElem hkr
    have eg : rows.getD last [] = rows[last] := by simp [List.getD, er]
    rw [eg]
    clear eg
    obtain ⟨D, d, hu, oD⟩ := hR.out.2 _ _ er
    have hmem : rows[last] ∈ rows := List.getElem_mem hkr
    have lrow := ok.row _ hmem
    have nrow := ok.num _ hmem
    generalize rows[last] = row at *
    replace lrow := Lib.hid lrow
    replace oD := Lib.hid oD
    replace nrow := Lib.hid nrow
    have lcc : rows.length ≤ cc := by
      rcases hV.out.cases with ⟨_, _, h, _⟩ | ⟨_, _, _, _, _, h, _⟩ <;> omega
    clear er
    go_enter Tryd.func38, Tryd.ntmps38
    go_wp2_with (fail)
    refine (FR.out _ (Ext.rf w)).mono ?_
    rintro e w1 ⟨rfl, x1⟩
    have X2 := Lib.hid (x1.alloc (.cells #[.int .u64 m, .int .u64 0, .int .i64 last, .int .i64 cost] 70))
    clear x1
    go_wp2_with (fail)
    refine (LI.out _ (hT.out.ext X2.out)).mono ?_
    rintro e w3 ⟨A, c, rfl, o3, x3⟩
    have X3 := Lib.hid (X2.out.tr x3)
    have z2 := X2.out.size
    have o3' : Hid (OwI w3 w.heap.size A c (intsN l)) := OwI.more o3 X2.out.size
    have o4' : Hid (OwI w3 (w1.alloc (.cells #[.int .u64 m, .int .u64 0, .int .i64 last, .int .i64 cost] 70)).heap.size A c (intsN l)) := o3
    obtain ⟨ab, ao, vv, hC, zv, cv, ev⟩ := (hV.out.read.ext X3.out).at (j := last) (by rw [lus.out]; exact hkr)
    subst hC
    obtain rfl : .slice D row.length d = vv := by
      have h := ev.out
      rw [hu] at h
      exact Option.some.inj h
    have cK : w3.cell? ⟨g, 0, none⟩ = some (.slice (some ⟨ab, ao, none⟩) rows.length cc) := (hB.out.ext X3.out).cell 0
    have q1 : (last : Int) < (rows.length : Int) := by omega
    have zg0 : g < w3.heap.size := (hB.out.ext X3.out).lt
    have zab : ab < w3.heap.size := zv
    have bW : Hid (Blk w3 w1.heap.size 70 #[.int .u64 m, .int .u64 0, .int .i64 last, .int .i64 cost]) := (Blk.new rfl).ext x3
    have zsb := bW.out.lt
    have cL : w3.cell? ⟨w1.heap.size, 2, none⟩ = some (.int .i64 last) := bW.out.cell 2
    clear x3 ev hu
    clear o3 o4'
    go_upto_region 5 with (fail)
    refine wp_region_any (by kernel_rfl) ?_
    change wpAny _ _ _ _ _ _ _ (World.drew _)
    refine wpAny_T (i := 0) (op := Op.move (Operand.tmp 0)) (t := 47) (d := some 21) (v := ?_) rfl (by decide +kernel) (by decide +kernel) (by decide +kernel) (fun _ _ _ h => h) ?_ ?_
    case refine_2 => (intro _; unfold exec2; go_simp; try with_reducible rfl)
    try simp only [Act.put, List.setIfInBounds_toArray, List.set_cons_zero, List.set_cons_succ]
    refine wpAny_T (i := 1) (op := Op.nilCheck (Operand.tmp 21)) (t := 0) (d := some 22) (v := ?_) rfl (by decide +kernel) (by decide +kernel) (by decide +kernel) (fun _ _ _ h => h) ?_ ?_
    case refine_2 => (intro _; unfold exec2; go_simp; try with_reducible rfl)
    try simp only [Act.put, List.setIfInBounds_toArray, List.set_cons_zero, List.set_cons_succ]
    refine wpAny_T (i := 2) (op := Op.fieldAddr 68 (Operand.tmp 22) 0) (t := 0) (d := some 23) (v := ?_) rfl (by decide +kernel) (by decide +kernel) (by decide +kernel) (fun _ _ _ h => h) ?_ ?_
    case refine_2 => (intro _; unfold exec2; go_simp; try with_reducible rfl)
    try simp only [Act.put, List.setIfInBounds_toArray, List.set_cons_zero, List.set_cons_succ]
    refine wpAny_T (i := 4) (op := Op.fieldAddr 70 (Operand.tmp 6) 1) (t := 0) (d := some 25) (v := ?_) rfl (by decide +kernel) (by decide +kernel) (by decide +kernel) (fun _ _ _ h => h) ?_ ?_
    case refine_2 => (intro _; unfold exec2; go_simp; try with_reducible rfl)
    try simp only [Act.put, List.setIfInBounds_toArray, List.set_cons_zero, List.set_cons_succ]
    generalize w1.heap.size = sb at *
    refine wpAny_core (n := 1) [(3, some 24), (5, some 26), (6, some 27), (7, some 28), (8, some 9)] (Ext w3)
      (VF (fun | 3 => some (.slice (some ⟨ab, ao, none⟩) rows.length cc) | 5 => some (.int .i64 last) | 6 => some (.pointer (some ⟨ab, ao + last, none⟩)) | 7 => some (.slice D row.length d) | _ => none)
        (fun i v W => i = 8 → ∃ q, v = .pointer (some ⟨q, 0, none⟩) ∧ Blk W q 22 #[.slice none 0 0] ∧ w3.heap.size ≤ q))
      Ext #[true, true, true, true, true, true, true, true, true, false] (by kernel_rfl) (VF.stab ?_) ?_ ?_ ((Ext.rf _).drew)
    · intro j v W W' _ g8 hx h
      obtain ⟨q, q1, q2, q3⟩ := g8 h
      exact ⟨q, q1, q2.ext hx, q3⟩
    · intro pq hpm u w4 hR4 hD K hK
      have r0 := (hR4.cells.1 _ 0 zg0).trans cK
      have r1 := (hR4.cells.1 _ 2 zsb).trans cL
      have r2 := (hR4.cells.1 _ (ao + last) zab).trans cv
      simp only [List.mem_cons, List.not_mem_nil, or_false] at hpm
      rcases hpm with rfl | rfl | rfl | rfl | rfl
      · exact op_ld (T := 23) rfl (.pointer (some ⟨g, 0, none⟩)) (by kernel_rfl) (.slice (some ⟨ab, ao, none⟩) rows.length cc) (by go_simp) (hK _ _ (VF.mk rfl) hR4 (Ext.rf _))
      · exact op_ld (T := 3) rfl (.pointer (some ⟨sb, 2, none⟩)) (by kernel_rfl) (.int .i64 last) (by go_simp) (hK _ _ (VF.mk rfl) hR4 (Ext.rf _))
      · have h3 := (hD 3 (depIn (by kernel_rfl))).k rfl
        have h5 := (hD 5 (depIn (by kernel_rfl))).k rfl
        exact op_ix (T := 23) rfl _ _ (Eq.trans (b := u 3) (by kernel_rfl) h3) (Eq.trans (b := u 5) (by kernel_rfl) h5) (.pointer (some ⟨ab, ao + last, none⟩)) (by go_simp) (hK _ _ (VF.mk rfl) hR4 (Ext.rf _))
      · have h6 := (hD 6 (depIn (by kernel_rfl))).k rfl
        exact op_ld (T := 22) rfl _ (Eq.trans (b := u 6) (by kernel_rfl) h6) (.slice D row.length d) (by go_simp) (hK _ _ (VF.mk rfl) hR4 (Ext.rf _))
      · exact op_run (op := .alloc 22) rfl (.pointer (some ⟨w4.heap.size, 0, none⟩)) (w' := w4.alloc (.cells #[.slice none 0 0] 22)) (by unfold exec2; go_simp) (hK _ _ (VF.mg rfl fun _ => ⟨_, rfl, .new rfl, hR4.size⟩) (hR4.alloc _) ((Ext.rf _).alloc _))
    intro u w4 hR4 hV4
    have h3 := (hV4 (3, some 24) (by simp)).k rfl
    have h5 := (hV4 (5, some 26) (by simp)).k rfl
    have h6 := (hV4 (6, some 27) (by simp)).k rfl
    have h7 := (hV4 (7, some 28) (by simp)).k rfl
    obtain ⟨q, h8, hq, hqz⟩ := ((hV4 (8, some 9) (by simp)).g rfl) rfl
    simp only [putAll, h3, h5, h6, h7, h8]
    clear h3 h5 h6 h7 h8 hV4
    have cq : w4.cell? ⟨q, 0, none⟩ = some (.slice none 0 0) := hq.cell 0
    have fq := hq.free 0
    have rb : Hid (Blk (w4.setCell ⟨q, 0, none⟩ (.slice D row.length d)) q 22 #[.slice D row.length d]) := hq.set 0 (.slice D row.length d)
    have X5 : Hid (Ext w3 (w4.setCell ⟨q, 0, none⟩ (.slice D row.length d))) := hR4.setNew (p := ⟨q, 0, none⟩) hqz _
    refine wpAny_next 9 (by decide +kernel) (op_st rfl (.pointer (some ⟨q, 0, none⟩)) (.slice D row.length d) (by kernel_rfl) (by kernel_rfl) (by go_simp; rfl) ?_)
    refine wpAny_done (by kernel_rfl) ?_ _
    clear cq fq hq hR4 cK cL cv
    generalize w4.setCell ⟨q, 0, none⟩ (.slice D row.length d) = w5 at *
    clear w4
    have X4 := Lib.hid (X3.out.tr X5.out)
    rcases OwI.cases o3'.out with ⟨rfl, rfl, h0⟩ | ⟨gl, cur, rfl, hbg, _, _, _, _⟩
    · obtain rfl : l = [] := by
        have h := congrArg List.length h0
        rw [intsN_len, List.length_nil] at h
        exact List.eq_nil_of_length_eq_zero h
      have e0 : sortP (ltC (cfR row)) [] = [] := rfl
      rw [e0]
      clear e0 h0 o3'
      go_simp
      go_wp2_with (fail)
      refine (sortstable_nil _ _).mono ?_
      rintro e w6 ⟨rfl, x6⟩
      have X6 := X4.out.tr x6
      clear x6
      go_wp2_with (fail)
      go_ret2
      exact ⟨none, 0, rfl, OwI.nil _ _, X6⟩
    · rw [intsN_len] at *
      have zgl : w.heap.size ≤ gl := hbg
      have zg := (OwI.lt o3'.out gl rfl).2
      have oN : Hid (OwN w3 w.heap.size gl c l) := o3'.out
      have HCO : Hid (CmpOk 67 #[.pointer (some ⟨q, 0, none⟩)] (cfR row) row.length gl w5) := by
        intro W x y hx hy hm
        have b2 := rb.out.mod hm (by show ¬ q = gl; omega)
        refine cmpt_any row nrow.out D d q x y hx hy W (b2.cell 0) ?_
        refine RdI.modG ((oD.out.read.ext X3.out).ext X5.out) hm fun b hb => ?_
        have := (oD.out.lt b hb).2
        omega
      have SO := sortstable_any w.heap.size gl c 67 #[.pointer (some ⟨q, 0, none⟩)] (cfR row) row.length l.length l _ (cfR_weak row) (enters_of Tryd.func67 (by kernel_rfl) rfl) HCO.out (OwN.ext oN.out X5.out) rfl hsrt.out (fun x hx => by rw [lrow.out]; exact hsub.out x hx) (by omega)
      replace SO := Lib.hid SO
      clear HCO rb
      go_simp
      go_wp2_with (fail)
      refine SO.out.mono ?_
      rintro e w6 ⟨rfl, o5, m5⟩
      have FIN : Hid (OwI w6 w.heap.size (some ⟨gl, 0, none⟩) c (intsN (sortP (ltC (cfR row)) l)) ∧ Ext w w6) := ⟨o5, m5.heap X4.out zgl⟩
      have hll : Hid ((intsN (sortP (ltC (cfR row)) l)).length = l.length) := by
        have h : (intsN (sortP (ltC (cfR row)) l)).length = l.length := by rw [intsN_len, sortP_len]
        exact h
      clear o5 m5
      go_wp2_with (fail)
      go_ret2
      refine ⟨some ⟨gl, 0, none⟩, c, ?_, FIN.out.1, FIN.out.2⟩
      rw [hll.out]
      rfl
end Go.Proofs.YtpngflmngnjjoaaDoor
namespace Go.Proofs.YtpngflmngnjjoaaDoor
open Go.RowKit Go.ChangeShapes Go.WideShapes Go.ChangeAt Go.Deep

set_option maxRecDepth 100000 in
theorem walkt_nil (P : Value) (w : World) : Calls Tryd.prog 61 #[.pointer none, P] w fun e w' => e = .returned (.tuple #[.agg #[.int .u64 0, .int .u64 0, .int .i64 0, .int .i64 0], .bool false]) ∧ Ext w w' := by
  go_enter Tryd.func61, Tryd.ntmps61
  go_wp2_with (fail)
  refine bodyPost_ret (v := .tuple #[.agg #[.int .u64 0, .int .u64 0, .int .i64 0, .int .i64 0], .bool false]) (by simp [results, Tryd.results61, go_sem, *]) rfl ⟨rfl, ?_⟩
  exact (Ext.rf _).alloc _
theorem kidst_nil (P : Value) (w : World) : Calls Tryd.prog 38 #[.pointer none, P] w fun e w' => e = .returned (.tuple #[.slice none 0 0, .int .i64 1]) ∧ Ext w w' := by
  go_enter Tryd.func38, Tryd.ntmps38
  go_wp2_with (fail)
  refine (walkt_nil P _).mono ?_
  rintro e w1 ⟨rfl, x1⟩
  go_wp2
  go_ret2
  exact ⟨rfl, by (repeat (first | assumption | exact Ext.rf _ | apply Ext.drew | apply Ext.drewN | apply Ext.alloc))⟩
theorem boundt_nil (P : Value) (w : World) : Calls Tryd.prog 35 #[.pointer none, P] w fun e w' => e = .returned (.tuple #[.int .i64 0, .int .i64 1]) ∧ Ext w w' := by
  go_enter Tryd.func35, Tryd.ntmps35
  go_wp2_with (fail)
  refine (walkt_nil P _).mono ?_
  rintro e w1 ⟨rfl, x1⟩
  go_wp2
  go_ret2
  exact ⟨rfl, by (repeat (first | assumption | exact Ext.rf _ | apply Ext.drew | apply Ext.drewN | apply Ext.alloc))⟩
theorem answert_nil (P : Value) (w : World) : Calls Tryd.prog 39 #[.pointer none, P] w fun e w' => e = .returned (.tuple #[.slice none 0 0, .int .i64 1]) ∧ Ext w w' := by
  go_enter Tryd.func39, Tryd.ntmps39
  go_wp2_with (fail)
  refine (walkt_nil P _).mono ?_
  rintro e w1 ⟨rfl, x1⟩
  go_wp2
  go_ret2
  exact ⟨rfl, by (repeat (first | assumption | exact Ext.rf _ | apply Ext.drew | apply Ext.drewN | apply Ext.alloc))⟩
theorem nonet_any (w : World) : Calls Tryd.prog 37 #[] w fun e w' => e = .returned (.pointer none) ∧ Ext w w' := by
  go_enter Tryd.func37, Tryd.ntmps37
  go_wp2
  go_ret
  exact ⟨rfl, Ext.rf _⟩
set_option maxRecDepth 100000 in
set_option maxHeartbeats 2000000 in
theorem answert_any {base g : Nat} {rows : List (List Int)} {mi : Bool} (P : Option Addr) (pc : Nat) (p : List Int) (w : World) (H : KernT w base g rows mi) (ok : RowsOk rows) (hP : RdI w P p) (lp : p.length ≤ 1000000000) :
    Calls Tryd.prog 39 #[.pointer (some ⟨g, 0, none⟩), .slice P p.length pc] w (OwnPost (answerT rows p).1 (answerT rows p).2 w) := by
  have FR := walkt_any P pc p w H ok hP lp
  have h1 := ok.n1
  have h24 := ok.n2
  have DE := Lib.hid (fun (W : World) (x : Ext w W) => deptht_any W (H.ext x) h1 h24)
  clear H
  obtain ⟨r, hr⟩ : ∃ r, Hid (walkP rows p = r) := ⟨_, rfl⟩
  rw [hr.out] at FR
  replace hP := Lib.hid hP
  cases r with
  | none =>
    have e : answerT rows p = ([], 1) := by unfold answerT; rw [hr.out]
    rw [e]
    simp only [wayV, wayT] at FR
    replace FR := Lib.hid FR
    go_enter Tryd.func39, Tryd.ntmps39
    go_wp2_with (fail)
    refine FR.out.mono ?_
    rintro e w1 ⟨rfl, x1⟩
    have X := Lib.hid (x1.alloc (.cells #[.int .u64 0, .int .u64 0, .int .i64 0, .int .i64 0] 70))
    go_wp2_with (fail)
    go_ret2
    exact ⟨none, 0, rfl, OwI.nil _ _, X.out⟩
  | some s =>
    obtain ⟨m, last, cost⟩ := s
    simp only [wayV, wayT] at FR
    replace FR := Lib.hid FR
    by_cases hl : p.length = rows.length - 1
    · have e : answerT rows p = (0 :: p, 0) := by
        unfold answerT
        rw [hr.out]
        simp only [hl, if_true]
      rw [e]
      clear e
      have hne : ((p.length : Int) != (rows.length : Int) - 1) = false := by rw [bne_eq_false_iff_eq]; omega
      replace hl := Lib.hid hl
      go_enter Tryd.func39, Tryd.ntmps39
      go_wp2_with (fail)
      refine FR.out.mono ?_
      rintro e w1 ⟨rfl, x1⟩
      have X := Lib.hid (x1.alloc (.cells #[.int .u64 m, .int .u64 0, .int .i64 last, .int .i64 cost] 70))
      go_wp2_with (fail)
      refine (DE.out _ X.out).mono ?_
      rintro e w2 ⟨rfl, x2⟩
      have X2 := Lib.hid (X.out.tr x2)
      clear x1 x2
      have z2 := X2.out.size
      have oN : Hid (OwI (w2.alloc (.cells #[.int .i64 0] 3)) w.heap.size (some ⟨w2.heap.size, 0, none⟩) 1 [0]) := OwI.new (xs := [0]) rfl X2.out.size (by simp [maxLen])
      go_wp2_with (at_builtin; go_loud (refine wpl_app_i _ rfl _ _ rfl w.heap.size (some ⟨w2.heap.size, 0, none⟩) 1 1 [0] p P pc rfl rfl rfl ?_ ?_ ?_ ?_ ?_; (exact oN.out); (exact hP.out.ext (X2.out.alloc _)); (simp; omega); (first | exact Nat.le_refl _ | omega | (focus (simp; try omega))); rintro A5 c5 w5 o5 g5 _; have X5 := Lib.hid (Ext.grow (X2.out.alloc _) g5 (fun k hk => (oN.out.lt k hk).1)); replace o5 := Lib.hid o5; clear g5))
      go_ret2
      exact ⟨A5, c5, rfl, o5.out, X5.out⟩
    · have e : answerT rows p = ([], 1) := by
        unfold answerT
        rw [hr.out]
        simp only [hl, if_false]
      rw [e]
      clear e
      have hne : ((p.length : Int) != (rows.length : Int) - 1) = true := by simp; omega
      replace hl := Lib.hid hl
      go_enter Tryd.func39, Tryd.ntmps39
      go_wp2_with (fail)
      refine FR.out.mono ?_
      rintro e w1 ⟨rfl, x1⟩
      have X := Lib.hid (x1.alloc (.cells #[.int .u64 m, .int .u64 0, .int .i64 last, .int .i64 cost] 70))
      go_wp2_with (fail)
      refine (DE.out _ X.out).mono ?_
      rintro e w2 ⟨rfl, x2⟩
      have X2 := Lib.hid (X.out.tr x2)
      clear x1 x2
      go_wp2_with (fail)
      go_ret2
      exact ⟨none, 0, rfl, OwI.nil _ _, X2.out⟩
end Go.Proofs.YtpngflmngnjjoaaDoor
