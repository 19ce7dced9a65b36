/-
  ExactPrices: an assignment all of whose rows cost so much more costs that much more; turned over, rows as columns, it costs the same.
-/
import Derived.Test.YtleckhbmciiooaaSquare
import Derived.Test.YtleckhbmciiooaaRows
import Derived.Test.YtleckhbmciiooaaChecked
namespace Go.Proofs.Ytleckhbmciiooaa.exactPrices
open Go.RowKit Go.ChangeShapes Go.WideShapes Go.ChangeAt Go.Deep

theorem costF_bd {n : Nat} {f : Nat → Nat → Int} (hf : ∀ a b, a < n → b < n → 0 ≤ f a b ∧ f a b ≤ 2147483647) {v : Int} (h : Least (rowsF n f) n v) : 0 ≤ v ∧ v ≤ n * 2147483647 := by
  obtain ⟨⟨x, hx, rfl⟩, _⟩ := h
  have lx := perm_len hx
  have key : ∀ k, k ≤ n → 0 ≤ costK (rowsF n f) x k ∧ costK (rowsF n f) x k ≤ k * 2147483647 := by
    intro k
    induction k with
    | zero => intro _; simp [costK, sumL]
    | succ k ih =>
      intro hk
      have h1 := ih (by omega)
      have h2 : x.getD k 0 < n := by
        have h3 : x[k]? = some (x[k]'(by omega)) := List.getElem?_eq_getElem _
        rw [getD_some h3]
        exact List.mem_range.1 (hx.mem_iff.1 (List.getElem_mem _))
      have h4 := hf k _ (by omega : k < n) h2
      rw [costK_succ, rowsF_cost (by omega) h2]
      omega
  have e : costF (rowsF n f) (intsN x) = costK (rowsF n f) x n := by rw [costF_range (by rw [rowsF_len, lx]), lx]; rfl
  rw [e]
  exact key n (Nat.le_refl _)
/-- how much more a row costs -/
def upF (xs : List Int) (a : Nat) : Int := if a < xs.length then (IntKind.u64.wrap (xs.getD a 0)).tmod 1000 else 0
theorem u64_bd (x : Int) : 0 ≤ IntKind.u64.wrap x ∧ IntKind.u64.wrap x < 18446744073709551616 := by
  simp only [IntKind.wrap, IntKind.signed, IntKind.bits]
  simp
  omega
theorem upF_bd (xs : List Int) (a : Nat) : 0 ≤ upF xs a ∧ upF xs a ≤ 999 := by
  unfold upF
  split
  · have := u64_bd (xs.getD a 0)
    rw [Int.tmod_eq_emod_of_nonneg this.1]
    omega
  · omega
set_option maxRecDepth 100000 in
set_option maxHeartbeats 4000000 in
theorem walk_yes (i : InstP) (n : Nat) (f : Nat → Nat → Int) (hj : sqI n f = copyP i) (n1 : 1 ≤ n) (n12 : n ≤ 12) (hf : ∀ a b, a < n → b < n → 0 ≤ f a b ∧ f a b ≤ 2147483647) (vs : List Value) (P : Option Addr) (pc : Nat) (xs : List Int) (w : World) (H : RInst w vs i) (hP : RdI w P xs) (ix : Ints xs) (lx : xs.length ≤ pc) (lc : pc ≤ maxLen) :
    Calls Try.prog 3 #[.agg (List.toArray vs), .slice P xs.length pc] w fun e w' => e = .returned (.bool true) ∧ Ext w w' := by
  have CP := fun (W : World) (x : Ext w W) => copy_sq n1 hj vs W (H.ext x)
  clear hj
  obtain ⟨A, a, B, b, C, c, rfl, -, -, -⟩ := H
  have B1 : Hid (Blk (w.alloc (.cells #[.int .i64 i.kind, .int .i64 i.n, .int .i64 i.cap, .slice A i.weight.length a, .slice B i.value.length b, .slice C i.cost.length c] 25)) w.heap.size 25 #[.int .i64 i.kind, .int .i64 i.n, .int .i64 i.cap, .slice A i.weight.length a, .slice B i.value.length b, .slice C i.cost.length c]) := .new rfl
  replace CP := Lib.hid CP
  replace hP := Lib.hid hP
  replace ix := Lib.hid ix
  replace lc := Lib.hid lc
  replace lx := Lib.hid lx
  replace hf := Lib.hid hf
  go_enter Try.func3, Try.ntmps3
  go_wp2_with (fail)
  refine (CP.out _ (by (repeat (first | assumption | exact Ext.rf _ | apply Ext.drew | apply Ext.drewN | apply Ext.alloc)))).mono ?_
  rintro e w1 ⟨A3, d3, A4, d4, cb, d5, us, g, cp, rfl, M1, l3, l4, x1⟩
  replace M1 : MatS w1 (w.heap.size + 1) w1.heap.size cb d5 n us g cp f := by simpa using M1
  have X1 := Ext.tr (a := w) (by (repeat (first | assumption | exact Ext.rf _ | apply Ext.drew | apply Ext.drewN | apply Ext.alloc))) x1
  have B2 := B1.out.ext x1
  have t0 : w1.cell? ⟨w.heap.size, 0, none⟩ = some (.int .i64 i.kind) := B2.cell 0
  have t1 : w1.cell? ⟨w.heap.size, 1, none⟩ = some (.int .i64 i.n) := B2.cell 1
  have t2 : w1.cell? ⟨w.heap.size, 2, none⟩ = some (.int .i64 i.cap) := B2.cell 2
  have t3 : w1.cell? ⟨w.heap.size, 3, none⟩ = some (.slice A i.weight.length a) := B2.cell 3
  have t4 : w1.cell? ⟨w.heap.size, 4, none⟩ = some (.slice B i.value.length b) := B2.cell 4
  have t5 : w1.cell? ⟨w.heap.size, 5, none⟩ = some (.slice C i.cost.length c) := B2.cell 5
  have f0 := B2.free 0
  have f1 := B2.free 1
  have f2 := B2.free 2
  have f3 := B2.free 3
  have f4 := B2.free 4
  have f5 := B2.free 5
  obtain ⟨S6, -⟩ := set6 B2 (base := w.heap.size) (Nat.le_refl _) (.int .i64 2) (.int .i64 n) (.int .i64 0) (.slice A3 0 d3) (.slice A4 0 d4) (.slice (some ⟨cb, 0, none⟩) n d5)
  have M6 : Mod (fun k => k = w.heap.size) w1 ((((((w1.setCell ⟨w.heap.size, 0, none⟩ (.int .i64 2)).setCell ⟨w.heap.size, 1, none⟩ (.int .i64 n)).setCell ⟨w.heap.size, 2, none⟩ (.int .i64 0)).setCell ⟨w.heap.size, 3, none⟩ (.slice A3 0 d3)).setCell ⟨w.heap.size, 4, none⟩ (.slice A4 0 d4)).setCell ⟨w.heap.size, 5, none⟩ (.slice (some ⟨cb, 0, none⟩) n d5)) :=
    ((((((Mod.rf (S := fun k => k = w.heap.size) w1).set (p := ⟨w.heap.size, 0, none⟩) (.inl rfl) _).set (p := ⟨w.heap.size, 1, none⟩) (.inl rfl) _).set (p := ⟨w.heap.size, 2, none⟩) (.inl rfl) _).set (p := ⟨w.heap.size, 3, none⟩) (.inl rfl) _).set (p := ⟨w.heap.size, 4, none⟩) (.inl rfl) _).set (p := ⟨w.heap.size, 5, none⟩) (.inl rfl) _
  have M2 := M1.mod M6 (fun k h1 h2 e => by omega)
  have X2 := X1.mod M6 (fun k h1 e => by omega)
  have z1 := B2.lt
  have z2 := M6.size
  have FIN := Lib.hid (And.intro S6 (And.intro M2 (And.intro X2 z2)))
  replace z1 := Lib.hid z1
  clear S6 M6 M2 X2 z2 B2 X1 M1 x1 B1 CP
  go_upto_region 2 with (fail)
  generalize hw1 : w1.heap.size = s1 at *
  generalize ((((((w1.setCell ⟨w.heap.size, 0, none⟩ (.int .i64 2)).setCell ⟨w.heap.size, 1, none⟩ (.int .i64 n)).setCell ⟨w.heap.size, 2, none⟩ (.int .i64 0)).setCell ⟨w.heap.size, 3, none⟩ (.slice A3 0 d3)).setCell ⟨w.heap.size, 4, none⟩ (.slice A4 0 d4)).setCell ⟨w.heap.size, 5, none⟩ (.slice (some ⟨cb, 0, none⟩) n d5)) = w2 at FIN ⊢
  clear hw1 t0 t1 t2 t3 t4 t5 f0 f1 f2 f3 f4 f5
  clear w1
  obtain ⟨B2, M2, X2, z2⟩ := FIN.out
  replace B2 := Lib.hid B2
  replace M2 := Lib.hid M2
  replace X2 := Lib.hid X2
  replace z2 := Lib.hid z2
  clear FIN
  go_wp2_with (fail)
  refine (exacts_any _).mono ?_
  rintro e w3 ⟨rfl, x3⟩
  have B3 := Lib.hid (B2.out.ext x3)
  have M3 := Lib.hid (M2.out.ext x3)
  have X3 := Lib.hid (X2.out.tr x3)
  have z3 := Lib.hid (Nat.le_trans z2.out x3.size)
  clear B2 M2 X2 x3 z2
  have t0 : w3.cell? ⟨w.heap.size, 0, none⟩ = some (.int .i64 2) := B3.out.cell 0
  have t1 : w3.cell? ⟨w.heap.size, 1, none⟩ = some (.int .i64 n) := B3.out.cell 1
  have t2 : w3.cell? ⟨w.heap.size, 2, none⟩ = some (.int .i64 0) := B3.out.cell 2
  have t3 : w3.cell? ⟨w.heap.size, 3, none⟩ = some (.slice A3 0 d3) := B3.out.cell 3
  have t4 : w3.cell? ⟨w.heap.size, 4, none⟩ = some (.slice A4 0 d4) := B3.out.cell 4
  have t5 : w3.cell? ⟨w.heap.size, 5, none⟩ = some (.slice (some ⟨cb, 0, none⟩) n d5) := B3.out.cell 5
  have RC := rcheck_any (sqI n f) _ w3 (rinst_sq (A := A3) (B := A4) M3.out hf.out l3 l4)
  rw [check_sq n1 (by omega) hf.out] at RC
  replace RC := Lib.hid RC
  go_wp2_with (fail)
  refine RC.out.mono ?_
  rintro e w4 ⟨rfl, x4⟩
  have B4 := Lib.hid (B3.out.ext x4)
  have M4 := Lib.hid (M3.out.ext x4)
  have X4 := Lib.hid (X3.out.tr x4)
  have z4 := Lib.hid (Nat.le_trans z3.out x4.size)
  clear B3 M3 X3 x4 z3 RC t0 t1 t2 t3 t4 t5
  have t0 : w4.cell? ⟨w.heap.size, 0, none⟩ = some (.int .i64 2) := B4.out.cell 0
  have t1 : w4.cell? ⟨w.heap.size, 1, none⟩ = some (.int .i64 n) := B4.out.cell 1
  have t2 : w4.cell? ⟨w.heap.size, 2, none⟩ = some (.int .i64 0) := B4.out.cell 2
  have t3 : w4.cell? ⟨w.heap.size, 3, none⟩ = some (.slice A3 0 d3) := B4.out.cell 3
  have t4 : w4.cell? ⟨w.heap.size, 4, none⟩ = some (.slice A4 0 d4) := B4.out.cell 4
  have t5 : w4.cell? ⟨w.heap.size, 5, none⟩ = some (.slice (some ⟨cb, 0, none⟩) n d5) := B4.out.cell 5
  have q12 : ¬ ((12 : Int) < (n : Int)) := by omega
  have AS := Lib.hid (asg_sq (A := A3) (B := A4) n1 (by omega) hf.out l3 l4 M4.out)
  go_wp2_with (fail)
  refine AS.out.mono ?_
  rintro e w5 ⟨XX, xc, vc, rfl, LC, x5⟩
  have B5 := Lib.hid (B4.out.ext x5)
  have M5 := Lib.hid (M4.out.ext x5)
  have X5 := Lib.hid (X4.out.tr x5)
  have z5 := Lib.hid (Nat.le_trans z4.out x5.size)
  replace LC := Lib.hid LC
  clear B4 M4 X4 x5 z4 AS t0 t1 t2 t3 t4 t5
  have t0 : w5.cell? ⟨w.heap.size, 0, none⟩ = some (.int .i64 2) := B5.out.cell 0
  have t1 : w5.cell? ⟨w.heap.size, 1, none⟩ = some (.int .i64 n) := B5.out.cell 1
  have t2 : w5.cell? ⟨w.heap.size, 2, none⟩ = some (.int .i64 0) := B5.out.cell 2
  have t3 : w5.cell? ⟨w.heap.size, 3, none⟩ = some (.slice A3 0 d3) := B5.out.cell 3
  have t4 : w5.cell? ⟨w.heap.size, 4, none⟩ = some (.slice A4 0 d4) := B5.out.cell 4
  have t5 : w5.cell? ⟨w.heap.size, 5, none⟩ = some (.slice (some ⟨cb, 0, none⟩) n d5) := B5.out.cell 5
  have CP := Lib.hid (copy_sq n1 (copy_sqI (by omega)) _ w5 (rinst_sq (A := A3) (B := A4) M5.out hf.out l3 l4))
  go_upto_region 5 with (fail)
  go_cut [8] (fun t8 wx => ∃ h A6 e6 A7 e7 cb2 e8 us2 g2 cp2 lo2 hi2, t8 = .pointer (some ⟨h, 0, none⟩) ∧ Hid (Blk wx h 25 #[.int .i64 2, .int .i64 n, .int .i64 0, .slice A6 0 e6, .slice A7 0 e7, .slice (some ⟨cb2, 0, none⟩) n e8]) ∧ Hid (MatS wx lo2 hi2 cb2 e8 n us2 g2 cp2 f) ∧ e6 ≤ maxLen ∧ e7 ≤ maxLen ∧ Hid (w5.heap.size ≤ lo2 ∧ hi2 ≤ h) ∧ Hid (Ext w5 wx))
  case first =>
    go_wp2_with (fail)
    refine CP.out.mono ?_
    rintro e w6 ⟨A6, e6, A7, e7, cb2, e8, us2, g2, cp2, rfl, N6, l6, l7, x6⟩
    have xa : Ext w6 (w6.alloc (.cells #[.int .i64 2, .int .i64 n, .int .i64 0, .slice A6 0 e6, .slice A7 0 e7, .slice (some ⟨cb2, 0, none⟩) n e8] 25)) := (Ext.rf w6).alloc _
    have FIN := Lib.hid (And.intro (N6.ext xa) (x6.tr xa))
    clear N6 x6 xa CP
    go_wp2_with (fail)
    go_meet
    exact ⟨w6.heap.size, A6, e6, A7, e7, cb2, e8, us2, g2, cp2, w5.heap.size, w6.heap.size, rfl, .new rfl, FIN.out.1, l6, l7, ⟨Nat.le_refl _, Nat.le_refl _⟩, FIN.out.2⟩
  case rest =>
  obtain ⟨h, A6, e6, A7, e7, cb2, e8, us2, g2, cp2, lo2, hi2, rfl, H6, N6, l6, l7, zh, x6⟩ := hcut
  obtain ⟨w6, rfl⟩ : ∃ w6 : World, w6 = wc := ⟨_, rfl⟩
  have B6 := Lib.hid (B5.out.ext x6.out)
  have M6 := Lib.hid (M5.out.ext x6.out)
  have X6 := Lib.hid (X5.out.tr x6.out)
  have zz : Hid (s1 ≤ lo2 ∧ hi2 ≤ h ∧ w.heap.size < s1) := ⟨Nat.le_trans z5.out zh.out.1, zh.out.2, z1.out⟩
  have zr := N6.out.ownlt
  replace zr := Lib.hid zr
  clear B5 M5 X5 x6 z5 z1 zh CP t0 t1 t2 t3 t4 t5
  have N7 : Hid (MatS w6 lo2 hi2 cb2 e8 n us2 g2 cp2 fun x y => if y < 0 then f y x else f x y) := N6.out.congr fun x y _ _ => by rw [if_neg (by omega)]
  clear N6
  go_wp2_with (fail)
  go_loopw [9] (fun v9 wr => ∃ a : Nat, v9 = .int .i64 a ∧ a ≤ n ∧ Hid (MatS wr lo2 hi2 cb2 e8 n us2 g2 cp2 fun x y => if y < a then f y x else f x y) ∧ Hid (Mod (fun k => lo2 ≤ k ∧ k < hi2) w6 wr)) (fun v9 _ => n - (intOf v9).toNat)
  case atStart => exact ⟨0, rfl, by omega, N7, Mod.rf _⟩
  case round =>
    clear N7
    obtain ⟨wo, rfl⟩ : ∃ wo : World, wo = wr := ⟨_, rfl⟩
    obtain ⟨a, rfl, ha, N7, HM⟩ := hrel
    have t1 : wo.cell? ⟨w.heap.size, 1, none⟩ = some (.int .i64 n) := (B6.out.mod HM.out (fun h => by have := zz.out; omega)).cell 1
    by_cases hlt : a < n
    · have q1 : (a : Int) < (n : Int) := by omega
      have wa : IntKind.i64.wrap ((a : Int) + 1) = ((a + 1 : Nat) : Int) := IntWalk.i64_in _ (by omega)
      have N8 : Hid (MatS wo lo2 hi2 cb2 e8 n us2 g2 cp2 fun x y => if y < a ∨ y = a ∧ x < 0 then f y x else f x y) := N7.out.congr fun x y _ _ => by
        by_cases e : y < a
        · rw [if_pos e, if_pos (.inl e)]
        · rw [if_neg e, if_neg (by omega)]
      clear N7
      go_wp2_with (fail)
      clear t1
      go_loopw [10] (fun v10 wr => ∃ b : Nat, v10 = .int .i64 b ∧ b ≤ n ∧ Hid (MatS wr lo2 hi2 cb2 e8 n us2 g2 cp2 fun x y => if y < a ∨ y = a ∧ x < b then f y x else f x y) ∧ Hid (Mod (fun k => lo2 ≤ k ∧ k < hi2) w6 wr)) (fun v10 _ => n - (intOf v10).toNat)
      case atStart => exact ⟨0, rfl, by omega, N8, HM⟩
      case round =>
        clear N8 HM
        obtain ⟨wi, rfl⟩ : ∃ wi : World, wi = wr := ⟨_, rfl⟩
        obtain ⟨b, rfl, hb, N8, HM⟩ := hrel
        have BB := B6.out.mod HM.out (fun h => by have := zz.out; omega)
        have HH := H6.out.mod HM.out (fun h => by have := zz.out; omega)
        have MM := M6.out.mod HM.out (fun k k1 k2 h => by have := zz.out; omega)
        have t1 : wi.cell? ⟨w.heap.size, 1, none⟩ = some (.int .i64 n) := BB.cell 1
        by_cases hbn : b < n
        · have q2 : (b : Int) < (n : Int) := by omega
          have wb : IntKind.i64.wrap ((b : Int) + 1) = ((b + 1 : Nat) : Int) := IntWalk.i64_in _ (by omega)
          have t5 : wi.cell? ⟨w.heap.size, 5, none⟩ = some (.slice (some ⟨cb, 0, none⟩) n d5) := BB.cell 5
          have s5 : wi.cell? ⟨h, 5, none⟩ = some (.slice (some ⟨cb2, 0, none⟩) n e8) := HH.cell 5
          have k1 := MM.cell hlt
          have k2 := (MM.row a hlt).2.2.cell hbn
          have k3 := N8.out.cell hbn
          have k4 := (N8.out.row b hbn).2.2.cell hlt
          have k5 := (N8.out.row b hbn).2.2.free a
          have N9 : Hid (MatS (wi.setCell ⟨g2 b, a, none⟩ (.int .i64 (f a b))) lo2 hi2 cb2 e8 n us2 g2 cp2 fun x y => if y < a ∨ y = a ∧ x < b + 1 then f y x else f x y) := (N8.out.set hbn a (f a b)).congr fun x y _ _ => by
            by_cases e : x = b ∧ y = a
            · rw [if_pos e, if_pos (.inr ⟨e.2, by omega⟩), e.1, e.2]
            · rw [if_neg e]
              by_cases e2 : y < a ∨ y = a ∧ x < b
              · rw [if_pos e2, if_pos (by omega)]
              · rw [if_neg e2, if_neg (by omega)]
          have HM2 : Hid (Mod (fun k => lo2 ≤ k ∧ k < hi2) w6 (wi.setCell ⟨g2 b, a, none⟩ (.int .i64 (f a b)))) := HM.out.set (p := ⟨g2 b, a, none⟩) (.inl ⟨(N8.out.row b hbn).1, (N8.out.row b hbn).2.1⟩) _
          clear BB HH MM N8 HM
          generalize f a b = x at *
          generalize g a = ga at *
          generalize g2 b = gb at *
          generalize cp a = ca at *
          generalize cp2 b = cb' at *
          go_wp2_with (fail)
          refine wp_region_any (by kernel_rfl) ?_
          change wpAny _ _ _ _ _ _ _ (World.drew _)
          refine wpAny_T (i := 0) (op := Op.fieldAddr 25 (Operand.tmp 8) 5) (t := 0) (d := some 61) (v := ?_) rfl (by decide +kernel) (by decide +kernel) (by decide +kernel) (fun _ _ _ h => h) ?_ ?_
          case refine_2 => (intro _; unfold exec2; go_simp; try with_reducible rfl)
          try simp only [Act.put, List.setIfInBounds_toArray, List.set_cons_zero, List.set_cons_succ]
          refine wpAny_T (i := 2) (op := Op.move (Operand.tmp 10)) (t := 3) (d := some 63) (v := ?_) rfl (by decide +kernel) (by decide +kernel) (by decide +kernel) (fun _ _ _ h => h) ?_ ?_
          case refine_2 => (intro _; unfold exec2; go_simp; try with_reducible rfl)
          try simp only [Act.put, List.setIfInBounds_toArray, List.set_cons_zero, List.set_cons_succ]
          refine wpAny_T (i := 5) (op := Op.move (Operand.tmp 9)) (t := 3) (d := some 66) (v := ?_) rfl (by decide +kernel) (by decide +kernel) (by decide +kernel) (fun _ _ _ h => h) ?_ ?_
          case refine_2 => (intro _; unfold exec2; go_simp; try with_reducible rfl)
          try simp only [Act.put, List.setIfInBounds_toArray, List.set_cons_zero, List.set_cons_succ]
          refine wpAny_T (i := 6) (op := Op.fieldAddr 25 (Operand.tmp 2) 5) (t := 0) (d := some 67) (v := ?_) rfl (by decide +kernel) (by decide +kernel) (by decide +kernel) (fun _ _ _ h => h) ?_ ?_
          case refine_2 => (intro _; unfold exec2; go_simp; try with_reducible rfl)
          try simp only [Act.put, List.setIfInBounds_toArray, List.set_cons_zero, List.set_cons_succ]
          refine wpAny_T (i := 8) (op := Op.move (Operand.tmp 9)) (t := 3) (d := some 69) (v := ?_) rfl (by decide +kernel) (by decide +kernel) (by decide +kernel) (fun _ _ _ h => h) ?_ ?_
          case refine_2 => (intro _; unfold exec2; go_simp; try with_reducible rfl)
          try simp only [Act.put, List.setIfInBounds_toArray, List.set_cons_zero, List.set_cons_succ]
          refine wpAny_T (i := 11) (op := Op.move (Operand.tmp 10)) (t := 3) (d := some 72) (v := ?_) rfl (by decide +kernel) (by decide +kernel) (by decide +kernel) (fun _ _ _ h => h) ?_ ?_
          case refine_2 => (intro _; unfold exec2; go_simp; try with_reducible rfl)
          try simp only [Act.put, List.setIfInBounds_toArray, List.set_cons_zero, List.set_cons_succ]
          refine wpAny_reads (n := 2) [(1, some 62), (3, some 64), (4, some 65), (7, some 68), (9, some 70), (10, some 71), (12, some 73), (13, some 74)] (fun | 1 => .slice (some ⟨cb2, 0, none⟩) n e8 | 3 => .pointer (some ⟨cb2, b, none⟩) | 4 => .slice (some ⟨gb, 0, none⟩) n cb' | 7 => .slice (some ⟨cb, 0, none⟩) n d5 | 9 => .pointer (some ⟨cb, a, none⟩) | 10 => .slice (some ⟨ga, 0, none⟩) n ca | 12 => .pointer (some ⟨ga, b, none⟩) | 13 => .int .i64 x | _ => undef) #[true, true, true, true, true, true, true, true, true, true, true, true, true, true, false, false] (by decide +kernel) ?_ ?_
          · intro pS hpm uS hD K hK
            simp only [List.mem_cons, List.not_mem_nil, or_false] at hpm
            rcases hpm with rfl | rfl | rfl | rfl | rfl | rfl | rfl | rfl
            · exact op_ld (T := 23) (x := Operand.tmp 61) (t := 23) (d := some 62) rfl (.pointer (some ⟨h, 5, none⟩)) (by kernel_rfl) (.slice (some ⟨cb2, 0, none⟩) n e8) (by go_simp) hK
            · exact op_ix (T := 23) (x := Operand.tmp 62) (y := Operand.tmp 63) (t := 0) (d := some 64) rfl (.slice (some ⟨cb2, 0, none⟩) n e8) (.int .i64 b) (Eq.trans (b := uS 1) (by kernel_rfl) (hD 1 (depIn (by kernel_rfl)))) (by kernel_rfl) (.pointer (some ⟨cb2, b, none⟩)) (by go_simp) hK
            · exact op_ld (T := 22) (x := Operand.tmp 64) (t := 22) (d := some 65) rfl (.pointer (some ⟨cb2, b, none⟩)) (Eq.trans (b := uS 3) (by kernel_rfl) (hD 3 (depIn (by kernel_rfl)))) (.slice (some ⟨gb, 0, none⟩) n cb') (by go_simp) hK
            · exact op_ld (T := 23) (x := Operand.tmp 67) (t := 23) (d := some 68) rfl (.pointer (some ⟨w.heap.size, 5, none⟩)) (by kernel_rfl) (.slice (some ⟨cb, 0, none⟩) n d5) (by go_simp) hK
            · exact op_ix (T := 23) (x := Operand.tmp 68) (y := Operand.tmp 69) (t := 0) (d := some 70) rfl (.slice (some ⟨cb, 0, none⟩) n d5) (.int .i64 a) (Eq.trans (b := uS 7) (by kernel_rfl) (hD 7 (depIn (by kernel_rfl)))) (by kernel_rfl) (.pointer (some ⟨cb, a, none⟩)) (by go_simp) hK
            · exact op_ld (T := 22) (x := Operand.tmp 70) (t := 22) (d := some 71) rfl (.pointer (some ⟨cb, a, none⟩)) (Eq.trans (b := uS 9) (by kernel_rfl) (hD 9 (depIn (by kernel_rfl)))) (.slice (some ⟨ga, 0, none⟩) n ca) (by go_simp) hK
            · exact op_ix (T := 22) (x := Operand.tmp 71) (y := Operand.tmp 72) (t := 0) (d := some 73) rfl (.slice (some ⟨ga, 0, none⟩) n ca) (.int .i64 b) (Eq.trans (b := uS 10) (by kernel_rfl) (hD 10 (depIn (by kernel_rfl)))) (by kernel_rfl) (.pointer (some ⟨ga, b, none⟩)) (by go_simp) hK
            · exact op_ld (T := 3) (x := Operand.tmp 73) (t := 3) (d := some 74) rfl (.pointer (some ⟨ga, b, none⟩)) (Eq.trans (b := uS 12) (by kernel_rfl) (hD 12 (depIn (by kernel_rfl)))) (.int .i64 x) (by go_simp) hK
          simp only [putAll, Act.put, List.setIfInBounds_toArray, List.set_cons_zero, List.set_cons_succ]
          refine wpAny_T (i := 14) (op := Op.indexAddr 22 (Operand.tmp 65) (Operand.tmp 66)) (t := 0) (d := some 75) (v := ?_) rfl (by decide +kernel) (by decide +kernel) (by decide +kernel) (fun _ _ _ h => h) ?_ ?_
          case refine_2 => (intro _; unfold exec2; go_simp; try with_reducible rfl)
          try simp only [Act.put, List.setIfInBounds_toArray, List.set_cons_zero, List.set_cons_succ]
          refine wpAny_next 15 (by decide +kernel) (op_st rfl (.pointer (some ⟨gb, a, none⟩)) (.int .i64 x) (by kernel_rfl) (by kernel_rfl) (by go_simp; rfl) ?_)
          refine wpAny_done (by kernel_rfl) ?_ _
          clear k1 k2 k3 k4 k5 t1 t5 s5
          generalize wi.setCell ⟨gb, a, none⟩ (.int .i64 x) = w8 at *
          go_simp
          go_wp2_with (fail)
          go_roundw
          case rel => exact ⟨b + 1, by go_num, by omega, N9.out.ext ((Ext.rf _).drew), HM2.out.drew⟩
          case measure => simp [intOf]; omega
        · obtain rfl : b = n := by omega
          have N9 : Hid (MatS wi lo2 hi2 cb2 e8 b us2 g2 cp2 fun x y => if y < a + 1 then f y x else f x y) := N8.out.congr fun x y hx _ => by
            by_cases e : y < a ∨ y = a ∧ x < b
            · rw [if_pos e, if_pos (by omega)]
            · rw [if_neg e, if_neg (by omega)]
          clear N8 BB HH MM
          go_wp2_with (fail)
          go_roundw
          case rel => exact ⟨a + 1, by go_num, by omega, N9, HM⟩
          case measure => simp [intOf]; omega
    · obtain rfl : n = a := by omega
      have NT := N7.out.congr (f' := fun x y => f y x) (fun x y _ hy => by rw [if_pos hy])
      have BB := B6.out.mod HM.out (fun h => by have := zz.out; omega)
      have HH := H6.out.mod HM.out (fun h => by have := zz.out; omega)
      have MM := M6.out.mod HM.out (fun k k1 k2 h => by have := zz.out; omega)
      have XO := X6.out.mod HM.out (fun k k1 h => by have := zz.out; omega)
      have s0 : wo.cell? ⟨h, 0, none⟩ = some (.int .i64 2) := HH.cell 0
      have s1' : wo.cell? ⟨h, 1, none⟩ = some (.int .i64 n) := HH.cell 1
      have s2 : wo.cell? ⟨h, 2, none⟩ = some (.int .i64 0) := HH.cell 2
      have s3 : wo.cell? ⟨h, 3, none⟩ = some (.slice A6 0 e6) := HH.cell 3
      have s4 : wo.cell? ⟨h, 4, none⟩ = some (.slice A7 0 e7) := HH.cell 4
      have s5 : wo.cell? ⟨h, 5, none⟩ = some (.slice (some ⟨cb2, 0, none⟩) n e8) := HH.cell 5
      have AS := Lib.hid (asg_sq (A := A6) (B := A7) n1 (by omega) (fun x y hx hy => hf.out y x hy hx) l6 l7 NT)
      replace BB := Lib.hid BB
      replace MM := Lib.hid MM
      replace XO := Lib.hid XO
      clear NT HH N7 HM
      go_wp2_with (fail)
      refine AS.out.mono ?_
      rintro e w9 ⟨X2, xc2, vd, rfl, LD, x9⟩
      obtain rfl : vc = vd := (LC.out.turn (rowsT := rowsF n fun x y => f y x) (rowsF_len _ _) (rowsF_len _ _) (fun x y hx hy => by rw [rowsF_cost hy hx, rowsF_cost hx hy])).one LD
      have B9 := Lib.hid (BB.out.ext x9)
      have M9 : Hid (MatS w9 (w.heap.size + 1) s1 cb d5 n us g cp fun x y => if x < 0 then f x y + upF xs x else f x y) := (MM.out.ext x9).congr fun x y _ _ => by rw [if_neg (by omega)]
      have X9 := Lib.hid (XO.out.tr x9)
      have vb := Lib.hid (costF_bd hf.out LC.out)
      clear BB MM XO x9 LD AS s0 s1' s2 s3 s4 s5 B6 M6 X6 H6 t1
      go_wp2_with (fail)
      go_loopw [14, 15] (fun v14 v15 wr => ∃ a : Nat, v15 = .int .i64 a ∧ v14 = .int .i64 (sumL ((List.range a).map (upF xs))) ∧ a ≤ n ∧ Hid (0 ≤ sumL ((List.range a).map (upF xs)) ∧ sumL ((List.range a).map (upF xs)) ≤ a * 999) ∧ Hid (∀ x y, x < a → y < n → f x y ≤ 2147481648) ∧ Hid (MatS wr (w.heap.size + 1) s1 cb d5 n us g cp fun x y => if x < a then f x y + upF xs x else f x y) ∧ Hid (Mod (fun k => w.heap.size + 1 ≤ k ∧ k < s1) w9 wr)) (fun _ v15 _ => n - (intOf v15).toNat)
      case atStart => exact ⟨0, rfl, rfl, by omega, ⟨Int.le_refl _, by simp [sumL]⟩, fun x y h => by omega, M9, Mod.rf _⟩
      case round =>
        clear M9
        obtain ⟨wp, rfl⟩ : ∃ wp : World, wp = wr := ⟨_, rfl⟩
        obtain ⟨a, rfl, rfl, ha, SB, FB, M9, HM⟩ := hrel
        have BB := B9.out.mod HM.out (fun h => by omega)
        have t1 : wp.cell? ⟨w.heap.size, 1, none⟩ = some (.int .i64 n) := BB.cell 1
        by_cases han : a < n
        · have q1 : (a : Int) < (n : Int) := by omega
          have wa : IntKind.i64.wrap ((a : Int) + 1) = ((a + 1 : Nat) : Int) := IntWalk.i64_in _ (by omega)
          have SS : Hid (sumL ((List.range (a + 1)).map (upF xs)) = sumL ((List.range a).map (upF xs)) + upF xs a) := by
            have h9 : sumL ((List.range (a + 1)).map (upF xs)) = sumL ((List.range a).map (upF xs)) + upF xs a := by
              rw [List.range_succ, List.map_append, sumL_append]
              simp [sumL]
            exact h9
          have ub := upF_bd xs a
          have M10 : Hid (MatS wp (w.heap.size + 1) s1 cb d5 n us g cp fun x y => if x < a ∨ x = a ∧ y < 0 then f x y + upF xs x else f x y) := M9.out.congr fun x y _ _ => by
            by_cases e : x < a
            · rw [if_pos e, if_pos (.inl e)]
            · rw [if_neg e, if_neg (by omega)]
          have RX := hP.out.ext (X9.out.mod HM.out (fun k k1 h => by omega))
          replace BB := Lib.hid BB
          clear M9
          obtain ⟨su, hsu⟩ : ∃ su, Hid (sumL ((List.range a).map (upF xs)) = su) := ⟨_, rfl⟩
          rw [hsu.out] at SB SS ⊢
          obtain ⟨up, hup⟩ : ∃ up, Hid (upF xs a = up) := ⟨_, rfl⟩
          rw [hup.out] at SS ub
          have sb := SB.out
          have wsum : IntKind.i64.wrap (su + up) = su + up := IntWalk.i64_in _ (by omega)
          by_cases hax : a < xs.length
          · obtain ⟨pb, po, x, rfl, zp, cpx, ex, _⟩ := RX.at hax
            have e1 : (IntKind.u64.wrap x).tmod 1000 = up := by
              have h1 := hup.out
              unfold upF at h1
              rwa [if_pos hax, getD_some ex.out] at h1
            have e2 : IntKind.u64.wrap up = up := by
              simp only [IntKind.wrap, IntKind.signed, IntKind.bits]
              simp
              omega
            have e3 : IntKind.i64.wrap up = up := IntWalk.i64_in _ (by omega)
            have q3 : (a : Int) < (xs.length : Int) := by omega
            clear RX ex
            go_wp2_with (fail)
            clear t1
            go_loopw [17] (fun v17 wr => ∃ b : Nat, v17 = .int .i64 b ∧ b ≤ n ∧ Hid (∀ y, y < b → f a y ≤ 2147481648) ∧ Hid (MatS wr (w.heap.size + 1) s1 cb d5 n us g cp fun x y => if x < a ∨ x = a ∧ y < b then f x y + upF xs x else f x y) ∧ Hid (Mod (fun k => w.heap.size + 1 ≤ k ∧ k < s1) w9 wr)) (fun v17 _ => n - (intOf v17).toNat)
            case atStart => exact ⟨0, rfl, by omega, fun y hy => by omega, M10, HM⟩
            case round =>
              clear M10 HM BB
              obtain ⟨wi, rfl⟩ : ∃ wi : World, wi = wr := ⟨_, rfl⟩
              obtain ⟨b, rfl, hb, FC, M10, HM⟩ := hrel
              have BB := B9.out.mod HM.out (fun h => by omega)
              have t1 : wi.cell? ⟨w.heap.size, 1, none⟩ = some (.int .i64 n) := BB.cell 1
              by_cases hbn : b < n
              · have q2 : (b : Int) < (n : Int) := by omega
                have wb : IntKind.i64.wrap ((b : Int) + 1) = ((b + 1 : Nat) : Int) := IntWalk.i64_in _ (by omega)
                have t5 : wi.cell? ⟨w.heap.size, 5, none⟩ = some (.slice (some ⟨cb, 0, none⟩) n d5) := BB.cell 5
                have k1 := M10.out.cell han
                have k2 := (M10.out.row a han).2.2.cell hbn
                have k3 := (M10.out.row a han).2.2.free b
                rw [if_neg (by omega)] at k2
                have fb := hf.out a b han hbn
                obtain ⟨x, hx⟩ : ∃ x, Hid (f a b = x) := ⟨_, rfl⟩
                rw [hx.out] at k2 fb
                by_cases hbig : 2147481648 < x
                · have t6 : True := trivial
                  clear BB FC M10
                  have XE := Lib.hid (X9.out.mod HM.out (fun k k1 h => by omega))
                  generalize g a = ga at *
                  generalize cp a = ca at *
                  go_wp2_with (fail)
                  go_ret
                  exact ⟨rfl, XE.out.tr (by (repeat (first | assumption | exact Ext.rf _ | apply Ext.drew | apply Ext.drewN | apply Ext.alloc)))⟩
                · have wx : IntKind.i64.wrap (x + up) = x + up := IntWalk.i64_in _ (by omega)
                  have M11 : Hid (MatS (wi.setCell ⟨g a, b, none⟩ (.int .i64 (x + up))) (w.heap.size + 1) s1 cb d5 n us g cp fun x y => if x < a ∨ x = a ∧ y < b + 1 then f x y + upF xs x else f x y) := (M10.out.set han b (x + up)).congr fun i j _ _ => by
                    by_cases e : i = a ∧ j = b
                    · rw [if_pos e, if_pos (.inr ⟨e.1, by omega⟩), e.1, e.2, hx.out, hup.out]
                    · rw [if_neg e]
                      by_cases e2 : i < a ∨ i = a ∧ j < b
                      · rw [if_pos e2, if_pos (by omega)]
                      · rw [if_neg e2, if_neg (by omega)]
                  have HM2 : Hid (Mod (fun k => w.heap.size + 1 ≤ k ∧ k < s1) w9 (wi.setCell ⟨g a, b, none⟩ (.int .i64 (x + up)))) := HM.out.set (p := ⟨g a, b, none⟩) (.inl ⟨(M10.out.row a han).1, (M10.out.row a han).2.1⟩) _
                  have FC2 : Hid (∀ y, y < b + 1 → f a y ≤ 2147481648) := fun y hy => by
                    by_cases e : y = b
                    · rw [e, hx.out]; omega
                    · exact FC.out y (by omega)
                  clear BB M10 HM FC
                  generalize g a = ga at *
                  generalize cp a = ca at *
                  go_wp2_with (fail)
                  refine wp_region_any (by kernel_rfl) ?_
                  change wpAny _ _ _ _ _ _ _ (World.drew _)
                  refine wpAny_T (i := 0) (op := Op.fieldAddr 25 (Operand.tmp 2) 5) (t := 0) (d := some 128) (v := ?_) rfl (by decide +kernel) (by decide +kernel) (by decide +kernel) (fun _ _ _ h => h) ?_ ?_
                  case refine_2 => (intro _; unfold exec2; go_simp; try with_reducible rfl)
                  try simp only [Act.put, List.setIfInBounds_toArray, List.set_cons_zero, List.set_cons_succ]
                  refine wpAny_T (i := 2) (op := Op.move (Operand.tmp 15)) (t := 3) (d := some 130) (v := ?_) rfl (by decide +kernel) (by decide +kernel) (by decide +kernel) (fun _ _ _ h => h) ?_ ?_
                  case refine_2 => (intro _; unfold exec2; go_simp; try with_reducible rfl)
                  try simp only [Act.put, List.setIfInBounds_toArray, List.set_cons_zero, List.set_cons_succ]
                  refine wpAny_T (i := 5) (op := Op.move (Operand.tmp 17)) (t := 3) (d := some 133) (v := ?_) rfl (by decide +kernel) (by decide +kernel) (by decide +kernel) (fun _ _ _ h => h) ?_ ?_
                  case refine_2 => (intro _; unfold exec2; go_simp; try with_reducible rfl)
                  try simp only [Act.put, List.setIfInBounds_toArray, List.set_cons_zero, List.set_cons_succ]
                  refine wpAny_T (i := 6) (op := Op.fieldAddr 25 (Operand.tmp 2) 5) (t := 0) (d := some 134) (v := ?_) rfl (by decide +kernel) (by decide +kernel) (by decide +kernel) (fun _ _ _ h => h) ?_ ?_
                  case refine_2 => (intro _; unfold exec2; go_simp; try with_reducible rfl)
                  try simp only [Act.put, List.setIfInBounds_toArray, List.set_cons_zero, List.set_cons_succ]
                  refine wpAny_T (i := 8) (op := Op.move (Operand.tmp 15)) (t := 3) (d := some 136) (v := ?_) rfl (by decide +kernel) (by decide +kernel) (by decide +kernel) (fun _ _ _ h => h) ?_ ?_
                  case refine_2 => (intro _; unfold exec2; go_simp; try with_reducible rfl)
                  try simp only [Act.put, List.setIfInBounds_toArray, List.set_cons_zero, List.set_cons_succ]
                  refine wpAny_T (i := 11) (op := Op.move (Operand.tmp 17)) (t := 3) (d := some 139) (v := ?_) rfl (by decide +kernel) (by decide +kernel) (by decide +kernel) (fun _ _ _ h => h) ?_ ?_
                  case refine_2 => (intro _; unfold exec2; go_simp; try with_reducible rfl)
                  try simp only [Act.put, List.setIfInBounds_toArray, List.set_cons_zero, List.set_cons_succ]
                  refine wpAny_T (i := 14) (op := Op.move (Operand.tmp 16)) (t := 3) (d := some 142) (v := ?_) rfl (by decide +kernel) (by decide +kernel) (by decide +kernel) (fun _ _ _ h => h) ?_ ?_
                  case refine_2 => (intro _; unfold exec2; go_simp; try with_reducible rfl)
                  try simp only [Act.put, List.setIfInBounds_toArray, List.set_cons_zero, List.set_cons_succ]
                  refine wpAny_reads (n := 2) [(1, some 129), (3, some 131), (4, some 132), (7, some 135), (9, some 137), (10, some 138), (12, some 140), (13, some 141), (15, some 143)] (fun | 1 => .slice (some ⟨cb, 0, none⟩) n d5 | 3 => .pointer (some ⟨cb, a, none⟩) | 4 => .slice (some ⟨ga, 0, none⟩) n ca | 7 => .slice (some ⟨cb, 0, none⟩) n d5 | 9 => .pointer (some ⟨cb, a, none⟩) | 10 => .slice (some ⟨ga, 0, none⟩) n ca | 12 => .pointer (some ⟨ga, b, none⟩) | 13 => .int .i64 x | 15 => .int .i64 (x + up) | _ => undef) #[true, true, true, true, true, true, true, true, true, true, true, true, true, true, true, true, false, false] (by decide +kernel) ?_ ?_
                  · intro pS hpm uS hD K hK
                    simp only [List.mem_cons, List.not_mem_nil, or_false] at hpm
                    rcases hpm with rfl | rfl | rfl | rfl | rfl | rfl | rfl | rfl | rfl
                    · exact op_ld (T := 23) (x := Operand.tmp 128) (t := 23) (d := some 129) rfl (.pointer (some ⟨w.heap.size, 5, none⟩)) (by kernel_rfl) (.slice (some ⟨cb, 0, none⟩) n d5) (by go_simp) hK
                    · exact op_ix (T := 23) (x := Operand.tmp 129) (y := Operand.tmp 130) (t := 0) (d := some 131) rfl (.slice (some ⟨cb, 0, none⟩) n d5) (.int .i64 a) (Eq.trans (b := uS 1) (by kernel_rfl) (hD 1 (depIn (by kernel_rfl)))) (by kernel_rfl) (.pointer (some ⟨cb, a, none⟩)) (by go_simp) hK
                    · exact op_ld (T := 22) (x := Operand.tmp 131) (t := 22) (d := some 132) rfl (.pointer (some ⟨cb, a, none⟩)) (Eq.trans (b := uS 3) (by kernel_rfl) (hD 3 (depIn (by kernel_rfl)))) (.slice (some ⟨ga, 0, none⟩) n ca) (by go_simp) hK
                    · exact op_ld (T := 23) (x := Operand.tmp 134) (t := 23) (d := some 135) rfl (.pointer (some ⟨w.heap.size, 5, none⟩)) (by kernel_rfl) (.slice (some ⟨cb, 0, none⟩) n d5) (by go_simp) hK
                    · exact op_ix (T := 23) (x := Operand.tmp 135) (y := Operand.tmp 136) (t := 0) (d := some 137) rfl (.slice (some ⟨cb, 0, none⟩) n d5) (.int .i64 a) (Eq.trans (b := uS 7) (by kernel_rfl) (hD 7 (depIn (by kernel_rfl)))) (by kernel_rfl) (.pointer (some ⟨cb, a, none⟩)) (by go_simp) hK
                    · exact op_ld (T := 22) (x := Operand.tmp 137) (t := 22) (d := some 138) rfl (.pointer (some ⟨cb, a, none⟩)) (Eq.trans (b := uS 9) (by kernel_rfl) (hD 9 (depIn (by kernel_rfl)))) (.slice (some ⟨ga, 0, none⟩) n ca) (by go_simp) hK
                    · exact op_ix (T := 22) (x := Operand.tmp 138) (y := Operand.tmp 139) (t := 0) (d := some 140) rfl (.slice (some ⟨ga, 0, none⟩) n ca) (.int .i64 b) (Eq.trans (b := uS 10) (by kernel_rfl) (hD 10 (depIn (by kernel_rfl)))) (by kernel_rfl) (.pointer (some ⟨ga, b, none⟩)) (by go_simp) hK
                    · exact op_ld (T := 3) (x := Operand.tmp 140) (t := 3) (d := some 141) rfl (.pointer (some ⟨ga, b, none⟩)) (Eq.trans (b := uS 12) (by kernel_rfl) (hD 12 (depIn (by kernel_rfl)))) (.int .i64 x) (by go_simp) hK
                    · (have e13 : uS 13 = .int .i64 x := hD 13 (depIn (by kernel_rfl)); exact op_run (op := Op.binOp BinOp.add 3 (Operand.tmp 141) (Operand.tmp 142) 3) (t := 3) (d := some 143) rfl (.int .i64 (x + up)) (by simp only [putAll, Act.put, List.setIfInBounds_toArray, List.set_cons_zero, List.set_cons_succ]; unfold exec2; go_simp; try simp only [e13]; try go_simp) hK)
                  simp only [putAll, Act.put, List.setIfInBounds_toArray, List.set_cons_zero, List.set_cons_succ]
                  refine wpAny_T (i := 16) (op := Op.indexAddr 22 (Operand.tmp 132) (Operand.tmp 133)) (t := 0) (d := some 144) (v := ?_) rfl (by decide +kernel) (by decide +kernel) (by decide +kernel) (fun _ _ _ h => h) ?_ ?_
                  case refine_2 => (intro _; unfold exec2; go_simp; try with_reducible rfl)
                  try simp only [Act.put, List.setIfInBounds_toArray, List.set_cons_zero, List.set_cons_succ]
                  refine wpAny_next 17 (by decide +kernel) (op_st rfl (.pointer (some ⟨ga, b, none⟩)) (.int .i64 (x + up)) (by kernel_rfl) (by kernel_rfl) (by go_simp; rfl) ?_)
                  refine wpAny_done (by kernel_rfl) ?_ _
                  clear k1 k2 k3 t1 t5
                  generalize wi.setCell ⟨ga, b, none⟩ (.int .i64 (x + up)) = w8 at *
                  go_simp
                  go_wp2_with (fail)
                  go_roundw
                  case rel => exact ⟨b + 1, by go_num, by omega, FC2, M11.out.ext ((Ext.rf _).drew), HM2.out.drew⟩
                  case measure => simp [intOf]; omega
              · obtain rfl : n = b := by omega
                have M11 : Hid (MatS wi (w.heap.size + 1) s1 cb d5 n us g cp fun x y => if x < a + 1 then f x y + upF xs x else f x y) := M10.out.congr fun x y _ hy => by
                  by_cases e : x < a ∨ x = a ∧ y < n
                  · rw [if_pos e, if_pos (by omega)]
                  · rw [if_neg e, if_neg (by omega)]
                have FB2 : Hid (∀ x y, x < a + 1 → y < n → f x y ≤ 2147481648) := fun x y hx hy => by
                  by_cases e : x = a
                  · rw [e]; exact FC.out y hy
                  · exact FB.out x y (by omega) hy
                clear M10 BB
                go_wp2_with (fail)
                go_roundw
                case rel => exact ⟨a + 1, by go_num, by rw [SS.out], by omega, by rw [SS.out]; exact ⟨by omega, by omega⟩, FB2, M11, HM⟩
                case measure => simp [intOf]; omega
          · have q3 : ¬ (a : Int) < (xs.length : Int) := by omega
            obtain rfl : up = 0 := by
              have h1 := hup.out
              unfold upF at h1
              rw [if_neg hax] at h1
              exact h1.symm
            clear RX
            go_wp2_with (fail)
            clear t1
            go_loopw [17] (fun v17 wr => ∃ b : Nat, v17 = .int .i64 b ∧ b ≤ n ∧ Hid (∀ y, y < b → f a y ≤ 2147481648) ∧ Hid (MatS wr (w.heap.size + 1) s1 cb d5 n us g cp fun x y => if x < a ∨ x = a ∧ y < b then f x y + upF xs x else f x y) ∧ Hid (Mod (fun k => w.heap.size + 1 ≤ k ∧ k < s1) w9 wr)) (fun v17 _ => n - (intOf v17).toNat)
            case atStart => exact ⟨0, rfl, by omega, fun y hy => by omega, M10, HM⟩
            case round =>
              clear M10 HM BB
              obtain ⟨wi, rfl⟩ : ∃ wi : World, wi = wr := ⟨_, rfl⟩
              obtain ⟨b, rfl, hb, FC, M10, HM⟩ := hrel
              have BB := B9.out.mod HM.out (fun h => by omega)
              have t1 : wi.cell? ⟨w.heap.size, 1, none⟩ = some (.int .i64 n) := BB.cell 1
              by_cases hbn : b < n
              · have q2 : (b : Int) < (n : Int) := by omega
                have wb : IntKind.i64.wrap ((b : Int) + 1) = ((b + 1 : Nat) : Int) := IntWalk.i64_in _ (by omega)
                have t5 : wi.cell? ⟨w.heap.size, 5, none⟩ = some (.slice (some ⟨cb, 0, none⟩) n d5) := BB.cell 5
                have k1 := M10.out.cell han
                have k2 := (M10.out.row a han).2.2.cell hbn
                have k3 := (M10.out.row a han).2.2.free b
                rw [if_neg (by omega)] at k2
                have fb := hf.out a b han hbn
                obtain ⟨x, hx⟩ : ∃ x, Hid (f a b = x) := ⟨_, rfl⟩
                rw [hx.out] at k2 fb
                by_cases hbig : 2147481648 < x
                · have t6 : True := trivial
                  clear BB FC M10
                  have XE := Lib.hid (X9.out.mod HM.out (fun k k1 h => by omega))
                  generalize g a = ga at *
                  generalize cp a = ca at *
                  go_wp2_with (fail)
                  go_ret
                  exact ⟨rfl, XE.out.tr (by (repeat (first | assumption | exact Ext.rf _ | apply Ext.drew | apply Ext.drewN | apply Ext.alloc)))⟩
                · have wx : IntKind.i64.wrap x = x := IntWalk.i64_in _ (by omega)
                  have M11 : Hid (MatS (wi.setCell ⟨g a, b, none⟩ (.int .i64 x)) (w.heap.size + 1) s1 cb d5 n us g cp fun x y => if x < a ∨ x = a ∧ y < b + 1 then f x y + upF xs x else f x y) := (M10.out.set han b x).congr fun i j _ _ => by
                    by_cases e : i = a ∧ j = b
                    · rw [if_pos e, if_pos (.inr ⟨e.1, by omega⟩), e.1, e.2, hx.out, hup.out, Int.add_zero]
                    · rw [if_neg e]
                      by_cases e2 : i < a ∨ i = a ∧ j < b
                      · rw [if_pos e2, if_pos (by omega)]
                      · rw [if_neg e2, if_neg (by omega)]
                  have HM2 : Hid (Mod (fun k => w.heap.size + 1 ≤ k ∧ k < s1) w9 (wi.setCell ⟨g a, b, none⟩ (.int .i64 x))) := HM.out.set (p := ⟨g a, b, none⟩) (.inl ⟨(M10.out.row a han).1, (M10.out.row a han).2.1⟩) _
                  have FC2 : Hid (∀ y, y < b + 1 → f a y ≤ 2147481648) := fun y hy => by
                    by_cases e : y = b
                    · rw [e, hx.out]; omega
                    · exact FC.out y (by omega)
                  clear BB M10 HM FC
                  generalize g a = ga at *
                  generalize cp a = ca at *
                  go_wp2_with (fail)
                  refine wp_region_any (by kernel_rfl) ?_
                  change wpAny _ _ _ _ _ _ _ (World.drew _)
                  refine wpAny_T (i := 0) (op := Op.fieldAddr 25 (Operand.tmp 2) 5) (t := 0) (d := some 128) (v := ?_) rfl (by decide +kernel) (by decide +kernel) (by decide +kernel) (fun _ _ _ h => h) ?_ ?_
                  case refine_2 => (intro _; unfold exec2; go_simp; try with_reducible rfl)
                  try simp only [Act.put, List.setIfInBounds_toArray, List.set_cons_zero, List.set_cons_succ]
                  refine wpAny_T (i := 2) (op := Op.move (Operand.tmp 15)) (t := 3) (d := some 130) (v := ?_) rfl (by decide +kernel) (by decide +kernel) (by decide +kernel) (fun _ _ _ h => h) ?_ ?_
                  case refine_2 => (intro _; unfold exec2; go_simp; try with_reducible rfl)
                  try simp only [Act.put, List.setIfInBounds_toArray, List.set_cons_zero, List.set_cons_succ]
                  refine wpAny_T (i := 5) (op := Op.move (Operand.tmp 17)) (t := 3) (d := some 133) (v := ?_) rfl (by decide +kernel) (by decide +kernel) (by decide +kernel) (fun _ _ _ h => h) ?_ ?_
                  case refine_2 => (intro _; unfold exec2; go_simp; try with_reducible rfl)
                  try simp only [Act.put, List.setIfInBounds_toArray, List.set_cons_zero, List.set_cons_succ]
                  refine wpAny_T (i := 6) (op := Op.fieldAddr 25 (Operand.tmp 2) 5) (t := 0) (d := some 134) (v := ?_) rfl (by decide +kernel) (by decide +kernel) (by decide +kernel) (fun _ _ _ h => h) ?_ ?_
                  case refine_2 => (intro _; unfold exec2; go_simp; try with_reducible rfl)
                  try simp only [Act.put, List.setIfInBounds_toArray, List.set_cons_zero, List.set_cons_succ]
                  refine wpAny_T (i := 8) (op := Op.move (Operand.tmp 15)) (t := 3) (d := some 136) (v := ?_) rfl (by decide +kernel) (by decide +kernel) (by decide +kernel) (fun _ _ _ h => h) ?_ ?_
                  case refine_2 => (intro _; unfold exec2; go_simp; try with_reducible rfl)
                  try simp only [Act.put, List.setIfInBounds_toArray, List.set_cons_zero, List.set_cons_succ]
                  refine wpAny_T (i := 11) (op := Op.move (Operand.tmp 17)) (t := 3) (d := some 139) (v := ?_) rfl (by decide +kernel) (by decide +kernel) (by decide +kernel) (fun _ _ _ h => h) ?_ ?_
                  case refine_2 => (intro _; unfold exec2; go_simp; try with_reducible rfl)
                  try simp only [Act.put, List.setIfInBounds_toArray, List.set_cons_zero, List.set_cons_succ]
                  refine wpAny_T (i := 14) (op := Op.move (Operand.tmp 16)) (t := 3) (d := some 142) (v := ?_) rfl (by decide +kernel) (by decide +kernel) (by decide +kernel) (fun _ _ _ h => h) ?_ ?_
                  case refine_2 => (intro _; unfold exec2; go_simp; try with_reducible rfl)
                  try simp only [Act.put, List.setIfInBounds_toArray, List.set_cons_zero, List.set_cons_succ]
                  refine wpAny_reads (n := 2) [(1, some 129), (3, some 131), (4, some 132), (7, some 135), (9, some 137), (10, some 138), (12, some 140), (13, some 141), (15, some 143)] (fun | 1 => .slice (some ⟨cb, 0, none⟩) n d5 | 3 => .pointer (some ⟨cb, a, none⟩) | 4 => .slice (some ⟨ga, 0, none⟩) n ca | 7 => .slice (some ⟨cb, 0, none⟩) n d5 | 9 => .pointer (some ⟨cb, a, none⟩) | 10 => .slice (some ⟨ga, 0, none⟩) n ca | 12 => .pointer (some ⟨ga, b, none⟩) | 13 => .int .i64 x | 15 => .int .i64 x | _ => undef) #[true, true, true, true, true, true, true, true, true, true, true, true, true, true, true, true, false, false] (by decide +kernel) ?_ ?_
                  · intro pS hpm uS hD K hK
                    simp only [List.mem_cons, List.not_mem_nil, or_false] at hpm
                    rcases hpm with rfl | rfl | rfl | rfl | rfl | rfl | rfl | rfl | rfl
                    · exact op_ld (T := 23) (x := Operand.tmp 128) (t := 23) (d := some 129) rfl (.pointer (some ⟨w.heap.size, 5, none⟩)) (by kernel_rfl) (.slice (some ⟨cb, 0, none⟩) n d5) (by go_simp) hK
                    · exact op_ix (T := 23) (x := Operand.tmp 129) (y := Operand.tmp 130) (t := 0) (d := some 131) rfl (.slice (some ⟨cb, 0, none⟩) n d5) (.int .i64 a) (Eq.trans (b := uS 1) (by kernel_rfl) (hD 1 (depIn (by kernel_rfl)))) (by kernel_rfl) (.pointer (some ⟨cb, a, none⟩)) (by go_simp) hK
                    · exact op_ld (T := 22) (x := Operand.tmp 131) (t := 22) (d := some 132) rfl (.pointer (some ⟨cb, a, none⟩)) (Eq.trans (b := uS 3) (by kernel_rfl) (hD 3 (depIn (by kernel_rfl)))) (.slice (some ⟨ga, 0, none⟩) n ca) (by go_simp) hK
                    · exact op_ld (T := 23) (x := Operand.tmp 134) (t := 23) (d := some 135) rfl (.pointer (some ⟨w.heap.size, 5, none⟩)) (by kernel_rfl) (.slice (some ⟨cb, 0, none⟩) n d5) (by go_simp) hK
                    · exact op_ix (T := 23) (x := Operand.tmp 135) (y := Operand.tmp 136) (t := 0) (d := some 137) rfl (.slice (some ⟨cb, 0, none⟩) n d5) (.int .i64 a) (Eq.trans (b := uS 7) (by kernel_rfl) (hD 7 (depIn (by kernel_rfl)))) (by kernel_rfl) (.pointer (some ⟨cb, a, none⟩)) (by go_simp) hK
                    · exact op_ld (T := 22) (x := Operand.tmp 137) (t := 22) (d := some 138) rfl (.pointer (some ⟨cb, a, none⟩)) (Eq.trans (b := uS 9) (by kernel_rfl) (hD 9 (depIn (by kernel_rfl)))) (.slice (some ⟨ga, 0, none⟩) n ca) (by go_simp) hK
                    · exact op_ix (T := 22) (x := Operand.tmp 138) (y := Operand.tmp 139) (t := 0) (d := some 140) rfl (.slice (some ⟨ga, 0, none⟩) n ca) (.int .i64 b) (Eq.trans (b := uS 10) (by kernel_rfl) (hD 10 (depIn (by kernel_rfl)))) (by kernel_rfl) (.pointer (some ⟨ga, b, none⟩)) (by go_simp) hK
                    · exact op_ld (T := 3) (x := Operand.tmp 140) (t := 3) (d := some 141) rfl (.pointer (some ⟨ga, b, none⟩)) (Eq.trans (b := uS 12) (by kernel_rfl) (hD 12 (depIn (by kernel_rfl)))) (.int .i64 x) (by go_simp) hK
                    · (have e13 : uS 13 = .int .i64 x := hD 13 (depIn (by kernel_rfl)); exact op_run (op := Op.binOp BinOp.add 3 (Operand.tmp 141) (Operand.tmp 142) 3) (t := 3) (d := some 143) rfl (.int .i64 x) (by simp only [putAll, Act.put, List.setIfInBounds_toArray, List.set_cons_zero, List.set_cons_succ]; unfold exec2; go_simp; try simp only [e13]; try go_simp) hK)
                  simp only [putAll, Act.put, List.setIfInBounds_toArray, List.set_cons_zero, List.set_cons_succ]
                  refine wpAny_T (i := 16) (op := Op.indexAddr 22 (Operand.tmp 132) (Operand.tmp 133)) (t := 0) (d := some 144) (v := ?_) rfl (by decide +kernel) (by decide +kernel) (by decide +kernel) (fun _ _ _ h => h) ?_ ?_
                  case refine_2 => (intro _; unfold exec2; go_simp; try with_reducible rfl)
                  try simp only [Act.put, List.setIfInBounds_toArray, List.set_cons_zero, List.set_cons_succ]
                  refine wpAny_next 17 (by decide +kernel) (op_st rfl (.pointer (some ⟨ga, b, none⟩)) (.int .i64 x) (by kernel_rfl) (by kernel_rfl) (by go_simp; rfl) ?_)
                  refine wpAny_done (by kernel_rfl) ?_ _
                  clear k1 k2 k3 t1 t5
                  generalize wi.setCell ⟨ga, b, none⟩ (.int .i64 x) = w8 at *
                  go_simp
                  go_wp2_with (fail)
                  go_roundw
                  case rel => exact ⟨b + 1, by go_num, by omega, FC2, M11.out.ext ((Ext.rf _).drew), HM2.out.drew⟩
                  case measure => simp [intOf]; omega
              · obtain rfl : n = b := by omega
                have M11 : Hid (MatS wi (w.heap.size + 1) s1 cb d5 n us g cp fun x y => if x < a + 1 then f x y + upF xs x else f x y) := M10.out.congr fun x y _ hy => by
                  by_cases e : x < a ∨ x = a ∧ y < n
                  · rw [if_pos e, if_pos (by omega)]
                  · rw [if_neg e, if_neg (by omega)]
                have FB2 : Hid (∀ x y, x < a + 1 → y < n → f x y ≤ 2147481648) := fun x y hx hy => by
                  by_cases e : x = a
                  · rw [e]; exact FC.out y hy
                  · exact FB.out x y (by omega) hy
                clear M10 BB
                go_wp2_with (fail)
                go_roundw
                case rel => exact ⟨a + 1, by go_num, by rw [SS.out, Int.add_zero], by omega, by rw [SS.out]; exact ⟨by omega, by omega⟩, FB2, M11, HM⟩
                case measure => simp [intOf]; omega
        · obtain rfl : n = a := by omega
          have MF := M9.out.congr (f' := fun x y => f x y + upF xs x) (fun x y hx _ => by rw [if_pos hx])
          have XE := Lib.hid (X9.out.mod HM.out (fun k k1 h => by omega))
          have fb : ∀ x y, x < n → y < n → 0 ≤ f x y + upF xs x ∧ f x y + upF xs x ≤ 2147483647 := fun x y hx hy => by
            have h1 := FB.out x y hx hy
            have h2 := hf.out x y hx hy
            have h3 := upF_bd xs x
            omega
          have AS := Lib.hid (asg_sq (A := A3) (B := A4) n1 (by omega) fb l3 l4 MF)
          have t0 : wp.cell? ⟨w.heap.size, 0, none⟩ = some (.int .i64 2) := BB.cell 0
          have t2 : wp.cell? ⟨w.heap.size, 2, none⟩ = some (.int .i64 0) := BB.cell 2
          have t3 : wp.cell? ⟨w.heap.size, 3, none⟩ = some (.slice A3 0 d3) := BB.cell 3
          have t4 : wp.cell? ⟨w.heap.size, 4, none⟩ = some (.slice A4 0 d4) := BB.cell 4
          have t5 : wp.cell? ⟨w.heap.size, 5, none⟩ = some (.slice (some ⟨cb, 0, none⟩) n d5) := BB.cell 5
          have LM := LC.out.more (rowsM := rowsF n fun x y => f x y + upF xs x) (up := upF xs) (rowsF_len _ _) (rowsF_len _ _) (fun x y hx hy => by rw [rowsF_cost hx hy, rowsF_cost hx hy])
          obtain ⟨su, hsu⟩ : ∃ su, Hid (sumL ((List.range n).map (upF xs)) = su) := ⟨_, rfl⟩
          rw [hsu.out] at SB LM ⊢
          have vb2 := vb.out
          have sb := SB.out
          have wv : IntKind.i64.wrap (vc + su) = vc + su := IntWalk.i64_in _ (by omega)
          replace LM := Lib.hid LM
          clear MF fb BB M9 HM vb2 sb
          go_wp2_with (fail)
          refine AS.out.mono ?_
          rintro e w10 ⟨X3, xc3, vg, rfl, LG, x10⟩
          obtain rfl : vc + su = vg := LM.out.one LG
          clear AS t0 t1 t2 t3 t4 t5 LG
          go_wp2_with (fail)
          go_ret
          exact ⟨rfl, XE.out.tr x10⟩
set_option maxRecDepth 100000 in
set_option maxHeartbeats 4000000 in
theorem walk_no (i j : InstP) (hj : j = copyP i) (vs : List Value) (P : Option Addr) (pc : Nat) (xs : List Int) (w : World) (H : RInst w vs i) (hno : checkP j ≠ 0 ∨ checkP j = 0 ∧ (j.kind ≠ 2 ∨ 12 < j.n)) :
    Calls Try.prog 3 #[.agg (List.toArray vs), .slice P xs.length pc] w fun e w' => e = .returned (.bool true) ∧ Ext w w' := by
  have CP := fun (W : World) (x : Ext w W) => copy_to hj vs W (H.ext x)
  have hI : InstInts j := hj ▸ H.ints.copy
  have RC := fun (us : List Value) (W : World) (h : RInst W us j) => rcheck_any j us W h
  clear hj
  obtain ⟨A, a, B, b, C, c, rfl, -, -, -⟩ := H
  have B1 : Hid (Blk (w.alloc (.cells #[.int .i64 i.kind, .int .i64 i.n, .int .i64 i.cap, .slice A i.weight.length a, .slice B i.value.length b, .slice C i.cost.length c] 25)) w.heap.size 25 #[.int .i64 i.kind, .int .i64 i.n, .int .i64 i.cap, .slice A i.weight.length a, .slice B i.value.length b, .slice C i.cost.length c]) := .new rfl
  replace CP := Lib.hid CP
  replace RC := Lib.hid RC
  replace hno := Lib.hid hno
  go_enter Try.func3, Try.ntmps3
  go_wp2_with (fail)
  refine (CP.out _ (by (repeat (first | assumption | exact Ext.rf _ | apply Ext.drew | apply Ext.drewN | apply Ext.alloc)))).mono ?_
  rintro e w2 ⟨us, rfl, O2, x2⟩
  obtain ⟨A3, l3, d3, A4, l4, d4, A5, l5, d5, rfl⟩ := O2.six
  have X2 := Ext.tr (a := w) (by (repeat (first | assumption | exact Ext.rf _ | apply Ext.drew | apply Ext.drewN | apply Ext.alloc))) x2
  have B2 := B1.out.ext x2
  obtain ⟨X3, B3, O3⟩ := put_copy B2 X2 O2
  have t0 : w2.cell? ⟨w.heap.size, 0, none⟩ = some (.int .i64 i.kind) := B2.cell 0
  have t1 : w2.cell? ⟨w.heap.size, 1, none⟩ = some (.int .i64 i.n) := B2.cell 1
  have t2 : w2.cell? ⟨w.heap.size, 2, none⟩ = some (.int .i64 i.cap) := B2.cell 2
  have t3 : w2.cell? ⟨w.heap.size, 3, none⟩ = some (.slice A i.weight.length a) := B2.cell 3
  have t4 : w2.cell? ⟨w.heap.size, 4, none⟩ = some (.slice B i.value.length b) := B2.cell 4
  have t5 : w2.cell? ⟨w.heap.size, 5, none⟩ = some (.slice C i.cost.length c) := B2.cell 5
  have f0 := B2.free 0
  have f1 := B2.free 1
  have f2 := B2.free 2
  have f3 := B2.free 3
  have f4 := B2.free 4
  have f5 := B2.free 5
  replace X3 := Lib.hid X3
  replace B3 := Lib.hid B3
  replace O3 := Lib.hid O3
  clear O2 x2 X2 B2
  go_upto_region 2 with (fail)
  generalize ((((((w2.setCell ⟨w.heap.size, 0, none⟩ (.int .i64 j.kind)).setCell ⟨w.heap.size, 1, none⟩ (.int .i64 j.n)).setCell ⟨w.heap.size, 2, none⟩ (.int .i64 j.cap)).setCell ⟨w.heap.size, 3, none⟩ (.slice A3 l3 d3)).setCell ⟨w.heap.size, 4, none⟩ (.slice A4 l4 d4)).setCell ⟨w.heap.size, 5, none⟩ (.slice A5 l5 d5)) = w3 at *
  clear t0 t1 t2 t3 t4 t5 f0 f1 f2 f3 f4 f5
  go_wp2_with (fail)
  refine (exacts_any _).mono ?_
  rintro e w4 ⟨rfl, x4⟩
  have X4 := Lib.hid (X3.out.tr x4)
  have B4 := Lib.hid (B3.out.ext x4)
  have O4 := Lib.hid (O3.out.ext x4)
  clear X3 B3 O3 x4
  have t0 : w4.cell? ⟨w.heap.size, 0, none⟩ = some (.int .i64 j.kind) := B4.out.cell 0
  have t1 : w4.cell? ⟨w.heap.size, 1, none⟩ = some (.int .i64 j.n) := B4.out.cell 1
  have t2 : w4.cell? ⟨w.heap.size, 2, none⟩ = some (.int .i64 j.cap) := B4.out.cell 2
  have t3 : w4.cell? ⟨w.heap.size, 3, none⟩ = some (.slice A3 l3 d3) := B4.out.cell 3
  have t4 : w4.cell? ⟨w.heap.size, 4, none⟩ = some (.slice A4 l4 d4) := B4.out.cell 4
  have t5 : w4.cell? ⟨w.heap.size, 5, none⟩ = some (.slice A5 l5 d5) := B4.out.cell 5
  go_wp2_with (fail)
  refine (RC.out _ _ (O4.out.rinst hI)).mono ?_
  rintro e w5 ⟨rfl, x5⟩
  have X5 := Lib.hid (X4.out.tr x5)
  have c0 : w5.cell? ⟨w.heap.size, 0, none⟩ = some (.int .i64 j.kind) := (B4.out.ext x5).cell 0
  have c1 : w5.cell? ⟨w.heap.size, 1, none⟩ = some (.int .i64 j.n) := (B4.out.ext x5).cell 1
  clear X4 O4 x5 t0 t1 t2 t3 t4 t5
  rcases hno.out with h | ⟨h, h2 | h2⟩
  · have e1 : (checkP j != 0) = true := by simpa using h
    clear h
    go_wp2_with (fail)
    refine (exacts_any _).mono ?_
    rintro e w6 ⟨rfl, x6⟩
    have X6 := Lib.hid (X5.out.tr (Ext.tr (by (repeat (first | assumption | exact Ext.rf _ | apply Ext.drew | apply Ext.drewN | apply Ext.alloc))) x6))
    go_wp2_with (fail)
    go_ret
    exact ⟨rfl, X6.out⟩
  · rw [h]
    have e1 : (j.kind != 2) = true := by simpa using h2
    clear h
    go_wp2_with (fail)
    refine (exacts_any _).mono ?_
    rintro e w6 ⟨rfl, x6⟩
    have X6 := Lib.hid (X5.out.tr (Ext.tr (by (repeat (first | assumption | exact Ext.rf _ | apply Ext.drew | apply Ext.drewN | apply Ext.alloc))) x6))
    go_wp2_with (fail)
    go_ret
    exact ⟨rfl, X6.out⟩
  · rw [h]
    clear h
    cases hk : (j.kind != 2)
    · go_wp2_with (fail)
      refine (exacts_any _).mono ?_
      rintro e w6 ⟨rfl, x6⟩
      have X6 := Lib.hid (X5.out.tr (Ext.tr (by (repeat (first | assumption | exact Ext.rf _ | apply Ext.drew | apply Ext.drewN | apply Ext.alloc))) x6))
      go_wp2_with (fail)
      go_ret
      exact ⟨rfl, X6.out⟩
    · go_wp2_with (fail)
      refine (exacts_any _).mono ?_
      rintro e w6 ⟨rfl, x6⟩
      have X6 := Lib.hid (X5.out.tr (Ext.tr (by (repeat (first | assumption | exact Ext.rf _ | apply Ext.drew | apply Ext.drewN | apply Ext.alloc))) x6))
      go_wp2_with (fail)
      go_ret
      exact ⟨rfl, X6.out⟩
theorem walk (vs : List Value) (i : InstP) (P : Option Addr) (pc : Nat) (xs : List Int) (w : World) (H : RInst w vs i) (_ : InstOk i) (hP : RdI w P xs) (ix : Ints xs) (lx : xs.length ≤ pc) (lc : pc ≤ maxLen) :
    Calls Try.prog 3 #[.agg (List.toArray vs), .slice P xs.length pc] w fun e w' => e = .returned (.bool true) ∧ Ext w w' := by
  by_cases hc : checkP (copyP i) = 0
  · by_cases hk : (copyP i).kind = 2
    · obtain ⟨n, f, n1, n2, en, e, hf⟩ := sq_form hc hk
      by_cases hn : n ≤ 12
      · exact walk_yes i n f e.symm n1 hn hf vs P pc xs w H hP ix lx lc
      · exact walk_no i (copyP i) rfl vs P pc xs w H (.inr ⟨hc, .inr (by rw [en]; omega)⟩)
    · exact walk_no i (copyP i) rfl vs P pc xs w H (.inr ⟨hc, .inl hk⟩)
  · exact walk_no i (copyP i) rfl vs P pc xs w H (.inl hc)

set_option maxRecDepth 100000 in
theorem lifted (os : Os) (started : os.Started) (H : Type) (enc : TypeId × Value → H) :
    ReturnsInHanded {} Try.checked os 3 .any (Rows.exactPricesSpec.pre6 enc Try.prog Try.f3 Rows.exactPricesRow.domain false) (Rows.exactPricesSpec.post enc Try.prog Try.f3 false true false false) := by
  refine returnsInHanded_of_change (C := Try.checked) own started (by kernel_rfl) Try.func3
    (ChangeSpec.witness6 (enc := enc) (C := Try.checked) false ⟨#[], #[.agg #[.int .i64 0, .int .i64 0, .int .i64 0, .slice none 0 0, .slice none 0 0, .slice none 0 0], .slice none 0 0], []⟩ 8 (by kernel_rfl) (by kernel_rfl) (by kernel_rfl) (by kernel_rfl)) ?_
  intro W base args ds gs before hval0 hW _ _
  have hval : ∀ (j : Nat) t v, Try.f3.params[j]? = some t → args[j]? = some v → Value.okWide Try.prog W .any base t v := hval0
  have hW' := hW
  obtain ⟨p, q, hA0, hV, rfl, hfz, hnd⟩ := hW
  have hA : DataW.TrodAll enc Try.prog W 0 (fun _ => true) true Try.f3.params.toList args.toList ds p := hA0
  rw [Try.params3] at hA hval
  obtain ⟨v0, vs0, d0, ds0, p0, q0, hargs, rfl, rfl, h0, r0⟩ := trodAll_cons hA
  obtain ⟨v1, vs1, d1, ds1, p1, q1, rfl, rfl, rfl, h1, r1⟩ := trodAll_cons r0
  obtain ⟨rfl, rfl, rfl⟩ := trodAll_nil r1
  obtain rfl : args = #[v0, v1] := by cases args; simp_all
  obtain ⟨rfl, rfl⟩ := trodVars_none hV
  obtain ⟨y0, x0, rfl, hx0, ix0⟩ := open_Inst h0 (hval 0 _ v0 rfl rfl)
  obtain ⟨A1, x1, c1, rfl, hx1, ix1, lx1, lc1⟩ := open_RdI h1 (hval 1 _ v1 rfl rfl)
  refine (walk y0 x0 A1 c1 x1 W hx0 ix0 hx1 ix1 lx1 lc1).mono fun e W' ⟨he, hg⟩ => ?_
  subst he
  exact ⟨_, rfl, post_law hW' rfl rfl rfl rfl rfl (readable_of (by kernel_rfl)) hg⟩

theorem proved : Rows.ExactPricesSaid :=
  OpenClaim.holds_of_wide 3 Try.f3 rfl rfl rfl rfl rfl rfl rfl ⟨rfl, rfl, rfl, rfl, rfl⟩ rfl rfl rfl rfl rfl (by kernel_rfl) Try.func3 (by kernel_rfl)
    (of_decide_eq_true (by kernel_rfl)) (by unfold Func.isWrapper; first | (rw [if_pos (by decide +kernel)]; kernel_rfl) | (rw [if_neg (by decide +kernel)]; exact ⟨rfl, rfl⟩))
    (fun os started H enc _ => lifted os started H enc)
end Go.Proofs.Ytleckhbmciiooaa.exactPrices
