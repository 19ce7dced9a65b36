/-
  Sets of numbers (Of), orders of 0 to n - 1, what an assignment's answer costs (value.Cost).
-/
import Derived.Test.YtleckhbmciiooaaSetW
import Derived.Test.YtleckhbmciiooaaCostW
import Derived.Test.YtleckhbmciiooaaAssignP
namespace Go.Proofs.Ytleckhbmciiooaa
open Go.RowKit Go.ChangeShapes Go.WideShapes Go.ChangeAt Go.Deep

def orP (m : Nat) : List Nat → Nat
  | [] => m
  | x :: l => orP (m ||| 2 ^ x) l
theorem orP_bit : ∀ (l : List Nat) (m j : Nat), (orP m l).testBit j = (m.testBit j || decide (j ∈ l))
  | [], m, j => by simp [orP]
  | x :: l, m, j => by
    rw [orP, orP_bit l, Nat.testBit_or, Nat.testBit_two_pow]
    by_cases e : x = j
    · subst e; simp
    · have e' : ¬ j = x := fun h => e h.symm
      simp [e, e']
theorem orP_snoc : ∀ (l : List Nat) (m x : Nat), orP m (l ++ [x]) = orP m l ||| 2 ^ x
  | [], m, x => rfl
  | y :: l, m, x => by rw [List.cons_append, orP, orP_snoc l, orP]
theorem orP_lt {l : List Nat} (h : ∀ x ∈ l, x < 64) : orP 0 l < 18446744073709551616 := by
  refine Nat.lt_pow_two_of_testBit (n := 64) _ fun i hi => ?_
  rw [orP_bit]
  simp
  intro hm
  have := h i hm
  omega
theorem orP_full {l : List Nat} {n : Nat} (h : l.Perm (List.range n)) : orP 0 l = 2 ^ n - 1 := by
  refine Nat.eq_of_testBit_eq fun j => ?_
  rw [orP_bit, Nat.testBit_two_pow_sub_one]
  have : j ∈ l ↔ j < n := by rw [h.mem_iff, List.mem_range]
  simp [this]
theorem eq_sets (x y : Int) (u : World) : (Op.equalIn 10000 180 (.agg #[.int .u64 x, .int .u64 0]) (.agg #[.int .u64 y, .int .u64 0])).run Try.prog u = .ok (x == y) u := by
  unfold Op.equalIn
  simp only [Sem.run_bind, run_underlying Try.underlying180, Result.andThen_ok]
  have e9 : List.range' 0 2 1 = [0, 1] := rfl
  simp only [Std.Legacy.Range.forIn_eq_forIn_range', Std.Legacy.Range.size, Nat.sub_zero, Nat.add_one_sub_one, Nat.div_one, e9, List.forIn_cons, List.forIn_nil]
  by_cases hx : x = y
  · subst hx
    go_simp
  · have hx' : (x == y) = false := by simpa using hx
    go_simp
set_option maxRecDepth 100000 in
theorem of_any (A : Option Addr) (c : Nat) (l : List Nat) (hl : ∀ x ∈ l, x < 64) (hn : l.length ≤ 1000) (w : World) (hA : RdI w A (intsN l)) :
    Calls Try.prog 163 #[.slice A l.length c] w fun e w' => e = .returned (setV (orP 0 l)) ∧ Ext w w' := by
  have B0 : Hid (Blk ((w.alloc (.cells #[.int .u64 0, .int .u64 0] 180)).alloc (.cells #[.int .u64 0, .int .u64 0] 180)) w.heap.size 180 #[.int .u64 0, .int .u64 0]) := Blk.alloc (.new rfl) _
  have B1 : Hid (Blk ((w.alloc (.cells #[.int .u64 0, .int .u64 0] 180)).alloc (.cells #[.int .u64 0, .int .u64 0] 180)) (w.heap.size + 1) 180 #[.int .u64 ((orP 0 (l.take 0) : Nat) : Int), .int .u64 0]) := .new (by simp)
  have X0 : Hid (Ext w ((w.alloc (.cells #[.int .u64 0, .int .u64 0] 180)).alloc (.cells #[.int .u64 0, .int .u64 0] 180))) := ((Ext.rf w).alloc _).alloc _
  have WI := fun (m i : Nat) (h : m < 18446744073709551616) (hi : i < 64) (W : World) => with_any m i h hi W
  unfold setV at WI ⊢
  replace WI := Lib.hid WI
  replace hA := Lib.hid hA
  replace hl := Lib.hid hl
  go_enter Try.func163, Try.ntmps163
  go_wp2_with (fail)
  go_loopw [8] (fun i wr => ∃ k : Nat, i = .int .i64 k ∧ k ≤ l.length ∧ Hid (Blk wr (w.heap.size + 1) 180 #[.int .u64 ((orP 0 (l.take k) : Nat) : Int), .int .u64 0]) ∧ Hid (Blk wr w.heap.size 180 #[.int .u64 0, .int .u64 0]) ∧ Hid (Ext w wr)) (fun i _ => l.length - (intOf i).toNat)
  case atStart => exact ⟨0, rfl, by omega, B1, B0, X0⟩
  case round =>
    clear B0 B1 X0
    obtain ⟨wo, rfl⟩ : ∃ wo : World, wo = wr := ⟨_, rfl⟩
    obtain ⟨k, rfl, hk, B1, B0, X0⟩ := hrel
    by_cases hlt : k < l.length
    · obtain ⟨b, off, x, rfl, zb, cx, ex, _⟩ := (hA.out.ext X0.out).at (k := k) (by rw [intsN_len]; exact hlt)
      obtain ⟨y, hy⟩ : ∃ y, Hid (l[k]? = some y) := ⟨l[k], List.getElem?_eq_getElem hlt⟩
      obtain rfl : x = (y : Int) := by
        have h1 := ex.out
        simp only [intsN, List.getElem?_map, hy.out, Option.map_some, Option.some.injEq] at h1
        exact h1.symm
      have hy64 := hl.out y (List.mem_of_getElem? hy.out)
      have hm := orP_lt (l := l.take k) (fun x hx => hl.out x (List.mem_of_mem_take hx))
      have HS : orP 0 (l.take (k + 1)) = orP 0 (l.take k) ||| 2 ^ y := by
        rw [List.take_add_one, hy.out]
        exact orP_snoc _ _ _
      have HW := Lib.hid (WI.out (orP 0 (l.take k)) y hm hy64)
      rw [← HS] at HW
      clear HS hm hy64 ex
      generalize orP 0 (l.take k) = m at *
      obtain ⟨m2, hm2⟩ : ∃ m2, Hid (orP 0 (l.take (k + 1)) = m2) := ⟨_, rfl⟩
      rw [hm2.out] at HW
      have c0 : wo.cell? ⟨w.heap.size + 1, 0, none⟩ = some (.int .u64 m) := B1.out.cell 0
      have c1 : wo.cell? ⟨w.heap.size + 1, 1, none⟩ = some (.int .u64 0) := B1.out.cell 1
      have q1 : (k : Int) < (l.length : Int) := by omega
      go_wp2_with (fail)
      refine (HW.out _).mono ?_
      rintro e w1 ⟨rfl, x1⟩
      have b1 := B1.out.ext x1
      have d0 : w1.cell? ⟨w.heap.size + 1, 0, none⟩ = some (.int .u64 m) := b1.cell 0
      have d1 : w1.cell? ⟨w.heap.size + 1, 1, none⟩ = some (.int .u64 0) := b1.cell 1
      have f0 := b1.free 0
      have f1 := b1.free 1
      have B1' := Lib.hid ((b1.set 0 (.int .u64 m2)).set 1 (.int .u64 0))
      have B0' := Lib.hid (((B0.out.ext x1).far (p := ⟨w.heap.size + 1, 0, none⟩) (by simp) (.int .u64 m2)).far (p := ⟨w.heap.size + 1, 1, none⟩) (by simp) (.int .u64 0))
      have X1 := Lib.hid (((X0.out.tr x1).setNew (p := ⟨w.heap.size + 1, 0, none⟩) (by simp) (.int .u64 m2)).setNew (p := ⟨w.heap.size + 1, 1, none⟩) (by simp) (.int .u64 0))
      clear b1 x1 B0 B1 X0 c0 c1
      go_wp2_with (fail)
      go_roundw
      case rel => exact ⟨k + 1, by go_num, by omega, by rw [hm2.out]; exact B1', B0', X1⟩
      case measure => simp [intOf]; omega
    · obtain rfl : k = l.length := by omega
      rw [List.take_length] at B1
      obtain ⟨m, hm⟩ : ∃ m, Hid (orP 0 l = m) := ⟨_, rfl⟩
      rw [hm.out] at B1
      have c0 : wo.cell? ⟨w.heap.size + 1, 0, none⟩ = some (.int .u64 m) := B1.out.cell 0
      have c1 : wo.cell? ⟨w.heap.size + 1, 1, none⟩ = some (.int .u64 0) := B1.out.cell 1
      have r0 : wo.cell? ⟨w.heap.size, 0, none⟩ = some (.int .u64 0) := B0.out.cell 0
      have r1 : wo.cell? ⟨w.heap.size, 1, none⟩ = some (.int .u64 0) := B0.out.cell 1
      have g0 := B0.out.free 0
      have g1 := B0.out.free 1
      go_wp2_with (fail)
      refine bodyPost_ret (v := .agg #[.int .u64 m, .int .u64 0]) (by simp [results, Try.results163, go_sem, *]) rfl ⟨by rw [hm.out], ?_⟩
      exact (X0.out.setNew (p := ⟨w.heap.size, 0, none⟩) (by simp) _).setNew (p := ⟨w.heap.size, 1, none⟩) (by simp) _
set_option maxRecDepth 100000 in
theorem order_yes (A : Option Addr) (c n : Nat) (l : List Nat) (hl : l.Perm (List.range n)) (hn : n < 64) (w : World) (hA : RdI w A (intsN l)) :
    Calls Try.prog 139 #[.slice A n c, .int .i64 n] w fun e w' => e = .returned (.bool true) ∧ Ext w w' := by
  have lk : l.length = n := by rw [hl.length_eq, List.length_range]
  have OF := fun (W : World) (x : Ext w W) => of_any A c l (fun x hx => by have := List.mem_range.1 (hl.mem_iff.1 hx); omega) (by omega) W (hA.ext x)
  have FU := fun (W : World) => full_any n hn W
  rw [orP_full hl, lk] at OF
  clear lk hl hA
  unfold setV at OF FU
  generalize 2 ^ n - 1 = m at *
  have EQ := fun u : World => eq_sets (m : Int) (m : Int) u
  simp only [beq_self_eq_true] at EQ
  have en : ((n : Int) == (n : Int)) = true := by simp
  replace OF := Lib.hid OF
  replace FU := Lib.hid FU
  go_enter Try.func139, Try.ntmps139
  go_wp2_with (fail)
  refine (OF.out _ (by (repeat (first | assumption | exact Ext.rf _ | apply Ext.drew | apply Ext.drewN | apply Ext.alloc)))).mono ?_
  rintro e w1 ⟨rfl, x1⟩
  go_wp2_with (fail)
  refine (FU.out _).mono ?_
  rintro e w2 ⟨rfl, x2⟩
  have X2 := Lib.hid (Ext.tr (Ext.tr (a := w) (by (repeat (first | assumption | exact Ext.rf _ | apply Ext.drew | apply Ext.drewN | apply Ext.alloc))) x1) x2)
  clear x1 x2
  go_wp2_with (fail)
  go_ret
  exact ⟨rfl, X2.out⟩
/-- what the first rows cost -/
def costK (rows : List (List Int)) (l : List Nat) (k : Nat) : Int := sumL ((List.range k).map fun j => costAt rows j (l.getD j 0))
theorem costK_succ (rows : List (List Int)) (l : List Nat) (k : Nat) : costK rows l (k + 1) = costK rows l k + costAt rows k (l.getD k 0) := by
  unfold costK
  rw [List.range_succ, List.map_append, sumL_append]
  simp [sumL]
set_option maxRecDepth 100000 in
set_option maxHeartbeats 2000000 in
theorem vcost2_any (i : InstP) (us : List Value) (P : Option Addr) (c : Nat) (l : List Nat) (w : World) (H : RInst w us i) (hc : checkP i = 0) (hk : i.kind = 2) (hP : RdI w P (intsN l)) (hl : l.Perm (List.range i.cost.length)) :
    Calls Try.prog 98 #[.agg (List.toArray us), .slice P i.cost.length c] w fun e w' => e = .returned (.tuple #[.int .i64 (costF i.cost (intsN l)), .int .i64 0]) ∧ Ext w w' := by
  have sq := square_ok hc (by omega)
  have rok := rows_ok sq
  have CH := fun (W : World) (x : Ext w W) => check_any i us W (H.ext x) (by rw [sq.w]; simp) (by rw [sq.v]; simp)
  have lk : l.length = i.cost.length := by rw [hl.length_eq, List.length_range]
  have OY := fun (W : World) (x : Ext w W) => order_yes P c i.cost.length l hl (by have := rok.n2; omega) W (hP.ext x)
  have CF : Hid (costF i.cost (intsN l) = costK i.cost l i.cost.length) := by
    have h : costF i.cost (intsN l) = costK i.cost l i.cost.length := by rw [costF_range lk.symm, lk]; rfl
    exact h
  have hln := sq.len
  rw [hc] at CH
  obtain ⟨kind, nn, cap, xw, xv, co⟩ := i
  obtain ⟨A, a, B, b, D, d, rfl, -, -, hC, -⟩ := H
  simp only at *
  subst hk
  have n1 := rok.n1
  have n2 := rok.n2
  obtain ⟨n, hn⟩ : ∃ n, co.length = n := ⟨_, rfl⟩
  rw [hn] at CH OY CF lk hln hl n1 n2 ⊢
  have lt : ∀ k, k < n → l.getD k 0 < n := fun k hk => by
    have h1 : l[k]? = some (l[k]'(by omega)) := List.getElem?_eq_getElem _
    rw [getD_some h1]
    exact List.mem_range.1 (hl.mem_iff.1 (List.getElem_mem _))
  have CA := fun (W : World) (x : Ext w W) (r c : Nat) (hr : r < n) (hc : c < n) => cost_at rok (hC.ext x fun _ _ h => h.ext x) (r := r) (c := c) (by omega) (by omega)
  rw [hn] at CA
  have EB := fun r c (hr : r < n) (hc : c < n) => ends_num rok r c (by omega) (by omega)
  have B1 : Hid (Blk (w.alloc (.cells #[.int .i64 2, .int .i64 nn, .int .i64 cap, .slice A xw.length a, .slice B xv.length b, .slice D n d] 25)) w.heap.size 25 #[.int .i64 2, .int .i64 nn, .int .i64 cap, .slice A xw.length a, .slice B xv.length b, .slice D n d]) := .new rfl
  subst hln
  replace CH := Lib.hid CH
  replace OY := Lib.hid OY
  replace CA := Lib.hid CA
  replace EB := Lib.hid EB
  replace hP := Lib.hid hP
  replace lk := Lib.hid lk
  replace lt := Lib.hid lt
  replace hn := Lib.hid hn
  clear hc hl hC rok sq
  go_enter Try.func98, Try.ntmps98
  go_wp2_with (fail)
  refine (CH.out _ (by (repeat (first | assumption | exact Ext.rf _ | apply Ext.drew | apply Ext.drewN | apply Ext.alloc)))).mono ?_
  rintro e w1 ⟨rfl, x1⟩
  have X1 := Lib.hid (Ext.tr (a := w) (by (repeat (first | assumption | exact Ext.rf _ | apply Ext.drew | apply Ext.drewN | apply Ext.alloc))) x1)
  have b1 := Lib.hid (B1.out.ext x1)
  have t0 : w1.cell? ⟨w.heap.size, 0, none⟩ = some (.int .i64 2) := b1.out.cell 0
  have t1 : w1.cell? ⟨w.heap.size, 1, none⟩ = some (.int .i64 n) := b1.out.cell 1
  clear x1 B1
  go_wp2_with (fail)
  refine (OY.out _ (X1.out.tr (by (repeat (first | assumption | exact Ext.rf _ | apply Ext.drew | apply Ext.drewN | apply Ext.alloc))))).mono ?_
  rintro e w2 ⟨rfl, x2⟩
  have X2 := Lib.hid (X1.out.tr (Ext.tr (by (repeat (first | assumption | exact Ext.rf _ | apply Ext.drew | apply Ext.drewN | apply Ext.alloc))) x2))
  have b2 := Lib.hid (b1.out.ext (Ext.tr (by (repeat (first | assumption | exact Ext.rf _ | apply Ext.drew | apply Ext.drewN | apply Ext.alloc))) x2))
  have s0 : w2.cell? ⟨w.heap.size, 0, none⟩ = some (.int .i64 2) := b2.out.cell 0
  clear x2 b1 X1 t0 t1
  go_wp2_with (fail)
  go_loopw [7, 44] (fun sv i wr => ∃ k : Nat, i = .int .i64 k ∧ sv = .int .i64 (costK co l k) ∧ k ≤ n ∧ Hid (0 ≤ costK co l k ∧ costK co l k ≤ k * 2147483647) ∧ Hid (Ext w2 wr)) (fun _ i _ => n - (intOf i).toNat)
  case atStart => exact ⟨0, rfl, rfl, by omega, ⟨Int.le_refl _, by simp [costK, sumL]⟩, Ext.rf _⟩
  case round =>
    clear s0
    obtain ⟨wo, rfl⟩ : ∃ wo : World, wo = wr := ⟨_, rfl⟩
    obtain ⟨k, rfl, rfl, hk, BD, X3⟩ := hrel
    by_cases hlt : k < n
    · obtain ⟨y, hy⟩ : ∃ y, Hid (l.getD k 0 = y) := ⟨_, rfl⟩
      have yn : y < n := by rw [← hy.out]; exact lt.out k hlt
      obtain ⟨pb, po, x, rfl, zp, cp, ex, _⟩ := ((hP.out.ext X2.out).ext X3.out).at (k := k) (by rw [intsN_len, lk.out]; exact hlt)
      obtain rfl : x = (y : Int) := by
        have h1 := ex.out
        have h2 : l[k]? = some (l[k]'(by rw [lk.out]; exact hlt)) := List.getElem?_eq_getElem _
        have h3 := hy.out
        rw [getD_some h2] at h3
        simp only [intsN, List.getElem?_map, h2, Option.map_some, Option.some.injEq, h3] at h1
        exact h1.symm
      obtain ⟨cb, cof, rb, ro, d', rfl, k1, k2⟩ := CA.out wo (X2.out.tr X3.out) k y hlt yn
      have eb := EB.out k y hlt yn
      have HK : Hid (costK co l (k + 1) = costK co l k + costAt co k y) := by
        have h : costK co l (k + 1) = costK co l k + costAt co k y := by rw [costK_succ, hy.out]
        exact h
      have b3 := b2.out.ext X3.out
      have s0 : wo.cell? ⟨w.heap.size, 0, none⟩ = some (.int .i64 2) := b3.cell 0
      have s5 : wo.cell? ⟨w.heap.size, 5, none⟩ = some (.slice (some ⟨cb, cof, none⟩) n d) := b3.cell 5
      obtain ⟨b0, b1⟩ := BD.out
      generalize costK co l k = su at *
      generalize costAt co k y = cv at *
      have wv : IntKind.i64.wrap (su + cv) = su + cv := IntWalk.i64_in _ (by omega)
      have q1 : (k : Int) < (n : Int) := by omega
      have q2 : (y : Int) < (n : Int) := by omega
      have bd2 : 0 ≤ su + cv ∧ su + cv ≤ ((k + 1 : Nat) : Int) * 2147483647 := by omega
      replace bd2 := Lib.hid bd2
      clear b0 b1 eb BD b3 ex
      go_wp2_with (fail)
      go_roundw
      case rel => exact ⟨k + 1, by go_num, by rw [HK.out], by omega, by rw [HK.out]; exact bd2, X3.out.tr (by (repeat (first | assumption | exact Ext.rf _ | apply Ext.drew | apply Ext.drewN | apply Ext.alloc)))⟩
      case measure => simp [intOf]; omega
    · obtain rfl : k = n := by omega
      go_wp2_with (fail)
      go_ret2
      exact ⟨by rw [CF.out]; rfl, X2.out.tr X3.out⟩
end Go.Proofs.Ytleckhbmciiooaa
