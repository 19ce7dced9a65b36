/-
  The document's Cmp, of products of small numbers.
-/
import Derived.Test.YtpfdkocelmmllaaBigF
namespace Go.Proofs.Ytpfdkocelmmllaa
open Go.RowKit Go.ChangeShapes Go.WideShapes Go.ChangeAt Go.Deep

theorem under_big : Try.prog.underlying 162 = some (.array 9 3) := by kernel_rfl
set_option maxRecDepth 100000 in
theorem eq_big (x y : Int) (u : World) : (binOp .eql 162 (.agg #[.int .i64 x, .int .i64 y, .int .i64 0, .int .i64 0, .int .i64 0, .int .i64 0, .int .i64 0, .int .i64 0, .int .i64 0]) (.agg #[.int .i64 0, .int .i64 0, .int .i64 0, .int .i64 0, .int .i64 0, .int .i64 0, .int .i64 0, .int .i64 0, .int .i64 0])).run Try.prog u = .ok (.bool ((x == 0) && (y == 0))) u := by
  rw [run_eql_struct]
  unfold Op.equalIn
  simp only [Sem.run_bind, run_underlying under_big, Result.andThen_ok]
  have e9 : List.range' 0 9 1 = [0, 1, 2, 3, 4, 5, 6, 7, 8] := rfl
  simp only [Std.Legacy.Range.forIn_eq_forIn_range', Std.Legacy.Range.size, Nat.sub_zero, Nat.add_one_sub_one, Nat.div_one, e9, List.forIn_cons, List.forIn_nil]
  by_cases hx : x = 0
  · subst hx
    by_cases hy : y = 0
    · subst hy
      go_simp
    · have hy' : (y == 0) = false := by simpa using hy
      go_simp
  · have hx' : (x == 0) = false := by simpa using hx
    go_simp
def cmpI (p q : Int) : Int := if p = q then 0 else if p < q then -1 else 1
/-- the difference's sign and parts -/
theorem diff_cases (p q : Int) (hp : 0 ≤ p ∧ p ≤ 4611686014132420609) (hq : 0 ≤ q ∧ q ≤ 4611686014132420609) : ∃ m x y, diffV p q = sgnV m x y ∧ ((cmpI p q = 0 ∧ x = 0 ∧ y = 0) ∨ (cmpI p q = -1 ∧ m = true ∧ (x ≠ 0 ∨ y ≠ 0)) ∨ (cmpI p q = 1 ∧ m = false ∧ (x ≠ 0 ∨ y ≠ 0))) := by
  unfold diffV cmpI lowP highP
  by_cases h1 : p < q
  · rw [if_pos h1]
    exact ⟨_, _, _, rfl, .inr (.inl ⟨by rw [if_neg (by omega), if_pos h1], rfl, by omega⟩)⟩
  · rw [if_neg h1]
    by_cases h2 : p = q
    · exact ⟨_, _, _, rfl, .inl ⟨by rw [if_pos h2], by omega, by omega⟩⟩
    · exact ⟨_, _, _, rfl, .inr (.inr ⟨by rw [if_neg h2, if_neg h1], rfl, by omega⟩)⟩
set_option maxRecDepth 100000 in
set_option maxHeartbeats 4000000 in
theorem cmp_any (p q : Int) (w : World) (hp : 0 ≤ p ∧ p ≤ 4611686014132420609) (hq : 0 ≤ q ∧ q ≤ 4611686014132420609) :
    Calls Try.prog 150 #[sgnV false (lowP p) (highP p), sgnV false (lowP q) (highP q)] w fun e w' => e = .returned (.int .i64 (cmpI p q)) ∧ Ext w w' := by
  have B1 : Blk ((w.alloc (.cells (sgnC false (lowP p) (highP p)) 164)).alloc (.cells (sgnC false (lowP q) (highP q)) 164)) w.heap.size 164 (sgnC false (lowP p) (highP p)) := .alloc (.new rfl) _
  have B2 : Blk ((w.alloc (.cells (sgnC false (lowP p) (highP p)) 164)).alloc (.cells (sgnC false (lowP q) (highP q)) 164)) (w.heap.size + 1) 164 (sgnC false (lowP q) (highP q)) := .new (by simp)
  have Y0 : Ext w ((w.alloc (.cells (sgnC false (lowP p) (highP p)) 164)).alloc (.cells (sgnC false (lowP q) (highP q)) 164)) := ((Ext.rf _).alloc _).alloc _
  have ADD := fun W => add_any p q W hp hq
  obtain ⟨m, x, y, hd, hcase⟩ := diff_cases p q hp hq
  rw [hd] at ADD
  obtain ⟨wr, hwr⟩ : ∃ wr, wr = ((w.alloc (.cells (sgnC false (lowP p) (highP p)) 164)).alloc (.cells (sgnC false (lowP q) (highP q)) 164)) := ⟨_, rfl⟩
  have hwl : ((w.alloc (.cells #[.bool false, .int .i64 (lowP p), .int .i64 (highP p), .int .i64 0, .int .i64 0, .int .i64 0, .int .i64 0, .int .i64 0, .int .i64 0, .int .i64 0] 164)).alloc (.cells #[.bool false, .int .i64 (lowP q), .int .i64 (highP q), .int .i64 0, .int .i64 0, .int .i64 0, .int .i64 0, .int .i64 0, .int .i64 0, .int .i64 0] 164)) = wr := hwr.symm
  rw [← hwr] at B1 B2 Y0
  clear hwr hp hq hd
  generalize cmpI p q = res at *
  replace B1 := Lib.hid B1
  replace B2 := Lib.hid B2
  replace Y0 := Lib.hid Y0
  replace ADD := Lib.hid ADD
  replace hwl := Lib.hid hwl
  replace hcase := Lib.hid hcase
  unfold sgnV
  go_enter Try.func150, Try.ntmps150
  go_wp2_with (fail)
  rw [hwl.out]
  refine wp_region_any (by kernel_rfl) ?_
  change wpAny _ _ _ _ _ _ _ (World.drew _)
  refine wpAny_core2 (n := 1) [(0, some 6), (1, some 7), (2, some 8), (3, some 9), (4, some 5)] (Ext wr)
    (VF (fun | 0 => some (sgnV false (lowP p) (highP p)) | 1 => some (sgnV false (lowP q) (highP q)) | 2 => some (sgnV true (lowP q) (highP q)) | 3 => some (sgnV m x y) | _ => none)
      (fun j v W => j = 4 → ∃ h, v = .pointer (some ⟨h, 0, none⟩) ∧ wr.heap.size ≤ h ∧ Blk W h 164 (sgnC false 0 0)))
    Ext #[true, true, true, true, true, false] (by kernel_rfl) (VF.stab ?_) ?_ ?_ ((Ext.rf _).drew)
  · intro j v W W' _ g6 hx h
    obtain ⟨h, q1, q2, q3⟩ := g6 h
    exact ⟨h, q1, q2, q3.ext hx⟩
  · intro pq hpm u W hRW hD K hK
    have b1 := B1.out.ext hRW
    have b2 := B2.out.ext hRW
    have z2 := hRW.size
    simp only [List.mem_cons, List.not_mem_nil, or_false] at hpm
    rcases hpm with rfl | rfl | rfl | rfl | rfl
    · exact op_ld (T := 164) rfl (.pointer (some ⟨w.heap.size, 0, none⟩)) (by kernel_rfl) _ (load_sgn b1) (hK _ _ (VF.mk rfl) hRW (Ext.rf _))
    · exact op_ld (T := 164) rfl (.pointer (some ⟨w.heap.size + 1, 0, none⟩)) (by kernel_rfl) _ (load_sgn b2) (hK _ _ (VF.mk rfl) hRW (Ext.rf _))
    · have h1 := (hD 1 (depIn (by kernel_rfl))).k rfl
      refine op_call rfl #[sgnV false (lowP q) (highP q)] (by go_simp) (by simp only [putAll, h1]; kernel_rfl) _ (neg_any false _ _ W) ?_
      rintro e w3 ⟨rfl, x3⟩
      exact ⟨_, rfl, hK _ _ (VF.mk rfl) (hRW.tr x3) x3⟩
    · have h0 := (hD 0 (depIn (by kernel_rfl))).k rfl
      have h2 := (hD 2 (depIn (by kernel_rfl))).k rfl
      refine op_call rfl #[sgnV false (lowP p) (highP p), sgnV true (lowP q) (highP q)] (by go_simp) (by simp only [putAll, h0, h2]; kernel_rfl) _ (ADD.out W) ?_
      rintro e w3 ⟨rfl, x3⟩
      exact ⟨_, rfl, hK _ _ (VF.mk rfl) (hRW.tr x3) x3⟩
    · refine op_run rfl (.pointer (some ⟨W.heap.size, 0, none⟩)) (w' := W.alloc (.cells (sgnC false 0 0) 164)) ?_ (hK _ _ (VF.mg rfl fun _ => ⟨_, rfl, z2, .new rfl⟩) (hRW.alloc _) ((Ext.rf _).alloc _))
      unfold exec2 sgnC
      go_simp
  · intro u w3 hRW hV
    have h0 := (hV (0, some 6) (by simp)).k rfl
    have h1 := (hV (1, some 7) (by simp)).k rfl
    have h2 := (hV (2, some 8) (by simp)).k rfl
    have h3 := (hV (3, some 9) (by simp)).k rfl
    obtain ⟨gh, h4, hgh, b3⟩ := (hV (4, some 5) (by simp)).g rfl rfl
    simp only [putAll, h0, h1, h2, h3, h4]
    clear hV h0 h1 h2 h3 h4
    have b4 : Blk (tenW w3 gh m x y) gh 164 (sgnC m x y) := tenW_blk b3
    have Y4 := Lib.hid (tenW_ext (m := m) (lo := x) (hi := y) (g := gh) (Ext.tr Y0.out hRW) (Nat.le_trans Y0.out.size hgh))
    try simp only [Act.put, List.setIfInBounds_toArray, List.set_cons_zero, List.set_cons_succ]
    refine wpAny_next 5 (by kernel_rfl) (op_st rfl (.pointer (some ⟨gh, 0, none⟩)) (sgnV m x y) (by kernel_rfl) (by kernel_rfl) (store_sgn b3) ?_)
    refine wpAny_done (by kernel_rfl) ?_ _
    clear b3 hRW
    generalize tenW w3 gh m x y = w5 at *
    have c0 : w5.cell? ⟨gh, 0, none⟩ = some (.bool m) := b4.cell 0
    have c1 : w5.cell? ⟨gh, 1, none⟩ = some (.int .i64 x) := b4.cell 1
    have c2 : w5.cell? ⟨gh, 2, none⟩ = some (.int .i64 y) := b4.cell 2
    have c3 : w5.cell? ⟨gh, 3, none⟩ = some (.int .i64 0) := b4.cell 3
    have c4 : w5.cell? ⟨gh, 4, none⟩ = some (.int .i64 0) := b4.cell 4
    have c5 : w5.cell? ⟨gh, 5, none⟩ = some (.int .i64 0) := b4.cell 5
    have c6 : w5.cell? ⟨gh, 6, none⟩ = some (.int .i64 0) := b4.cell 6
    have c7 : w5.cell? ⟨gh, 7, none⟩ = some (.int .i64 0) := b4.cell 7
    have c8 : w5.cell? ⟨gh, 8, none⟩ = some (.int .i64 0) := b4.cell 8
    have c9 : w5.cell? ⟨gh, 9, none⟩ = some (.int .i64 0) := b4.cell 9
    clear b4
    obtain ⟨bz, hbz⟩ : ∃ bz, Hid (((x == 0) && (y == 0)) = bz) := ⟨_, rfl⟩
    have hq : ∀ u : World, (binOp .eql 162 (.agg #[.int .i64 x, .int .i64 y, .int .i64 0, .int .i64 0, .int .i64 0, .int .i64 0, .int .i64 0, .int .i64 0, .int .i64 0]) (.agg #[.int .i64 0, .int .i64 0, .int .i64 0, .int .i64 0, .int .i64 0, .int .i64 0, .int .i64 0, .int .i64 0, .int .i64 0])).run Try.prog u = .ok (.bool bz) u := fun u => by rw [eq_big, hbz.out]
    rcases hcase.out with ⟨e1, e2, e3⟩ | ⟨e1, e2, e3⟩ | ⟨e1, e2, e3⟩
    · obtain rfl : bz = true := by rw [← hbz.out, e2, e3]; rfl
      have e1 := Lib.hid e1
      clear e2 e3
      go_simp
      go_wp2_with (fail)
      go_ret
      exact ⟨ret_i e1.out.symm, Y4.out⟩
    · obtain rfl : bz = false := by rw [← hbz.out, Bool.eq_false_iff]; simp; omega
      have e1 := Lib.hid e1
      subst e2
      clear e3
      go_simp
      go_wp2_with (fail)
      go_ret
      exact ⟨rfl, Y4.out⟩
    · obtain rfl : bz = false := by rw [← hbz.out, Bool.eq_false_iff]; simp; omega
      have e1 := Lib.hid e1
      subst e2
      clear e3
      go_simp
      go_wp2_with (fail)
      go_ret
      exact ⟨rfl, Y4.out⟩
end Go.Proofs.Ytpfdkocelmmllaa
