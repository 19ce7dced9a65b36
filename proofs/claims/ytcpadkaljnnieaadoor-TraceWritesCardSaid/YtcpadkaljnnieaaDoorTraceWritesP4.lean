/-
  kurganref33.Read, Same; the law's from.
  From the condition that the five tables are as they were laid to the powers of ten.
-/
import Derived.Test.YtcpadkaljnnieaaDoorTraceWritesP3
import Derived.LaidMore
import Derived.Lay
import Derived.SevenTiedAt
import Derived.Stop.Joined
import Derived.Stop.LaidErr
import Derived.Lib.LaidTab
import Derived.Test.YtcpadkaljnnieaaDoorRows
namespace Go.Proofs.YtcpadkaljnnieaaDoor
open Go.RowKit Go.ChangeShapes Go.WideShapes Go.ChangeAt Go.Deep

theorem rent_info3 : (Tryd.prog.info? 39).map (fun i => (i.zero, i.size, i.bytes)) = some (some (.agg #[.int .i64 0, .int .i64 0, .int .i64 0, .int .i64 0, .int .i64 0, .bool false]), 6, 48) := by kernel_rfl
theorem rentry_line (e : Ent) (hf : e.fine = true) (hi : e.In) (w : World) :
    Calls Tryd.prog 22 #[.string ⟨(Lib.join e.words [32]).toArray⟩] w (REntryPost e w) := by
  cases hq : e.quiet with
  | true => exact rentry2_any e hf hi hq w
  | false =>
    cases hd : e.done with
    | true => exact rentry6_true e hf hi hq hd w
    | false => exact rentry6_false e hf hi hq hd w
def FromPost (l : List Ent) (w : World) (r : Ending) (w' : World) : Prop := ∃ (A : Option Addr) (c : Nat), r = .returned (.slice A l.length c) ∧ OwV w' w.heap.size 39 6 A l.length c (entsL l) ∧ Ext w w'
set_option maxRecDepth 100000 in
set_option maxHeartbeats 1000000 in
theorem from_any (A : Option Addr) (c : Nat) (l : List Ent) (w : World) (hA : RdV w 50 A (entsL l)) (hl : l.length ≤ 1000) :
    Calls Tryd.prog 12 #[.slice A l.length c] w (FromPost l w) := by
  obtain ⟨i0, hi, hz0, hz1, hz2⟩ := info_parts rent_info3
  replace hi := Lib.hid hi
  replace hz0 := Lib.hid hz0
  replace hz1 := Lib.hid hz1
  replace hz2 := Lib.hid hz2
  have RA := Lib.hid (fun (W : World) (x : Ext w W) => hA.ext x)
  clear hA
  go_enter Tryd.func12, Tryd.ntmps12
  go_wp2_with (fail)
  go_loopw [3, 4] (fun ov iv wr => ∃ (k : Nat) (B : Option Addr) (d : Nat), ov = .slice B k d ∧ iv = .int .i64 k ∧ k ≤ l.length ∧ Hid (OwV wr w.heap.size 39 6 B k d (entsL (l.take k))) ∧ Hid (Ext w wr)) (fun _ iv _ => l.length - (intOf iv).toNat)
  case atStart => exact ⟨0, none, 0, rfl, rfl, by omega, Lib.hid (OwV.nil _ _ _ _), Lib.hid (by (repeat (first | assumption | exact Ext.rf _ | apply Ext.drew | apply Ext.drewN | apply Ext.alloc)))⟩
  case round =>
    obtain ⟨k, B, d, rfl, rfl, hk, HO, Y⟩ := hrel
    by_cases hlt : k < l.length
    · obtain ⟨b, off, e, rfl, hb, he, c0, c1, c2, c3, c4, c5⟩ := (RA.out _ Y.out).ent hlt
      have hTK : Hid (l.take (k + 1) = l.take k ++ [e]) := Lib.hid (by rw [List.take_add_one, he.out]; rfl)
      clear he
      go_wp2_with (at_builtin; refine wpl_app_v _ (e := 39) Tryd.underlying22 hi.out hz0.out hz1.out hz2.out (by simp [Value.cells]) (by omega) rfl _ _ rfl w.heap.size B k d (entsL (l.take k)) _ 1 1 (entL e) rfl rfl (HO.out.ext (by (repeat (first | assumption | exact Ext.rf _ | apply Ext.drew | apply Ext.drewN | apply Ext.alloc)))) (RdV.blk (by (first | exact .new (by simp) | exact .drew (.new (by simp)) | exact .alloc (.new (by simp)) _ | exact .drew (.alloc (.new (by simp)) _) | exact .alloc (.alloc (.new (by simp)) _) _ | exact .drew (.alloc (.alloc (.new (by simp)) _) _) | (repeat (first | assumption | (refine Blk.new ?_; (focus (simp; done))) | apply Blk.drew | apply Blk.drewN | apply Blk.alloc))))).rdC (by rfl) (by simp [Value.oneCell', entL]) (by simp only [maxLen]; omega) (by omega) (by have := Y.out.size; simp; omega) ?_; rintro A6 c6 w6 o6 g6 _)
      have M6 : ModT w.heap.size [39] wr w6 := (ModT.of_ext (by (repeat (first | assumption | exact Ext.rf _ | apply Ext.drew | apply Ext.drewN | apply Ext.alloc)))).tr ((HO.out.ext (by (repeat (first | assumption | exact Ext.rf _ | apply Ext.drew | apply Ext.drewN | apply Ext.alloc)))).grownT g6)
      have O6 : Hid (OwV w6 w.heap.size 39 6 A6 (k + 1) c6 (entsL (l.take (k + 1)))) := by rw [hTK.out, entsL_snoc]; exact Lib.hid o6
      have Y6 := Lib.hid (Y.out.modT M6 (Nat.le_refl _))
      clear M6 o6 g6 HO
      go_roundw
      case rel => exact ⟨k + 1, A6, c6, rfl, by go_num, by omega, O6, Y6⟩
      case measure => simp [intOf]; omega
    · obtain rfl : k = l.length := by omega
      have HO2 : Hid (OwV wr w.heap.size 39 6 B l.length d (entsL l)) := by have := HO.out; rw [List.take_length] at this; exact Lib.hid this
      clear HO
      go_wp2_with (fail)
      go_ret
      exact ⟨B, d, rfl, HO2.out, Y.out⟩
set_option maxRecDepth 100000 in
set_option maxHeartbeats 1000000 in
theorem same_eq (A B : Option Addr) (c d : Nat) (l : List Ent) (w : World) (hA : RdV w 39 A (entsL l)) (hB : RdV w 39 B (entsL l)) (hl : l.length ≤ 1000) :
    Calls Tryd.prog 11 #[.slice A l.length c, .slice B l.length d] w fun e w' => e = .returned (.bool true) ∧ Ext w w' := by
  have RA := Lib.hid (fun (W : World) (x : Ext w W) => hA.ext x)
  have RB := Lib.hid (fun (W : World) (x : Ext w W) => hB.ext x)
  clear hA hB
  go_enter Tryd.func11, Tryd.ntmps11
  go_wp2_with (fail)
  go_loopw [5] (fun iv wr => ∃ k : Nat, iv = .int .i64 k ∧ k ≤ l.length ∧ Hid (Ext w wr)) (fun iv _ => l.length - (intOf iv).toNat)
  case atStart => exact ⟨0, rfl, by omega, Lib.hid (by (repeat (first | assumption | exact Ext.rf _ | apply Ext.drew | apply Ext.drewN | apply Ext.alloc)))⟩
  case round =>
    obtain ⟨k, rfl, hk, Y⟩ := hrel
    by_cases hlt : k < l.length
    · obtain ⟨b, off, e, rfl, hb, he, c0, c1, c2, c3, c4, c5⟩ := (RA.out _ Y.out).ent hlt
      obtain ⟨b2, off2, e2, rfl, hb2, he2, d0, d1, d2, d3, d4, d5⟩ := (RB.out _ Y.out).ent hlt
      have hee : e2 = e := by have h1 := he.out; have h2 := he2.out; rw [h1] at h2; injection h2 with h2; exact h2.symm
      subst hee
      clear he he2 RA RB
      go_wp2_with (fail)
      go_quiet (fail)
      go_wp2_with (fail)
      go_roundw
      case rel => exact ⟨k + 1, by go_num, by omega, Lib.hid (Y.out.drewN _)⟩
      case measure => simp [intOf]; omega
    · obtain rfl : k = l.length := by omega
      clear RA RB
      go_wp2_with (fail)
      go_ret
      exact ⟨rfl, Y.out.tr (by (repeat (first | assumption | exact Ext.rf _ | apply Ext.drew | apply Ext.drewN | apply Ext.alloc)))⟩
/-- what is told of the entries of a text -/
def RReadTo (R : List Ent × Int × Int) (w : World) (r : Ending) (w' : World) : Prop := ∃ (A : Option Addr) (c : Nat), r = .returned (.tuple #[.slice A R.1.length c, .int .i64 R.2.1, .int .i64 R.2.2]) ∧ OwV w' w.heap.size 39 6 A R.1.length c (entsL R.1) ∧ Ext w w'
set_option maxRecDepth 100000 in
set_option maxHeartbeats 2000000 in
theorem rread33_any (l : List Ent) (w : World) (hl : l.length ≤ 1000) (hin : ∀ e ∈ l, e.In) (hfi : ∀ e ∈ l, e.fine = true) :
    Calls Tryd.prog 10 #[.string ⟨(linesE l).toArray⟩] w (RReadTo (readE [] 1 l) w) := by
  have EN := Lib.hid (fun (W : World) (e : Ent) (h : e ∈ l) => rentry_line e (hfi e h) (hin e h) W)
  have l0 : (linesE l).length ≤ 200000 := by have := linesE_len l hin; omega
  have CU := Lib.hid (fun (W : World) => rcut_any (linesE l) 10 W (by omega))
  rw [split_lines] at CU
  unfold CutsPost at CU
  obtain ⟨ws, hws⟩ : ∃ ws, l.map (fun e => Lib.join e.words [32]) ++ [[]] = ws := ⟨_, rfl⟩
  have hwl : ws.length = l.length + 1 := by rw [← hws, List.length_append, List.length_map]; rfl
  have WK := Lib.hid (show ∀ (k : Nat) (e : Ent), l[k]? = some e → (txV ws)[k]? = some (txS (Lib.join e.words [32])) from fun k e h => by
    have hlt := (List.getElem?_eq_some_iff.1 h).1
    unfold txV
    rw [← hws, List.getElem?_map, List.getElem?_append_left (by rw [List.length_map]; exact hlt), List.getElem?_map, h]
    rfl)
  have WN := Lib.hid (show (txV ws)[l.length]? = some (txS []) by
    unfold txV
    rw [← hws, List.getElem?_map, List.getElem?_append_right (by rw [List.length_map]; exact Nat.le_refl _), List.length_map, Nat.sub_self]
    rfl)
  have WNE := Lib.hid (show txV ws ≠ [] by rw [← hws]; simp [txV])
  rw [hws] at CU
  obtain ⟨m, hm⟩ : ∃ m, ws.length = m := ⟨_, rfl⟩
  rw [hm] at CU hwl
  clear hm hws
  obtain ⟨i0, hi, hz0, hz1, hz2⟩ := info_parts rent_info3
  replace hi := Lib.hid hi
  replace hz0 := Lib.hid hz0
  replace hz1 := Lib.hid hz1
  replace hz2 := Lib.hid hz2
  have l1 : ((linesE l).length : Int) ≤ 200000 := by omega
  clear hin hfi
  obtain ⟨R, hR⟩ : ∃ R, Hid (readE [] 1 l = R) := ⟨_, rfl⟩
  rw [hR.out]
  obtain ⟨s0, hs0⟩ : ∃ s0, Hid (linesE l = s0) := ⟨_, rfl⟩
  rw [hs0.out] at l0 l1 CU ⊢
  have WL := Lib.hid hwl
  have m1 : (1 : Int) ≤ (m : Int) := by omega
  have m2 : (m : Int) ≤ 1001 := by omega
  clear hwl hs0
  go_enter Tryd.func10, Tryd.ntmps10
  go_wp2_with (fail)
  refine (CU.out _).mono ?_
  rintro r w1 ⟨B, d, rfl, o1, x1⟩
  obtain ⟨b, off, rfl, hb, -⟩ := o1.read.form WNE.out
  have RW1 := Lib.hid o1.read
  have X1 := Lib.hid (Ext.tr (a := w) (by (repeat (first | assumption | exact Ext.rf _ | apply Ext.drew | apply Ext.drewN | apply Ext.alloc))) x1)
  have KW := Lib.hid (fun (W : World) (h : RdV W 9 (some ⟨b, off, none⟩) (txV ws)) => h.lt WNE.out b rfl)
  clear o1 x1 CU hb
  go_wp2_with (fail)
  go_loopw [6, 7] (fun ov kv wr => ∃ (k : Nat) (A : Option Addr) (c : Nat), ov = .slice A k c ∧ kv = .int .i64 k ∧ k ≤ l.length ∧ Hid (R = readE (l.take k) (k + 1) (l.drop k)) ∧ Hid (OwV wr w.heap.size 39 6 A k c (entsL (l.take k))) ∧ Hid (RdV wr 9 (some ⟨b, off, none⟩) (txV ws)) ∧ Hid (Ext w wr)) (fun _ kv _ => l.length + 1 - (intOf kv).toNat)
  case atStart => exact ⟨0, none, 0, rfl, rfl, by omega, Lib.hid (by rw [List.drop_zero, List.take_zero]; exact hR.out.symm), Lib.hid (OwV.nil _ _ _ _), Lib.hid (RW1.out.ext (by (repeat (first | assumption | exact Ext.rf _ | apply Ext.drew | apply Ext.drewN | apply Ext.alloc)))), Lib.hid (X1.out.tr (by (repeat (first | assumption | exact Ext.rf _ | apply Ext.drew | apply Ext.drewN | apply Ext.alloc))))⟩
  case round =>
    clear l0 l1 hR RW1 X1
    obtain ⟨k, A, c, rfl, rfl, hk, HR, HO, RW, Y⟩ := hrel
    have zb := KW.out _ RW.out
    by_cases hlt : k < l.length
    · obtain ⟨e, he⟩ : ∃ e, l[k]? = some e := ⟨_, List.getElem?_eq_getElem hlt⟩
      have hem := List.mem_of_getElem? he
      have hTK : Hid (l.take (k + 1) = l.take k ++ [e]) := Lib.hid (by rw [List.take_add_one, he]; rfl)
      have HR2 := HR.out.trans (readE_at he (l.take k) (k + 1))
      have EX := Lib.hid (fun (W : World) => EN.out W e hem)
      unfold REntryPost at EX
      have ck := rdv_cell RW.out (WK.out k e he)
      unfold txS at ck
      have n1 : ((k : Int) == (m : Int) - 1) = false := beq_eq_false_iff_ne.2 (by have := WL.out; omega)
      have n2 : (k : Int) < (m : Int) := by have := WL.out; omega
      have n3 : k < m := by have := WL.out; omega
      cases hsh : e.sh with
      | false =>
        rw [hsh] at HR2
        rw [if_neg (by decide)] at HR2
        simp only [hsh, Bool.false_eq_true, if_false] at EX
        have HR3 := Lib.hid HR2
        unfold entC at EX
        generalize Lib.join e.words [32] = q at *
        clear hsh HR HR2 he EN hTK WK WN WNE
        go_wp2_with (go_at_call 22; (with_reducible refine (EX.out _).mono ?_); rintro r w3 ⟨rfl, x3⟩)
        go_ret3
        rw [HR3.out]
        exact ⟨none, 0, rfl, OwV.nil _ _ _ _, Y.out.tr (Ext.tr (by (repeat (first | assumption | exact Ext.rf _ | apply Ext.drew | apply Ext.drewN | apply Ext.alloc))) (by (repeat (first | assumption | exact Ext.rf _ | apply Ext.drew | apply Ext.drewN | apply Ext.alloc))))⟩
      | true =>
        rw [hsh] at HR2
        rw [if_pos rfl] at HR2
        simp only [hsh, if_true] at EX
        have HR3 : Hid (R = readE (l.take (k + 1)) ((k + 1 : Nat) + 1) (l.drop (k + 1))) := Lib.hid (by rw [hTK.out, HR2]; congr 1)
        unfold entC at EX
        generalize Lib.join e.words [32] = q at *
        have kq : k < 1000 := by omega
        clear hsh HR HR2 he EN WK WN WNE
        go_wp2_with (first | (go_at_call 22; (with_reducible refine (EX.out _).mono ?_); rintro r w3 ⟨rfl, x3⟩; have y3 := Ext.tr (a := wr) (by (repeat (first | assumption | exact Ext.rf _ | apply Ext.drew | apply Ext.drewN | apply Ext.alloc))) x3) | (at_builtin; refine wpl_app_v _ (e := 39) Tryd.underlying22 hi.out hz0.out hz1.out hz2.out (by simp [Value.cells]) (by omega) rfl _ _ rfl w.heap.size A k c (entsL (l.take k)) _ 1 1 (entL e) rfl rfl (HO.out.ext (by (repeat (first | assumption | exact Ext.rf _ | apply Ext.drew | apply Ext.drewN | apply Ext.alloc)))) (RdV.blk (by (first | exact .new (by simp) | exact .drew (.new (by simp)) | exact .alloc (.new (by simp)) _ | exact .drew (.alloc (.new (by simp)) _) | exact .alloc (.alloc (.new (by simp)) _) _ | exact .drew (.alloc (.alloc (.new (by simp)) _) _) | (repeat (first | assumption | (refine Blk.new ?_; (focus (simp; done))) | apply Blk.drew | apply Blk.drewN | apply Blk.alloc))))).rdC (by rfl) (by simp [Value.oneCell', entL]) (by simp only [maxLen]; omega) (by omega) (by have := (Y.out.tr y3).size; simp; omega) ?_; rintro A6 c6 w6 o6 g6 _))
        have M6 : ModT w.heap.size [39] wr w6 := (ModT.of_ext (by (repeat (first | assumption | exact Ext.rf _ | apply Ext.drew | apply Ext.drewN | apply Ext.alloc)))).tr ((HO.out.ext (by (repeat (first | assumption | exact Ext.rf _ | apply Ext.drew | apply Ext.drewN | apply Ext.alloc)))).grownT g6)
        have O6 : Hid (OwV w6 w.heap.size 39 6 A6 (k + 1) c6 (entsL (l.take (k + 1)))) := by rw [hTK.out, entsL_snoc]; exact Lib.hid o6
        have Y6 := Lib.hid (Y.out.modT M6 (Nat.le_refl _))
        have RW6 := Lib.hid (RW.out.modT M6 (by decide))
        clear M6 o6 g6 x3 y3 HO RW ck
        go_roundw
        case rel => exact ⟨k + 1, A6, c6, rfl, by go_num, by omega, HR3, O6, RW6, Y6⟩
        case measure => simp [intOf]; omega
    · obtain rfl : k = l.length := by omega
      have HR3 : Hid (R = (l, 0, 0)) := Lib.hid (by have := HR.out; rwa [List.take_length, List.drop_length, readE] at this)
      have HO2 : Hid (OwV wr w.heap.size 39 6 A l.length c (entsL l)) := by have := HO.out; rw [List.take_length] at this; exact Lib.hid this
      have ck := rdv_cell RW.out WN.out
      unfold txS at ck
      have n1 : ((l.length : Int) == (m : Int) - 1) = true := beq_iff_eq.2 (by have := WL.out; omega)
      have n2 : (l.length : Int) < (m : Int) := by have := WL.out; omega
      have n3 : l.length < m := by have := WL.out; omega
      clear HR HO EN WK WN WNE
      go_wp2_with (fail)
      go_ret3
      rw [HR3.out]
      exact ⟨A, c, rfl, HO2.out.ext (by (repeat (first | assumption | exact Ext.rf _ | apply Ext.drew | apply Ext.drewN | apply Ext.alloc))), Y.out.tr (by (repeat (first | assumption | exact Ext.rf _ | apply Ext.drew | apply Ext.drewN | apply Ext.alloc)))⟩
end Go.Proofs.YtcpadkaljnnieaaDoor
namespace Go.Proofs.YtcpadkaljnnieaaDoor
open Go.RowKit Go.ChangeShapes Go.WideShapes Go.ChangeAt

/-- the variables that the row lists -/
def tabN : List (String × DataW Unit) := [("math/bits.deBruijn32tab", Rows.laid_math_bits_deBruijn32tab), ("math/bits.deBruijn64tab", Rows.laid_math_bits_deBruijn64tab), ("internal/strconv.uint64pow10", Rows.laid_internal_strconv_uint64pow10), ("unicode/utf8.acceptRanges", Rows.laid_unicode_utf8_acceptRanges), ("unicode/utf8.first", Rows.laid_unicode_utf8_first)]
theorem tenDataN : (Rows.laid_internal_strconv_uint64pow10 : DataW Unit) = Lib.tabData .u64 Lib.pow10Tab := by kernel_rfl
theorem ten_of_laid {W : World} (h : laidMetH Tryd.prog tabN W) : Ten W := by
  rw [MakeChecks.laidMetH_plain _ _ _ (by kernel_rfl)] at h
  unfold tabN at h
  have h1 := laidMet.tail h
  have h2 := laidMet.tail h1
  rw [tenDataN] at h2
  exact Lib.tabIs_of_head (g := 1) (t := 135) (e := 106) (n := 20) (by kernel_rfl) (by kernel_rfl) Tryd.underlying135 Tryd.underlying106 (by kernel_rfl) (by kernel_rfl) h2
end Go.Proofs.YtcpadkaljnnieaaDoor
