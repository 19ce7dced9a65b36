/-
  The document's kernel of an assignment: which columns a beginning leaves.
  The document's kernel of an assignment: Kids.
-/
import Derived.Test.YtpngflmngnjjoaaDoorAssignW1
import Derived.Test.YtpngflmngnjjoaaDoorAssignW3
namespace Go.Proofs.YtpngflmngnjjoaaDoor
open Go.RowKit Go.ChangeShapes Go.WideShapes Go.ChangeAt Go.Deep

/-- which columns are used, as the cells say -/
def usedC (n m : Nat) : Array Value := ((List.range 24).map fun c => Value.bool (decide (c < n) && !m.testBit c)).toArray
theorem usedC_at {n m c : Nat} (hc : c < 24) : (usedC n m)[c]? = some (.bool (decide (c < n) && !m.testBit c)) := by
  unfold usedC
  simp [hc]
theorem usedC_set {n m c : Nat} (h : m < 18446744073709551616) (hc : c < n) : (usedC n m).setIfInBounds c (.bool true) = usedC n (clrM m c) := by
  apply Array.ext_getElem?
  intro i
  by_cases hi : i < 24
  · rw [usedC_at hi]
    by_cases e : c = i
    · subst e
      rw [Array.getElem?_setIfInBounds_self_of_lt (by unfold usedC; simp; omega), clrM_bit h]
      simp [hc]
    · rw [Array.getElem?_setIfInBounds_ne e, usedC_at hi, clrM_bit h]
      simp [e]
  · rw [Array.getElem?_eq_none (by unfold usedC; simp; omega), Array.getElem?_eq_none (by unfold usedC; simp; omega)]
abbrev used0 : Array Value := #[.bool false, .bool false, .bool false, .bool false, .bool false, .bool false, .bool false, .bool false, .bool false, .bool false, .bool false, .bool false, .bool false, .bool false, .bool false, .bool false, .bool false, .bool false, .bool false, .bool false, .bool false, .bool false, .bool false, .bool false]
theorem usedC_full {n : Nat} (h : n ≤ 24) : usedC n (2 ^ n - 1) = used0 := by
  apply Array.ext_getElem?
  intro i
  by_cases hi : i < 24
  · rw [usedC_at hi]
    have e : (decide (i < n) && !(2 ^ n - 1).testBit i) = false := by
      rw [Nat.testBit_two_pow_sub_one]
      cases decide (i < n) <;> rfl
    rw [e]
    have : i = 0 ∨ i = 1 ∨ i = 2 ∨ i = 3 ∨ i = 4 ∨ i = 5 ∨ i = 6 ∨ i = 7 ∨ i = 8 ∨ i = 9 ∨ i = 10 ∨ i = 11 ∨ i = 12 ∨ i = 13 ∨ i = 14 ∨ i = 15 ∨ i = 16 ∨ i = 17 ∨ i = 18 ∨ i = 19 ∨ i = 20 ∨ i = 21 ∨ i = 22 ∨ i = 23 := by omega
    rcases this with rfl | rfl | rfl | rfl | rfl | rfl | rfl | rfl | rfl | rfl | rfl | rfl | rfl | rfl | rfl | rfl | rfl | rfl | rfl | rfl | rfl | rfl | rfl | rfl <;> rfl
  · rw [Array.getElem?_eq_none (by unfold usedC; simp; omega), Array.getElem?_eq_none (by simp; omega)]
theorem memsM_range {n m : Nat} (h : SubN n m) (hn : n ≤ 64) : memsM m = (List.range n).filter fun c => m.testBit c := by
  refine List.Perm.eq_of_pairwise (le := (· < ·)) (fun a b _ _ h1 h2 => by omega) (memsM_sorted m) (List.Pairwise.filter _ List.pairwise_lt_range) ?_
  refine (List.perm_ext_iff_of_nodup ((memsM_sorted m).imp fun h => Nat.ne_of_lt h) ((List.Pairwise.filter _ List.pairwise_lt_range).imp fun h => Nat.ne_of_lt h)).2 fun c => ?_
  rw [memsM_mem]
  simp only [List.mem_filter, List.mem_range]
  constructor
  · rintro ⟨h1, h2⟩
    exact ⟨h.2 c (memsM_mem.2 ⟨h1, h2⟩), h2⟩
  · rintro ⟨h1, h2⟩
    exact ⟨by omega, h2⟩
def FreeSome (m : Nat) (w : World) (e : Ending) (w' : World) : Prop := ∃ A c, e = .returned (.tuple #[.slice A (memsM m).length c, .bool true]) ∧ OwI w' w.heap.size A c (intsN (memsM m)) ∧ Ext w w'
def RFree (r : Option Nat) (w : World) (e : Ending) (w' : World) : Prop := match r with
  | none => e = .returned (.tuple #[.slice none 0 0, .bool false]) ∧ Ext w w'
  | some m => FreeSome m w e w'
def upTo (m k : Nat) : List Nat := (List.range k).filter fun c => m.testBit c
theorem upTo_succ (m k : Nat) : upTo m (k + 1) = upTo m k ++ if m.testBit k = true then [k] else [] := by
  unfold upTo
  rw [List.range_succ, List.filter_append]
  by_cases h : m.testBit k = true
  · rw [if_pos h]; simp [h]
  · rw [if_neg h]; simp [h]
theorem upTo_len (m k : Nat) : (upTo m k).length ≤ k := by
  have := List.length_filter_le (fun c => m.testBit c) (List.range k)
  rwa [List.length_range] at this
set_option maxRecDepth 100000 in
set_option maxHeartbeats 4000000 in
theorem rfree_any (i : InstP) (us : List Value) (P : Option Addr) (pc : Nat) (p : List Int) (w : World) (H : RInst w us i) (n : Nat) (hn : i.n = n) (h1 : 1 ≤ n) (h24 : n ≤ 24) (hP : RdI w P p) (lp : p.length ≤ 1000000000) :
    Calls Tryd.prog 51 #[.agg (List.toArray us), .slice P p.length pc] w (RFree (freeP n p) w) := by
  obtain ⟨kind, nn, cap, xw, xv, co⟩ := i
  obtain ⟨A, a, B, b, D, d, rfl, -, -, -⟩ := H
  simp only at *
  subst hn
  have UF := Lib.hid (subN_full h24)
  obtain ⟨r, hr⟩ : ∃ r, Hid (freeP n p = r) := ⟨_, rfl⟩
  rw [hr.out]
  unfold freeP at hr
  replace hP := Lib.hid hP
  have B1 : Hid (Blk (w.alloc (.cells #[.int .i64 kind, .int .i64 n, .int .i64 cap, .slice A xw.length a, .slice B xv.length b, .slice D co.length d] 25)) w.heap.size 25 #[.int .i64 kind, .int .i64 n, .int .i64 cap, .slice A xw.length a, .slice B xv.length b, .slice D co.length d]) := .new rfl
  by_cases hlen : n < p.length
  · have hr2 : Hid (r = none) := by
      have h := hr.out
      rw [if_pos hlen] at h
      exact h.symm
    have hlb : (n : Int) < (p.length : Int) := by omega
    rw [hr2.out]
    unfold RFree
    clear hr hr2
    go_enter Tryd.func51, Tryd.ntmps51
    go_wp2_with (fail)
    go_ret2
    exact ⟨rfl, by (repeat (first | assumption | exact Ext.rf _ | apply Ext.drew | apply Ext.drewN | apply Ext.alloc))⟩
  · have hr2 : Hid (freeM (2 ^ n - 1) p = r) := by
      have h := hr.out
      rw [if_neg hlen] at h
      exact h
    have hlb : ¬ (n : Int) < (p.length : Int) := by omega
    obtain ⟨m0, hm0⟩ : ∃ m0, Hid (m0 = 2 ^ n - 1) := ⟨2 ^ n - 1, by exact rfl⟩
    have FU2 : Hid (usedC n m0 = used0) := by rw [hm0.out]; exact usedC_full h24
    rw [← hm0.out] at hr2 UF
    have START : Hid (Ext w ((w.alloc (.cells #[.int .i64 kind, .int .i64 n, .int .i64 cap, .slice A xw.length a, .slice B xv.length b, .slice D co.length d] 25)).alloc (.cells #[.bool false, .bool false, .bool false, .bool false, .bool false, .bool false, .bool false, .bool false, .bool false, .bool false, .bool false, .bool false, .bool false, .bool false, .bool false, .bool false, .bool false, .bool false, .bool false, .bool false, .bool false, .bool false, .bool false, .bool false] 82)) ∧ Blk ((w.alloc (.cells #[.int .i64 kind, .int .i64 n, .int .i64 cap, .slice A xw.length a, .slice B xv.length b, .slice D co.length d] 25)).alloc (.cells #[.bool false, .bool false, .bool false, .bool false, .bool false, .bool false, .bool false, .bool false, .bool false, .bool false, .bool false, .bool false, .bool false, .bool false, .bool false, .bool false, .bool false, .bool false, .bool false, .bool false, .bool false, .bool false, .bool false, .bool false] 82)) w.heap.size 25 #[.int .i64 kind, .int .i64 n, .int .i64 cap, .slice A xw.length a, .slice B xv.length b, .slice D co.length d] ∧ Blk ((w.alloc (.cells #[.int .i64 kind, .int .i64 n, .int .i64 cap, .slice A xw.length a, .slice B xv.length b, .slice D co.length d] 25)).alloc (.cells #[.bool false, .bool false, .bool false, .bool false, .bool false, .bool false, .bool false, .bool false, .bool false, .bool false, .bool false, .bool false, .bool false, .bool false, .bool false, .bool false, .bool false, .bool false, .bool false, .bool false, .bool false, .bool false, .bool false, .bool false] 82)) (w.heap.size + 1) 82 (usedC n m0)) :=
      ⟨((Ext.rf _).alloc _).alloc _, B1.out.alloc _, by rw [FU2.out]; exact .new (by simp)⟩
    clear hr
    go_enter Tryd.func51, Tryd.ntmps51
    go_wp2_with (fail)
    go_loopw [7] (fun v wr => ∃ (k m : Nat), v = .int .i64 k ∧ k ≤ p.length ∧ Hid (freeM m (p.drop k) = r) ∧ Hid (SubN n m) ∧ Hid (Ext w wr ∧ Blk wr w.heap.size 25 #[.int .i64 kind, .int .i64 n, .int .i64 cap, .slice A xw.length a, .slice B xv.length b, .slice D co.length d] ∧ Blk wr (w.heap.size + 1) 82 (usedC n m))) (fun v _ => p.length - (intOf v).toNat)
    case atStart => exact ⟨0, m0, rfl, by omega, hr2, UF, START⟩
    case round =>
      obtain ⟨wo, rfl⟩ : ∃ wo : World, wo = wr := ⟨_, rfl⟩
      clear START FU2
      obtain ⟨k, m, rfl, hk, HF, HU, HH⟩ := hrel
      obtain ⟨Y, bI, bU⟩ := HH.out
      have cN : wo.cell? ⟨w.heap.size, 1, none⟩ = some (.int .i64 n) := bI.cell 1
      replace Y := Lib.hid Y
      replace bI := Lib.hid bI
      replace bU := Lib.hid bU
      clear HH
      by_cases hlt : k < p.length
      · obtain ⟨pb, po, c, rfl, zp, cp, ep, dp⟩ := (hP.out.ext Y.out).at hlt
        have HF2 : Hid (r = if 0 ≤ c ∧ c < 64 ∧ m.testBit c.toNat = true then freeM (clrM m c.toNat) (p.drop (k + 1)) else none) := by
          have h := HF.out
          rw [dp.out, freeM_cons] at h
          exact h.symm
        have q1 : (k : Int) < (p.length : Int) := by omega
        clear HF ep dp
        by_cases c0 : c < 0
        · have HN : Hid (r = none) := by
            have h := HF2.out
            rw [if_neg (by omega)] at h
            exact h
          have t0 : decide (c < 0) = true := decide_eq_true c0
          go_wp2_with (fail)
          go_quiet (fail)
          go_wp2_with (fail)
          go_ret2
          rw [HN.out]
          exact ⟨rfl, Y.out.drewN _⟩
        · have t0 : decide (c < 0) = false := decide_eq_false c0
          obtain ⟨ci, rfl⟩ : ∃ ci : Nat, c = (ci : Int) := ⟨c.toNat, by omega⟩
          rw [Int.toNat_natCast] at HF2
          clear c0 t0
          by_cases c1 : n ≤ ci
          · have HN : Hid (r = none) := by
              have h := HF2.out
              rw [if_neg (by rintro ⟨_, h1, h2⟩; have := HU.out.2 ci (memsM_mem.2 ⟨by omega, h2⟩); omega)] at h
              exact h
            have t1 : decide (n ≤ ci) = true := decide_eq_true c1
            have t2 : decide ((n : Int) ≤ (ci : Int)) = true := decide_eq_true (by omega)
            go_wp2_with (fail)
            go_quiet (fail)
            go_wp2_with (fail)
            go_ret2
            rw [HN.out]
            exact ⟨rfl, Y.out.drewN _⟩
          · have t1 : decide (n ≤ ci) = false := decide_eq_false c1
            have t2 : decide ((n : Int) ≤ (ci : Int)) = false := decide_eq_false (by omega)
            have cin : ci < n := by omega
            have ci24 : (ci : Int) < 24 := by omega
            have dn : decide (ci < n) = true := decide_eq_true cin
            cases hb : m.testBit ci with
            | false =>
              have HN : Hid (r = none) := by
                have h := HF2.out
                rw [if_neg (by rintro ⟨_, h1, h2⟩; rw [hb] at h2; cases h2)] at h
                exact h
              have cu : wo.cell? ⟨w.heap.size + 1, ci, none⟩ = some (.bool true) := by rw [bU.out.cell, usedC_at (by omega), dn, hb]; rfl
              clear HF2 hb dn
              go_wp2_with (fail)
              go_quiet (fail)
              go_wp2_with (fail)
              go_ret2
              rw [HN.out]
              exact ⟨rfl, Y.out.drewN _⟩
            | true =>
              have HF3 : Hid (freeM (clrM m ci) (p.drop (k + 1)) = r) := by
                have h := HF2.out
                rw [if_pos ⟨by omega, by omega, hb⟩] at h
                exact h.symm
              have cu : wo.cell? ⟨w.heap.size + 1, ci, none⟩ = some (.bool false) := by rw [bU.out.cell, usedC_at (by omega), dn, hb]; rfl
              have fu := bU.out.free ci
              have HU2 := Lib.hid (HU.out.clr ci)
              have NX : Hid (∀ q, Ext w ((wo.drewN q).setCell ⟨w.heap.size + 1, ci, none⟩ (.bool true)) ∧ Blk ((wo.drewN q).setCell ⟨w.heap.size + 1, ci, none⟩ (.bool true)) w.heap.size 25 #[.int .i64 kind, .int .i64 n, .int .i64 cap, .slice A xw.length a, .slice B xv.length b, .slice D co.length d] ∧ Blk ((wo.drewN q).setCell ⟨w.heap.size + 1, ci, none⟩ (.bool true)) (w.heap.size + 1) 82 (usedC n (clrM m ci))) := by
                intro q
                refine ⟨(Y.out.drewN q).setNew (by simp) _, (bI.out.drewN q).far (by simp) _, ?_⟩
                rw [← usedC_set HU.out.1 cin]
                exact (bU.out.drewN q).set ci _
              clear HF2 hb dn
              generalize clrM m ci = m2 at *
              go_wp2_with (fail)
              go_quiet (fail)
              go_wp2_with (fail)
              go_roundw
              case rel => exact ⟨k + 1, m2, by go_num, by omega, HF3, HU2, NX.out _⟩
              case measure => simp [intOf]; omega
      · have HF2 : Hid (some m = r) := by
          have h := HF.out
          rw [show p.drop k = [] from List.drop_of_length_le (by omega)] at h
          exact h
        have q1 : ¬ (k : Int) < (p.length : Int) := by omega
        have HM : Hid (memsM m = upTo m n) := memsM_range HU.out (by omega)
        have X9 := Lib.hid (Y.out.alloc (.cells #[] 3))
        have bI9 := Lib.hid (bI.out.alloc (.cells #[] 3))
        have bU9 := Lib.hid (bU.out.alloc (.cells #[] 3))
        have zY := Y.out.size
        have o9 : Hid (OwI (wo.alloc (.cells #[] 3)) w.heap.size (some ⟨wo.heap.size, 0, none⟩) 0 (intsN (upTo m 0))) := OwI.new (xs := []) rfl zY (by simp [maxLen])
        clear HF HU hr2
        go_wp2_with (fail)
        go_loopw [9, 8] (fun v o wr => ∃ (k : Nat) (A' : Option Addr) (c' : Nat), v = .int .i64 k ∧ o = .slice A' (upTo m k).length c' ∧ k ≤ n ∧ Hid (OwI wr w.heap.size A' c' (intsN (upTo m k))) ∧ Hid (Ext w wr) ∧ Hid (Blk wr w.heap.size 25 #[.int .i64 kind, .int .i64 n, .int .i64 cap, .slice A xw.length a, .slice B xv.length b, .slice D co.length d]) ∧ Hid (Blk wr (w.heap.size + 1) 82 (usedC n m))) (fun v _ _ => n - (intOf v).toNat)
        case atStart => exact ⟨0, _, _, rfl, rfl, by omega, o9, X9, bI9, bU9⟩
        case round =>
          obtain ⟨wi, rfl⟩ : ∃ wi : World, wi = wr := ⟨_, rfl⟩
          obtain ⟨j, A', c', rfl, rfl, hj, oJ, YJ, bIJ, bUJ⟩ := hrel
          clear X9 bI9 bU9 o9
          have cN2 : wi.cell? ⟨w.heap.size, 1, none⟩ = some (.int .i64 n) := bIJ.out.cell 1
          have US := Lib.hid (upTo_succ m j)
          have UL := upTo_len m j
          by_cases hjn : j < n
          · have j24 : (j : Int) < 24 := by omega
            have dn : decide (j < n) = true := decide_eq_true hjn
            have q3 : (j : Int) < (n : Int) := by omega
            cases hb : m.testBit j with
            | false =>
              have cu : wi.cell? ⟨w.heap.size + 1, j, none⟩ = some (.bool true) := by rw [bUJ.out.cell, usedC_at (by omega), dn, hb]; rfl
              have HE : Hid (upTo m (j + 1) = upTo m j) := by
                have h := US.out
                rw [hb, if_neg (by simp), List.append_nil] at h
                exact h
              clear US hb dn
              go_wp2_with (fail)
              go_roundw
              case rel => exact ⟨j + 1, A', c', by go_num, by rw [HE.out], by omega, by rw [HE.out]; exact oJ, YJ, bIJ, bUJ⟩
              case measure => simp [intOf]; omega
            | true =>
              have cu : wi.cell? ⟨w.heap.size + 1, j, none⟩ = some (.bool false) := by rw [bUJ.out.cell, usedC_at (by omega), dn, hb]; rfl
              have HE : Hid (upTo m (j + 1) = upTo m j ++ [j]) := by
                have h := US.out
                rw [hb, if_pos rfl] at h
                exact h
              have HE2 : Hid (intsN (upTo m (j + 1)) = intsN (upTo m j) ++ [(j : Int)]) := by
                have h : intsN (upTo m (j + 1)) = intsN (upTo m j) ++ [(j : Int)] := by rw [HE.out]; simp [intsN]
                exact h
              have HL : Hid ((upTo m (j + 1)).length = (upTo m j).length + 1) := by
                have h : (upTo m (j + 1)).length = (upTo m j).length + 1 := by rw [HE.out]; simp
                exact h
              have zJ := YJ.out.size
              have e0 : (upTo m j).length = (intsN (upTo m j)).length := (intsN_len _).symm
              have l0 : (intsN (upTo m j)).length ≤ 24 := by rw [intsN_len]; omega
              rw [e0]
              clear US hb dn UL e0 HE
              replace l0 := Lib.hid l0
              go_wp2_with (at_builtin; refine wpl_app_i _ rfl _ _ rfl w.heap.size A' (intsN (upTo m j)).length c' (intsN (upTo m j)) [(j : Int)] (some ⟨wi.heap.size, 0, none⟩) 1 rfl rfl rfl ?_ ?_ ?_ ?_ ?_; (exact oJ.out.ext ((Ext.rf _).alloc _)); (exact .blk (.new (by simp)) rfl); (have := l0.out; simp; omega); (first | exact Nat.le_refl _ | omega | (focus (simp; try omega))); rintro A5 c5 w5 o5 g5 _; have X5 := Lib.hid (Ext.grow (YJ.out.alloc _) g5 (fun k hk => (oJ.out.lt k hk).1)); have bI5 : Hid (Blk w5 w.heap.size 25 #[.int .i64 kind, .int .i64 n, .int .i64 cap, .slice A xw.length a, .slice B xv.length b, .slice D co.length d]) := (bIJ.out.alloc _).mod (Mod.grown (S := fun k => bl A' = some k) g5 (fun _ h => h)) (fun h => absurd rfl (oJ.out.ne bIJ.out (by decide) _ h)); have bU5 : Hid (Blk w5 (w.heap.size + 1) 82 (usedC n m)) := (bUJ.out.alloc _).mod (Mod.grown (S := fun k => bl A' = some k) g5 (fun _ h => h)) (fun h => absurd rfl (oJ.out.ne bUJ.out (by decide) _ h)); rw [← HE2.out] at o5; replace o5 := Lib.hid o5; clear g5)
              go_roundw
              case rel => exact ⟨j + 1, A5, c5, by go_num, by rw [HL.out, intsN_len], by omega, o5, X5, bI5, bU5⟩
              case measure => simp [intOf]; omega
          · obtain rfl : j = n := by omega
            have q3 : ¬ (j : Int) < (j : Int) := by omega
            have FIN : Hid (FreeSome m w (.returned (.tuple #[.slice A' (upTo m j).length c', .bool true])) wi) := ⟨A', c', by rw [HM.out], by rw [HM.out]; exact oJ.out, YJ.out⟩
            clear US UL
            go_wp2_with (fail)
            go_ret2
            rw [← HF2.out]
            exact FIN.out
end Go.Proofs.YtpngflmngnjjoaaDoor
namespace Go.Proofs.YtpngflmngnjjoaaDoor
open Go.RowKit Go.ChangeShapes Go.WideShapes Go.ChangeAt Go.Deep

theorem strB_cfR (row : List Int) (x y : Nat) : strB (ltC (cfR row)) x y = (decide (row.getD x 0 < row.getD y 0) || (decide (row.getD x 0 = row.getD y 0) && decide (x < y))) := by
  unfold strB ltC cfR
  rw [Bool.eq_iff_iff]
  simp only [Bool.or_eq_true, Bool.and_eq_true, Bool.not_eq_true', decide_eq_true_eq, decide_eq_false_iff_not]
  omega
theorem rise_lt {l : List Nat} (h : l.Pairwise (· < ·)) {i j x y : Nat} (hx : l[i]? = some x) (hy : l[j]? = some y) : decide (x < y) = decide (i < j) := by
  obtain ⟨h1, rfl⟩ := List.getElem?_eq_some_iff.1 hx
  obtain ⟨h2, rfl⟩ := List.getElem?_eq_some_iff.1 hy
  rw [decide_eq_decide]
  rcases Nat.lt_trichotomy i j with hc | hc | hc
  · exact ⟨fun _ => hc, fun _ => List.pairwise_iff_getElem.1 h i j h1 h2 hc⟩
  · subst hc; omega
  · have := List.pairwise_iff_getElem.1 h j i h2 h1 hc
    omega
set_option maxRecDepth 100000 in
set_option maxHeartbeats 8000000 in
theorem rkids12_any (i : InstP) (us : List Value) (P : Option Addr) (pc : Nat) (p : List Int) (w : World) (H : RInst w us i) (ok : SquareOk i) (hP : RdI w P p) (lp : p.length ≤ 1000000000) :
    Calls Tryd.prog 25 #[.agg (List.toArray us), .slice P p.length pc] w (OwnPost (kidsA i.cost p).1 (kidsA i.cost p).2 w) := by
  have rok := rows_ok ok
  have l1 := rok.n1
  have l2 := rok.n2
  have hnn : i.n = (i.cost.length : Int) := ok.len.symm
  have FR := fun (W : World) (x : Ext w W) => rfree_any i us P pc p W (H.ext x) i.cost.length hnn l1 l2 (hP.ext x) lp
  clear ok
  obtain ⟨kind, nn, cap, xw, xv, co⟩ := i
  obtain ⟨A, a, B, b, D, d, rfl, -, -, ⟨hC, -, -⟩⟩ := H
  simp only at *
  subst hnn
  obtain ⟨r, hr⟩ : ∃ r, Hid (freeP co.length p = r) := ⟨_, rfl⟩
  rw [hr.out] at FR
  replace hP := Lib.hid hP
  have B1 : Hid (Blk (w.alloc (.cells #[.int .i64 kind, .int .i64 co.length, .int .i64 cap, .slice A xw.length a, .slice B xv.length b, .slice D co.length d] 25)) w.heap.size 25 #[.int .i64 kind, .int .i64 co.length, .int .i64 cap, .slice A xw.length a, .slice B xv.length b, .slice D co.length d]) := .new rfl
  cases r with
  | none =>
    have e : kidsA co p = ([], 1) := by unfold kidsA; rw [hr.out]
    rw [e]
    unfold RFree at FR
    replace FR := Lib.hid FR
    go_enter Tryd.func25, Tryd.ntmps25
    go_wp2_with (fail)
    refine (FR.out _ (by (repeat (first | assumption | exact Ext.rf _ | apply Ext.drew | apply Ext.drewN | apply Ext.alloc)))).mono ?_
    rintro e w1 ⟨rfl, x1⟩
    have X1 := Lib.hid (Ext.tr (a := w) (by (repeat (first | assumption | exact Ext.rf _ | apply Ext.drew | apply Ext.drewN | apply Ext.alloc))) x1)
    clear x1
    go_wp2_with (fail)
    go_ret2
    exact ⟨none, 0, rfl, OwI.nil _ _, X1.out⟩
  | some m =>
    obtain ⟨hpl, hin, hS⟩ := freeP_in l2 hr.out
    have hlen := freeP_len l2 hr.out
    have e : kidsA co p = (intsN (sortP (ltC (cfR (co.getD p.length []))) (memsM m)), 0) := by unfold kidsA; rw [hr.out]
    rw [e]
    clear e
    have hsub := Lib.hid hS.2
    have hsrt := Lib.hid (memsM_sorted m)
    replace FR := fun (W : World) (x : Ext w W) => (show Calls _ _ _ W (FreeSome m W) from FR W x)
    unfold FreeSome at FR
    replace FR := Lib.hid FR
    clear hr hS hin
    generalize memsM m = l at *
    by_cases hpn : p.length = co.length
    · obtain rfl : l = [] := List.eq_nil_of_length_eq_zero (by omega)
      have e : sortP (ltC (cfR (co.getD p.length []))) [] = [] := rfl
      rw [e]
      have hb : ((p.length : Int) == (co.length : Int)) = true := by rw [beq_iff_eq]; omega
      replace hpn := Lib.hid hpn
      clear e
      go_enter Tryd.func25, Tryd.ntmps25
      go_wp2_with (fail)
      refine (FR.out _ (by (repeat (first | assumption | exact Ext.rf _ | apply Ext.drew | apply Ext.drewN | apply Ext.alloc)))).mono ?_
      rintro e w1 ⟨A1, c1, rfl, o1, x1⟩
      have X1 := Lib.hid (Ext.tr (a := w) (by (repeat (first | assumption | exact Ext.rf _ | apply Ext.drew | apply Ext.drewN | apply Ext.alloc))) x1)
      have BB := B1.out.ext x1
      have d1 : w1.cell? ⟨w.heap.size, 1, none⟩ = some (.int .i64 co.length) := BB.cell 1
      clear x1 o1 BB
      go_wp2_with (fail)
      go_ret2
      exact ⟨none, 0, rfl, OwI.nil _ _, X1.out⟩
    · have hb : ((p.length : Int) == (co.length : Int)) = false := by rw [beq_eq_false_iff_ne]; omega
      have hkr : p.length < co.length := by omega
      have er : co[p.length]? = some co[p.length] := List.getElem?_eq_getElem hkr
      have eg : co.getD p.length [] = co[p.length] := by simp [List.getD, er]
      rw [eg]
      clear eg
      replace hC := Lib.hid hC
      have hmem : co[p.length] ∈ co := List.getElem_mem hkr
      have lrow := rok.row _ hmem
      clear hmem
      have HCO : Hid (∀ W, Ext w W → ∃ bb off D' row d', D = some ⟨bb, off, none⟩ ∧ W.cell? ⟨bb, off + p.length, none⟩ = some (.slice D' row.length d') ∧ RdI W D' row ∧ row = co[p.length]) := by
        intro W x
        obtain ⟨bb, off, D', row, d', h1, _, h3, h4, _, h6, _⟩ := (hC.out.ext x fun _ _ h => h.ext x).ints hkr
        refine ⟨bb, off, D', row, d', h1, h3, h6, ?_⟩
        have := h4.out
        rw [er] at this
        exact (Option.some.inj this).symm
      generalize co[p.length] = row0 at *
      clear er
      have q1 : (p.length : Int) < (co.length : Int) := by omega
      have hl24 : l.length ≤ 24 := by omega
      replace lrow := Lib.hid lrow
      replace hlen := Lib.hid hlen
      clear hpn
      go_enter Tryd.func25, Tryd.ntmps25
      go_wp2_with (fail)
      refine (FR.out _ (by (repeat (first | assumption | exact Ext.rf _ | apply Ext.drew | apply Ext.drewN | apply Ext.alloc)))).mono ?_
      rintro e w1 ⟨A1, c1, rfl, o1, x1⟩
      have X1 := Lib.hid (Ext.tr (a := w) (by (repeat (first | assumption | exact Ext.rf _ | apply Ext.drew | apply Ext.drewN | apply Ext.alloc))) x1)
      have BB := Lib.hid (B1.out.ext x1)
      obtain ⟨bb, off, D', row, d', rfl, cD, rD, rfl⟩ := HCO.out _ X1.out
      have d1 : w1.cell? ⟨w.heap.size, 1, none⟩ = some (.int .i64 co.length) := BB.out.cell 1
      have d5 : w1.cell? ⟨w.heap.size, 5, none⟩ = some (.slice (some ⟨bb, off, none⟩) co.length d) := BB.out.cell 5
      have z1 := X1.out.size
      have zo := o1.lt
      replace o1 := Lib.hid o1.read
      replace rD := Lib.hid rD
      clear x1 HCO zo
      go_wp2_with (at_make; refine wpl_make_i _ rfl _ _ rfl w1.heap.size _ _ l.length rfl rfl rfl rfl (by omega) (Nat.le_refl _) ?_; rintro w3 o3 g3)
      have x3 : Ext w1 w3 := (Ext.rf _).grownNone g3
      have S3 : Hid (OwI w3 w1.heap.size (some ⟨w1.heap.size, 0, none⟩) l.length (placeK (aheadL (ltC (cfR row)) l) l 0) ∧ Ext w1 w3) := ⟨o3, x3⟩
      clear o3 g3 x3 d1 d5 cD
      go_wp2_with (fail)
      go_loopw [10] (fun v wr => ∃ k : Nat, v = .int .i64 k ∧ k ≤ l.length ∧ Hid (OwI wr w1.heap.size (some ⟨w1.heap.size, 0, none⟩) l.length (placeK (aheadL (ltC (cfR row)) l) l k) ∧ Ext w1 wr)) (fun v _ => l.length - (intOf v).toNat)
      case atStart => exact ⟨0, rfl, by omega, S3⟩
      case round =>
        obtain ⟨wo, rfl⟩ : ∃ wo : World, wo = wr := ⟨_, rfl⟩
        obtain ⟨k, rfl, hk, HS⟩ := hrel
        clear S3
        by_cases hlt : k < l.length
        · have q2 : (k : Int) < (l.length : Int) := by omega
          have ek : l[k]? = some l[k] := List.getElem?_eq_getElem hlt
          have hkm : l[k] ∈ l := List.getElem_mem hlt
          have HPK : Hid (placeK (aheadL (ltC (cfR row)) l) l (k + 1) = (placeK (aheadL (ltC (cfR row)) l) l k).set (aheadL (ltC (cfR row)) l l[k]) ((l[k] : Nat) : Int)) := by
            have h : placeK (aheadL (ltC (cfR row)) l) l (k + 1) = (placeK (aheadL (ltC (cfR row)) l) l k).set (aheadL (ltC (cfR row)) l (l.getD k 0)) ((l.getD k 0 : Nat) : Int) := rfl
            rw [show l.getD k 0 = l[k] by simp [List.getD, ek]] at h
            exact h
          have hxs := hsub.out _ hkm
          generalize l[k] = x at *
          obtain ⟨O, Y⟩ := HS.out
          clear HS
          replace O := Lib.hid O
          replace Y := Lib.hid Y
          go_wp2_with (fail)
          go_loopw [12, 11] (fun v nv wr => ∃ j : Nat, v = .int .i64 j ∧ nv = .int .i64 (aheadL (ltC (cfR row)) (l.take j) x : Nat) ∧ j ≤ l.length ∧ Hid (Ext wo wr)) (fun v _ _ => l.length - (intOf v).toNat)
          case atStart => exact ⟨0, rfl, rfl, by omega, Ext.rf _⟩
          case round =>
            obtain ⟨wi, rfl⟩ : ∃ wi : World, wi = wr := ⟨_, rfl⟩
            obtain ⟨j, rfl, rfl, hj, YI⟩ := hrel
            have hale := aheadL_le (ltC (cfR row)) (l.take j) x
            rw [List.length_take] at hale
            have rl : RdI wi A1 (intsN l) := (o1.out.ext Y.out).ext YI.out
            have rr : RdI wi D' row := (rD.out.ext Y.out).ext YI.out
            obtain ⟨lb, lo, xk, rfl, _, ck, exk, _⟩ := rl.at (k := k) (by rw [intsN_len]; exact hlt)
            obtain rfl : xk = (x : Int) := by
              have h := exk.out
              rw [intsN_get ek] at h
              exact (Option.some.inj h).symm
            obtain ⟨rb, ro, yk, rfl, _, cxk, eyk, _⟩ := rr.at (k := x) (by rw [lrow.out]; exact hxs)
            have gk : row.getD x 0 = yk := getD_some eyk.out
            clear exk eyk
            by_cases hjl : j < l.length
            · have q3 : (j : Int) < (l.length : Int) := by omega
              have ej : l[j]? = some l[j] := List.getElem?_eq_getElem hjl
              have hjs := hsub.out _ (List.getElem_mem hjl)
              have HA : Hid (aheadL (ltC (cfR row)) (l.take (j + 1)) x = aheadL (ltC (cfR row)) (l.take j) x + if strB (ltC (cfR row)) l[j] x = true then 1 else 0) := by
                have h : l.take (j + 1) = l.take j ++ [l[j]] := by rw [List.take_add_one, ej]; rfl
                have h2 := aheadL_snoc (ltC (cfR row)) (l.take j) x l[j]
                rw [← h] at h2
                exact h2
              have HB := rise_lt hsrt.out ej ek
              generalize l[j] = y at *
              obtain ⟨lb2, lo2, xj, hq, _, cj, exj, _⟩ := rl.at (k := j) (by rw [intsN_len]; exact hjl)
              obtain ⟨rfl, rfl⟩ : lb = lb2 ∧ lo = lo2 := by simpa using hq
              obtain rfl : xj = (y : Int) := by
                have h := exj.out
                rw [intsN_get ej] at h
                exact (Option.some.inj h).symm
              obtain ⟨rb2, ro2, yj, hq2, _, cxj, eyj, _⟩ := rr.at (k := y) (by rw [lrow.out]; exact hjs)
              obtain ⟨rfl, rfl⟩ : rb = rb2 ∧ ro = ro2 := by simpa using hq2
              have gj : row.getD y 0 = yj := getD_some eyj.out
              have HA2 : Hid (aheadL (ltC (cfR row)) (l.take (j + 1)) x = aheadL (ltC (cfR row)) (l.take j) x + if (decide (yj < yk) || (decide (yj = yk) && decide (j < k))) = true then 1 else 0) := by
                have h := HA.out
                rw [strB_cfR, gj, gk, HB] at h
                exact h
              have qx : (x : Int) < (row.length : Int) := by rw [lrow.out]; omega
              have qy : (y : Int) < (row.length : Int) := by rw [lrow.out]; omega
              clear HA HB ej exj eyj hq hq2 gj gk rl rr
              generalize aheadL (ltC (cfR row)) (l.take j) x = ah at *
              by_cases t1 : yj < yk
              · have d1 : decide (yj < yk) = true := decide_eq_true t1
                have HA3 : Hid (aheadL (ltC (cfR row)) (l.take (j + 1)) x = ah + 1) := by
                  have h := HA2.out
                  rw [d1, Bool.true_or, if_pos rfl] at h
                  exact h
                clear HA2
                go_wp2_with (fail)
                go_quiet (fail)
                go_wp2_with (fail)
                go_roundw
                case rel => exact ⟨j + 1, by go_num, by rw [HA3.out]; go_num, by omega, YI.out.drewN _⟩
                case measure => simp [intOf]; omega
              · have d1 : decide (yj < yk) = false := decide_eq_false t1
                by_cases t2 : yj = yk
                · have d2 : (yj == yk) = true := by rw [beq_iff_eq]; exact t2
                  have d2' : decide (yj = yk) = true := decide_eq_true t2
                  replace t2 := Lib.hid t2
                  by_cases t3 : j < k
                  · have d3 : decide (j < k) = true := decide_eq_true t3
                    have HA3 : Hid (aheadL (ltC (cfR row)) (l.take (j + 1)) x = ah + 1) := by
                      have h := HA2.out
                      rw [d1, d2', d3] at h
                      exact h
                    clear HA2 d2'
                    go_wp2_with (fail)
                    go_quiet (fail)
                    go_wp2_with (fail)
                    go_roundw
                    case rel => exact ⟨j + 1, by go_num, by rw [HA3.out]; go_num, by omega, YI.out.drewN _⟩
                    case measure => simp [intOf]; omega
                  · have d3 : decide (j < k) = false := decide_eq_false t3
                    have HA3 : Hid (aheadL (ltC (cfR row)) (l.take (j + 1)) x = ah) := by
                      have h := HA2.out
                      rw [d1, d2', d3] at h
                      exact h
                    clear HA2 d2'
                    go_wp2_with (fail)
                    go_quiet (fail)
                    go_wp2_with (fail)
                    go_roundw
                    case rel => exact ⟨j + 1, by go_num, by rw [HA3.out], by omega, YI.out.drewN _⟩
                    case measure => simp [intOf]; omega
                · have d2 : (yj == yk) = false := by rw [beq_eq_false_iff_ne]; exact t2
                  have d2' : decide (yj = yk) = false := decide_eq_false t2
                  have HA3 : Hid (aheadL (ltC (cfR row)) (l.take (j + 1)) x = ah) := by
                    have h := HA2.out
                    rw [d1, d2'] at h
                    exact h
                  clear HA2 d2'
                  go_wp2_with (fail)
                  go_quiet (fail)
                  go_wp2_with (fail)
                  go_roundw
                  case rel => exact ⟨j + 1, by go_num, by rw [HA3.out], by omega, YI.out.drewN _⟩
                  case measure => simp [intOf]; omega
            · obtain rfl : j = l.length := by omega
              have q3 : ¬ (l.length : Int) < (l.length : Int) := by omega
              have e0 : l.take l.length = l := List.take_length
              rw [e0]
              have hal : aheadL (ltC (cfR row)) l x < l.length := by
                have W := cfR_weak row
                obtain ⟨k', hk', e'⟩ := List.mem_iff_getElem.1 ((sortP_is W hsrt.out).mem.2 hkm)
                rw [aheadL_at W hsrt.out (by rw [List.getElem?_eq_getElem hk', e'])]
                rwa [sortP_len] at hk'
              clear e0 hale gk
              generalize aheadL (ltC (cfR row)) l x = ah at *
              obtain ⟨v9, c9, f9, _, _, s9⟩ := OwI.cell (OwI.ext O.out YI.out) (k := ah) (by rw [placeK_len]; exact hal)
              have q4 : (ah : Int) < (l.length : Int) := by omega
              have NX : Hid (∀ W2, Ext wi W2 → OwI (W2.setCell ⟨w1.heap.size, ah, none⟩ (.int .i64 x)) w1.heap.size (some ⟨w1.heap.size, 0, none⟩) l.length (placeK (aheadL (ltC (cfR row)) l) l (k + 1)) ∧ Ext w1 (W2.setCell ⟨w1.heap.size, ah, none⟩ (.int .i64 x))) := by
                intro W2 x2
                rw [HPK.out]
                obtain ⟨_, _, _, _, _, s8⟩ := OwI.cell (OwI.ext (OwI.ext O.out YI.out) x2) (k := ah) (by rw [placeK_len]; exact hal)
                exact ⟨s8.out _, ((Y.out.tr YI.out).tr x2).setNew (p := ⟨w1.heap.size, ah, none⟩) (Nat.le_refl _) _⟩
              clear s9 HPK rl rr
              go_wp2_with (first | go_quiet (fail) | go_region)
              go_roundw
              case rel => exact ⟨k + 1, by go_num, by omega, NX.out _ (by (repeat (first | assumption | exact Ext.rf _ | apply Ext.drew | apply Ext.drewN | apply Ext.alloc)))⟩
              case measure => simp [intOf]; omega
        · obtain rfl : k = l.length := by omega
          have q2 : ¬ (l.length : Int) < (l.length : Int) := by omega
          have FIN : Hid (OwnPost (intsN (sortP (ltC (cfR row)) l)) 0 w (.returned (.tuple #[.slice (some ⟨w1.heap.size, 0, none⟩) l.length l.length, .int .i64 0])) wo) := by
            refine ⟨some ⟨w1.heap.size, 0, none⟩, l.length, by rw [intsN_len, sortP_len], ?_, X1.out.tr HS.out.2⟩
            have h := HS.out.1
            rw [place_sort (cfR_weak row) hsrt.out] at h
            exact OwI.more h z1
          clear HS
          go_wp2_with (fail)
          go_ret2
          exact FIN.out
end Go.Proofs.YtpngflmngnjjoaaDoor
