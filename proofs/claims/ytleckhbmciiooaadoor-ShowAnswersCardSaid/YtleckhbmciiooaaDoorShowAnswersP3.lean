/-
  value.Value of all problems and lists; kurganref08.Of.
  What an answer says, in words: the plain part.
  The document's Write of a number (kurganref03), digit by digit.
  kurganref34.Answer: an answer in words.
  kurganref34.Answer at an assignment.
  kurganref34.Answer at a tour.
  kurganref34.Answer of all problems and lists.
  The library function lies in this program: its bodies, its types, number by number.
  Numbers as digits: strconv.Itoa, digit.Write.
  show.Answer, under a contract for show.words.
  How long the words of an answer may be.
  The library function lies in this program: its bodies, its types, number by number.
  show.words at a tour. (Begun.)
  show.words at a knapsack. (Begun.)
  show.words at an assignment. (Begun.)
  show.Answer of all problems and lists; the law's own example.
  The law's own example of an answer in words.
  From the condition that the tables of the lowest bits and of the powers of ten are as they were laid to the tables' cells.
-/
import Derived.Test.YtleckhbmciiooaaDoorShowAnswersP2
import Derived.Lib.ItoaNum
import Derived.Lib.Join
import Derived.Laws.BytesArg
import Derived.Lib.ItoaLen
import Derived.Shelf.LaysM
import Derived.Shelf.Strconv.Itoa3
import Derived.Lib.AppendIntMem
import Derived.Shelf.Lays
import Derived.Shelf.Strings.OnBuilder
import Derived.LaidMore
import Derived.Lay
import Derived.SevenTiedAt
import Derived.Stop.Joined
import Derived.Stop.LaidErr
import Derived.Lib.LaidTab
import Derived.Test.YtleckhbmciiooaaDoorRows
namespace Go.Proofs.YtleckhbmciiooaaDoor
open Go.RowKit Go.ChangeShapes Go.WideShapes Go.ChangeAt Go.Deep

theorem sum31 : ∀ {l : List Int}, Small31 l → 0 ≤ sumL l ∧ sumL l ≤ (l.length : Int) * 2147483647
  | [], _ => by simp [sumL]
  | x :: l, h => by
    have ih := sum31 (l := l) fun y hy => h y (by simp [hy])
    have h1 := h x (by simp)
    simp only [sumL, List.length_cons]
    omega
theorem sum31_take {l : List Int} (h : Small31 l) (k : Nat) : 0 ≤ sumL (l.take k) ∧ sumL (l.take k) ≤ (l.length : Int) * 2147483647 := by
  have h1 := sum31 (l := l.take k) fun y hy => h y (List.mem_of_mem_take hy)
  rw [List.length_take] at h1
  omega
theorem sumL_take_succ {l : List Int} {k : Nat} {x : Int} (h : l[k]? = some x) : sumL (l.take (k + 1)) = sumL (l.take k) + x := by
  rw [List.take_add_one, h, sumL_append]
  simp [sumL]
theorem leftL_in : ∀ (x vs : List Int), Small31 vs → 0 ≤ leftL x vs ∧ leftL x vs ≤ (vs.length : Int) * 2147483647
  | [], vs, _ => by
    simp only [leftL, List.zipWith_nil_left, sumL]
    omega
  | _ :: _, [], _ => by simp [leftL, sumL]
  | a :: x, v :: vs, h => by
    have ih := leftL_in x vs fun y hy => h y (by simp [hy])
    have h1 := h v (by simp)
    simp only [leftL, List.zipWith_cons_cons, sumL, List.length_cons] at *
    split <;> omega
/-- what a cost is worth -/
def ofG (i : InstP) (c : Int) : Int := if i.kind = 1 then sumL i.value - c else c
def valG (i : InstP) (x : List Int) : Int × Int := if (costG i x).2 = 0 then (ofG i (costG i x).1, 0) else (0, (costG i x).2)
set_option maxRecDepth 100000 in
theorem vtotal_any (A : Option Addr) (c : Nat) (xs : List Int) (w : World) (hA : RdI w A xs) (hs : Small31 xs) (hl : xs.length ≤ 1000) :
    Calls Tryd.prog 102 #[.slice A xs.length c] w fun e w' => e = .returned (.int .i64 (sumL xs)) ∧ Ext w w' := by
  have T1 : Hid (∀ k v, xs[k]? = some v → sumL (xs.take (k + 1)) = sumL (xs.take k) + v) := fun k v h => sumL_take_succ h
  have TB := Lib.hid (sum31_take hs)
  replace hA := Lib.hid hA
  replace hs := Lib.hid hs
  go_enter Tryd.func102, Tryd.ntmps102
  go_wp2_with (fail)
  go_loopw [3, 8] (fun a i wr => ∃ k : Nat, i = .int .i64 k ∧ a = .int .i64 (sumL (xs.take k)) ∧ k ≤ xs.length ∧ Hid (Ext w wr)) (fun _ i _ => xs.length - (intOf i).toNat)
  case atStart => exact ⟨0, rfl, rfl, by omega, Ext.rf _⟩
  case round =>
    obtain ⟨wo, rfl⟩ : ∃ wo : World, wo = wr := ⟨_, rfl⟩
    obtain ⟨k, rfl, rfl, hk, X⟩ := hrel
    by_cases hlt : k < xs.length
    · obtain ⟨pb, po, y, rfl, zy, cy, ey, _⟩ := (hA.out.ext X.out).at (k := k) hlt
      have S := Lib.hid (T1.out k y ey.out)
      have b1 := TB.out k
      have b2 := hs.out.get ey.out
      generalize sumL (xs.take k) = tk at *
      have w1 : IntKind.i64.wrap (tk + y) = tk + y := IntWalk.i64_in _ (by omega)
      have q1 : (k : Int) < (xs.length : Int) := by omega
      clear ey b1 b2
      go_wp2_with (fail)
      go_roundw
      case rel => exact ⟨k + 1, by go_num, by rw [S.out], by omega, X.out.tr (by (repeat (first | assumption | exact Ext.rf _ | apply Ext.drew | apply Ext.drewN | apply Ext.alloc)))⟩
      case measure => simp [intOf]; omega
    · obtain rfl : k = xs.length := by omega
      rw [List.take_length]
      go_wp2_with (fail)
      go_ret
      exact ⟨rfl, X.out.tr (by (repeat (first | assumption | exact Ext.rf _ | apply Ext.drew | apply Ext.drewN | apply Ext.alloc)))⟩
set_option maxRecDepth 100000 in
theorem vof_any (i : InstP) (us : List Value) (w : World) (c : Int) (H : RInst w us i) (hc : checkP i = 0) (hb : i.kind = 1 → 0 ≤ c ∧ c ≤ (i.value.length : Int) * 2147483647) :
    Calls Tryd.prog 76 #[.agg (List.toArray us), .int .i64 c] w fun e w' => e = .returned (.int .i64 (ofG i c)) ∧ Ext w w' := by
  by_cases hk : i.kind = 1
  · have ok := knap_ok hc hk
    have k1 := ok.v
    have k2 := ok.n2
    have TT : ∀ (A : Option Addr) (d : Nat) (W : World), RdI W A i.value → Calls Tryd.prog 102 #[.slice A i.value.length d] W fun e w' => e = .returned (.int .i64 (sumL i.value)) ∧ Ext W w' := fun A d W h => vtotal_any A d i.value W h ok.sv (by omega)
    have b1 := sum31 ok.sv
    have b2 := hb hk
    unfold ofG
    rw [if_pos hk]
    clear ok hc hb
    obtain ⟨kind, nn, cap, xw, xv, co⟩ := i
    obtain ⟨A, a, B, b, D, d, rfl, -, ⟨rB, -⟩, -⟩ := H
    simp only at *
    subst hk
    generalize sumL xv = sv at *
    have w1 : IntKind.i64.wrap (sv - c) = sv - c := IntWalk.i64_in _ (by omega)
    replace TT := Lib.hid TT
    replace rB := Lib.hid rB
    clear b1 b2 k1
    go_enter Tryd.func76, Tryd.ntmps76
    go_wp2_with (fail)
    refine (TT.out _ _ _ (rB.out.ext (by (repeat (first | assumption | exact Ext.rf _ | apply Ext.drew | apply Ext.drewN | apply Ext.alloc))))).mono ?_
    rintro e w1 ⟨rfl, x1⟩
    have X1 := Lib.hid (Ext.tr (a := w) (by (repeat (first | assumption | exact Ext.rf _ | apply Ext.drew | apply Ext.drewN | apply Ext.alloc))) x1)
    clear x1
    go_wp2_with (fail)
    go_ret
    exact ⟨rfl, X1.out⟩
  · unfold ofG
    rw [if_neg hk]
    obtain ⟨kind, nn, cap, xw, xv, co⟩ := i
    obtain ⟨A, a, B, b, D, d, rfl, -, -, -⟩ := H
    simp only at *
    have e1 : (kind == 1) = false := by simpa using hk
    clear hc hb hk
    go_enter Tryd.func76, Tryd.ntmps76
    go_wp2_with (fail)
    go_ret
    exact ⟨rfl, by (repeat (first | assumption | exact Ext.rf _ | apply Ext.drew | apply Ext.drewN | apply Ext.alloc))⟩
theorem costG_bd {i : InstP} {x : List Int} (hk : i.kind = 1) (h : (costG i x).2 = 0) : checkP i = 0 ∧ 0 ≤ (costG i x).1 ∧ (costG i x).1 ≤ (i.value.length : Int) * 2147483647 := by
  unfold costG at *
  by_cases hc : checkP i = 0
  · rw [if_neg (by simpa using hc), if_pos hk] at *
    have ok := knap_ok hc hk
    refine ⟨hc, ?_⟩
    split
    · unfold costP
      split
      · exact ⟨Int.le_refl _, by simp only; omega⟩
      · exact leftL_in _ _ ok.sv
    · exact ⟨Int.le_refl _, by simp only; omega⟩
  · rw [if_pos hc] at h
    exact absurd h hc
theorem costG_chk {i : InstP} {x : List Int} (h : (costG i x).2 = 0) : checkP i = 0 := by
  unfold costG at h
  refine Classical.byContradiction fun hc => ?_
  rw [if_pos hc] at h
  exact hc h
set_option maxRecDepth 100000 in
theorem vvalue_any (i : InstP) (us : List Value) (P : Option Addr) (c : Nat) (x : List Int) (w : World) (H : RInst w us i) (hP : RdI w P x) (hx : x.length ≤ 1000) (hlw : i.weight.length ≤ maxLen) (hlv : i.value.length ≤ maxLen) (hls : i.weight.length + i.value.length ≤ maxLen) :
    Calls Tryd.prog 44 #[.agg (List.toArray us), .slice P x.length c] w fun e w' => e = .returned (.tuple #[.int .i64 (valG i x).1, .int .i64 (valG i x).2]) ∧ Ext w w' := by
  have VC := fun (W : World) (y : Ext w W) => vcost_gen i us P c x W (H.ext y) (hP.ext y) hx hlw hlv hls
  unfold valG
  by_cases h0 : (costG i x).2 = 0
  · have VO := fun (W : World) (y : Ext w W) => vof_any i us W (costG i x).1 (H.ext y) (costG_chk h0) (fun hk => (costG_bd hk h0).2)
    rw [if_pos h0]
    rw [h0] at VC
    clear h0 hP hx hlw hlv hls
    generalize ofG i (costG i x).1 = r at *
    generalize (costG i x).1 = cc at *
    obtain ⟨kind, nn, cap, xw, xv, co⟩ := i
    obtain ⟨A, a, B, b, D, d, rfl, -, -, -⟩ := H
    simp only at *
    have B1 : Hid (Blk (w.alloc (.cells #[.int .i64 kind, .int .i64 nn, .int .i64 cap, .slice A xw.length a, .slice B xv.length b, .slice D co.length d] 25)) w.heap.size 25 #[.int .i64 kind, .int .i64 nn, .int .i64 cap, .slice A xw.length a, .slice B xv.length b, .slice D co.length d]) := .new rfl
    replace VC := Lib.hid VC
    replace VO := Lib.hid VO
    go_enter Tryd.func44, Tryd.ntmps44
    go_wp2_with (fail)
    refine (VC.out _ (by (repeat (first | assumption | exact Ext.rf _ | apply Ext.drew | apply Ext.drewN | apply Ext.alloc)))).mono ?_
    rintro e w1 ⟨rfl, x1⟩
    have X1 := Lib.hid (Ext.tr (a := w) (by (repeat (first | assumption | exact Ext.rf _ | apply Ext.drew | apply Ext.drewN | apply Ext.alloc))) x1)
    have b1 := B1.out.ext x1
    have t0 : w1.cell? ⟨w.heap.size, 0, none⟩ = some (.int .i64 kind) := b1.cell 0
    have t1 : w1.cell? ⟨w.heap.size, 1, none⟩ = some (.int .i64 nn) := b1.cell 1
    have t2 : w1.cell? ⟨w.heap.size, 2, none⟩ = some (.int .i64 cap) := b1.cell 2
    have t3 : w1.cell? ⟨w.heap.size, 3, none⟩ = some (.slice A xw.length a) := b1.cell 3
    have t4 : w1.cell? ⟨w.heap.size, 4, none⟩ = some (.slice B xv.length b) := b1.cell 4
    have t5 : w1.cell? ⟨w.heap.size, 5, none⟩ = some (.slice D co.length d) := b1.cell 5
    clear x1 B1 b1
    go_wp2_with (fail)
    refine (VO.out _ (X1.out.tr (by (repeat (first | assumption | exact Ext.rf _ | apply Ext.drew | apply Ext.drewN | apply Ext.alloc))))).mono ?_
    rintro e w2 ⟨rfl, x2⟩
    have X2 := Lib.hid (X1.out.tr (Ext.tr (by (repeat (first | assumption | exact Ext.rf _ | apply Ext.drew | apply Ext.drewN | apply Ext.alloc))) x2))
    clear x2 t0 t1 t2 t3 t4 t5
    go_wp2_with (fail)
    go_ret2
    exact ⟨rfl, X2.out⟩
  · rw [if_neg h0]
    generalize (costG i x).2 = ee at *
    generalize (costG i x).1 = cc at *
    have e1 : (ee != 0) = true := by simpa using h0
    clear h0 hP hx hlw hlv hls
    obtain ⟨kind, nn, cap, xw, xv, co⟩ := i
    obtain ⟨A, a, B, b, D, d, rfl, -, -, -⟩ := H
    simp only at *
    replace VC := Lib.hid VC
    go_enter Tryd.func44, Tryd.ntmps44
    go_wp2_with (fail)
    refine (VC.out _ (by (repeat (first | assumption | exact Ext.rf _ | apply Ext.drew | apply Ext.drewN | apply Ext.alloc)))).mono ?_
    rintro e w1 ⟨rfl, x1⟩
    have X1 := Lib.hid (Ext.tr (a := w) (by (repeat (first | assumption | exact Ext.rf _ | apply Ext.drew | apply Ext.drewN | apply Ext.alloc))) x1)
    clear x1
    go_wp2_with (fail)
    go_ret2
    exact ⟨rfl, X1.out⟩
/-! The document's. -/
set_option maxRecDepth 100000 in
set_option maxHeartbeats 1000000 in
theorem rtotal_any (i : InstP) (us : List Value) (w : World) (H : RInst w us i) (hc : checkP i = 0) (hk : i.kind = 1) :
    Calls Tryd.prog 78 #[.agg (List.toArray us)] w fun e w' => e = .returned (.int .i64 (sumL i.value)) ∧ Ext w w' := by
  have ok := knap_ok hc hk
  have CH := fun (W : World) (x : Ext w W) => rcheck_any i us W (H.ext x)
  rw [hc] at CH
  have k2 := ok.n2
  have k3 := ok.v
  have k1 := ok.n1
  have T1 : Hid (∀ k v, i.value[k]? = some v → sumL (i.value.take (k + 1)) = sumL (i.value.take k) + v) := fun k v h => sumL_take_succ h
  have TB := Lib.hid (sum31_take ok.sv)
  have hs := Lib.hid ok.sv
  clear ok hc
  obtain ⟨kind, nn, cap, xw, xv, co⟩ := i
  obtain ⟨A, a, B, b, D, d, rfl, -, ⟨rB, -⟩, -⟩ := H
  simp only at *
  subst hk
  obtain ⟨n, rfl⟩ : ∃ n : Nat, nn = (n : Int) := ⟨nn.toNat, by omega⟩
  have lv : xv.length = n := by omega
  have B1 : Hid (Blk (w.alloc (.cells #[.int .i64 1, .int .i64 n, .int .i64 cap, .slice A xw.length a, .slice B xv.length b, .slice D co.length d] 25)) w.heap.size 25 #[.int .i64 1, .int .i64 n, .int .i64 cap, .slice A xw.length a, .slice B xv.length b, .slice D co.length d]) := .new rfl
  have hn2 : n ≤ 64 := by omega
  replace lv := Lib.hid lv
  replace CH := Lib.hid CH
  replace rB := Lib.hid rB
  clear k3 k1 k2
  go_enter Tryd.func78, Tryd.ntmps78
  go_wp2_with (fail)
  refine (CH.out _ (by (repeat (first | assumption | exact Ext.rf _ | apply Ext.drew | apply Ext.drewN | apply Ext.alloc)))).mono ?_
  rintro e w1 ⟨rfl, x1⟩
  have X1 := Lib.hid (Ext.tr (a := w) (by (repeat (first | assumption | exact Ext.rf _ | apply Ext.drew | apply Ext.drewN | apply Ext.alloc))) x1)
  have BB := Lib.hid (B1.out.ext x1)
  clear x1 B1
  go_wp2_with (fail)
  go_loopw [3, 4] (fun a i wr => ∃ k : Nat, i = .int .i64 k ∧ a = .int .i64 (sumL (xv.take k)) ∧ k ≤ n ∧ Hid (Ext w1 wr)) (fun _ i _ => n - (intOf i).toNat)
  case atStart => exact ⟨0, rfl, rfl, by omega, Ext.rf _⟩
  case round =>
    obtain ⟨wo, rfl⟩ : ∃ wo : World, wo = wr := ⟨_, rfl⟩
    obtain ⟨k, rfl, rfl, hk, Y⟩ := hrel
    have b9 := BB.out.ext Y.out
    have d0 : wo.cell? ⟨w.heap.size, 0, none⟩ = some (.int .i64 1) := b9.cell 0
    have d1 : wo.cell? ⟨w.heap.size, 1, none⟩ = some (.int .i64 n) := b9.cell 1
    have d4 : wo.cell? ⟨w.heap.size, 4, none⟩ = some (.slice B xv.length b) := b9.cell 4
    clear b9
    by_cases hlt : k < n
    · obtain ⟨pb, po, y, rfl, zy, cy, ey, _⟩ := (rB.out.ext (X1.out.tr Y.out)).at (k := k) (by rw [lv.out]; exact hlt)
      have S := Lib.hid (T1.out k y ey.out)
      have b1 := TB.out k
      have b2 := hs.out.get ey.out
      have q2 : (k : Int) < (xv.length : Int) := by rw [lv.out]; omega
      have b3 : (xv.length : Int) ≤ 64 := by rw [lv.out]; omega
      generalize sumL (xv.take k) = tk at *
      have w1' : IntKind.i64.wrap (tk + y) = tk + y := IntWalk.i64_in _ (by omega)
      have q1 : (k : Int) < (n : Int) := by omega
      clear ey b1 b2 b3
      go_wp2_with (go_quiet (fail))
      go_roundw
      case rel => exact ⟨k + 1, by go_num, by rw [S.out], by omega, by have Y' := Y.out; repeat (first | exact Y' | apply Ext.drewN)⟩
      case measure => simp [intOf]; omega
    · obtain rfl : k = n := by omega
      have lz : xv.take k = xv := List.take_of_length_le (by rw [lv.out]; omega)
      rw [lz]
      clear lz
      go_wp2_with (fail)
      go_ret
      exact ⟨rfl, X1.out.tr Y.out⟩
set_option maxRecDepth 100000 in
theorem rof_any (i : InstP) (us : List Value) (w : World) (c : Int) (H : RInst w us i) (hc : checkP i = 0) (hb : i.kind = 1 → 0 ≤ c ∧ c ≤ (i.value.length : Int) * 2147483647) :
    Calls Tryd.prog 48 #[.agg (List.toArray us), .int .i64 c] w fun e w' => e = .returned (.int .i64 (ofG i c)) ∧ Ext w w' := by
  by_cases hk : i.kind = 1
  · have ok := knap_ok hc hk
    have k1 := ok.v
    have k2 := ok.n2
    have TT : ∀ (W : World), Ext w W → Calls Tryd.prog 78 #[.agg (List.toArray us)] W fun e w' => e = .returned (.int .i64 (sumL i.value)) ∧ Ext W w' := fun W h => rtotal_any i us W (H.ext h) hc hk
    have b1 := sum31 ok.sv
    have b2 := hb hk
    unfold ofG
    rw [if_pos hk]
    clear ok hc hb
    obtain ⟨kind, nn, cap, xw, xv, co⟩ := i
    obtain ⟨A, a, B, b, D, d, rfl, -, -, -⟩ := H
    simp only at *
    subst hk
    generalize sumL xv = sv at *
    have w1 : IntKind.i64.wrap (sv - c) = sv - c := IntWalk.i64_in _ (by omega)
    replace TT := Lib.hid TT
    clear b1 b2 k1
    go_enter Tryd.func48, Tryd.ntmps48
    go_wp2_with (fail)
    refine (TT.out _ (by (repeat (first | assumption | exact Ext.rf _ | apply Ext.drew | apply Ext.drewN | apply Ext.alloc)))).mono ?_
    rintro e w1 ⟨rfl, x1⟩
    have X1 := Lib.hid (Ext.tr (a := w) (by (repeat (first | assumption | exact Ext.rf _ | apply Ext.drew | apply Ext.drewN | apply Ext.alloc))) x1)
    clear x1
    go_wp2_with (fail)
    go_ret
    exact ⟨rfl, X1.out⟩
  · unfold ofG
    rw [if_neg hk]
    obtain ⟨kind, nn, cap, xw, xv, co⟩ := i
    obtain ⟨A, a, B, b, D, d, rfl, -, -, -⟩ := H
    simp only at *
    have e1 : (kind == 1) = false := by simpa using hk
    clear hc hb hk
    go_enter Tryd.func48, Tryd.ntmps48
    go_wp2_with (fail)
    go_ret
    exact ⟨rfl, by (repeat (first | assumption | exact Ext.rf _ | apply Ext.drew | apply Ext.drewN | apply Ext.alloc))⟩
end Go.Proofs.YtleckhbmciiooaaDoor
namespace Go.Proofs.YtleckhbmciiooaaDoor
open Go.RowKit Go.ChangeShapes Go.WideShapes Go.ChangeAt Go.Deep

abbrev Txt := List UInt8
def txS (l : Txt) : Value := .string ⟨l.toArray⟩
def tTake : Txt := [116, 97, 107, 101]
def tTo : Txt := [32, 116, 111, 32]
def tSemi : Txt := [59, 32]
def tWay : Txt := [32, 62, 32]
def tAt : Txt := [58, 32]
/-- the pieces of the words -/
def piecesK (x : List Int) (k : Nat) : List Txt := ((List.range k).filter fun j => x.getD j 0 == 1).map fun j : Nat => Lib.itoa (j : Int)
def piecesA (x : List Int) (k : Nat) : List Txt := (List.range k).map fun j : Nat => Lib.itoa (j : Int) ++ tTo ++ Lib.itoa (x.getD j 0)
def piecesT (x : List Int) (k : Nat) : List Txt := (List.range k).map fun j : Nat => Lib.itoa (x.getD j 0)
/-- the words as the program joins them -/
def wordsP (kind : Int) (x : List Int) : Txt :=
  if kind = 1 then Lib.join (tTake :: piecesK x x.length) [32]
  else if kind = 2 then Lib.join (piecesA x x.length) tSemi
  else Lib.join (piecesT x x.length ++ [[48]]) tWay
/-- the words as the document writes them, after k rounds -/
def wordsR (kind : Int) (x : List Int) : Nat → Txt
  | 0 => if kind = 1 then tTake else []
  | k + 1 => if kind = 1 then (if x.getD k 0 = 1 then wordsR kind x k ++ [32] ++ Lib.itoa (k : Int) else wordsR kind x k)
    else if kind = 2 then (if 0 < k then wordsR kind x k ++ tSemi else wordsR kind x k) ++ Lib.itoa (k : Int) ++ tTo ++ Lib.itoa (x.getD k 0)
    else wordsR kind x k ++ Lib.itoa (x.getD k 0) ++ tWay
def wordsE (kind : Int) (x : List Int) : Txt := if kind = 3 then wordsR kind x x.length ++ [48] else wordsR kind x x.length
theorem join_cons2 (a b : Txt) (l : List Txt) (s : Txt) : Lib.join (a :: b :: l) s = a ++ s ++ Lib.join (b :: l) s := by
  unfold Lib.join
  rw [List.intercalate_cons_cons]
theorem join_snoc : ∀ (l : List Txt) (a s : Txt), l ≠ [] → Lib.join (l ++ [a]) s = Lib.join l s ++ s ++ a
  | [], _, _, h => absurd rfl h
  | [b], a, s, _ => by
    rw [List.cons_append, List.nil_append, join_cons2]
    rw [Lib.join_one, Lib.join_one]
  | b :: c :: l, a, s, _ => by
    have ih := join_snoc (c :: l) a s (by simp)
    rw [List.cons_append, List.cons_append, join_cons2, join_cons2, ← List.cons_append, ih]
    simp only [List.append_assoc]
theorem piecesK_succ (x : List Int) (k : Nat) : piecesK x (k + 1) = if x.getD k 0 = 1 then piecesK x k ++ [Lib.itoa (k : Int)] else piecesK x k := by
  unfold piecesK
  rw [List.range_succ, List.filter_append, List.map_append]
  by_cases h : x.getD k 0 = 1
  · have h' : (x.getD k 0 == 1) = true := by rw [beq_iff_eq]; exact h
    rw [if_pos h, List.filter_cons_of_pos (by exact h')]
    rfl
  · have h' : ¬ (x.getD k 0 == 1) = true := by rw [beq_iff_eq]; exact h
    rw [if_neg h, List.filter_cons_of_neg (by exact h')]
    simp
theorem piecesA_succ (x : List Int) (k : Nat) : piecesA x (k + 1) = piecesA x k ++ [Lib.itoa (k : Int) ++ tTo ++ Lib.itoa (x.getD k 0)] := by
  unfold piecesA
  rw [List.range_succ, List.map_append]
  rfl
theorem piecesT_succ (x : List Int) (k : Nat) : piecesT x (k + 1) = piecesT x k ++ [Lib.itoa (x.getD k 0)] := by
  unfold piecesT
  rw [List.range_succ, List.map_append]
  rfl
theorem words1 (x : List Int) : ∀ k, wordsR 1 x k = Lib.join (tTake :: piecesK x k) [32]
  | 0 => by
    simp only [wordsR, piecesK, List.range_zero, List.filter_nil, List.map_nil, if_true, Lib.join_one]
  | k + 1 => by
    have ih := words1 x k
    rw [piecesK_succ]
    simp only [wordsR, if_true]
    split
    · rw [← List.cons_append, join_snoc _ _ _ (by simp), ← ih]
    · exact ih
theorem words2 (x : List Int) : ∀ k, wordsR 2 x k = Lib.join (piecesA x k) tSemi
  | 0 => by
    simp [wordsR, piecesA, Lib.join]
  | k + 1 => by
    have ih := words2 x k
    rw [piecesA_succ]
    simp only [wordsR, show ¬ (2 : Int) = 1 by decide, if_false, if_true]
    by_cases hk : 0 < k
    · rw [if_pos hk, join_snoc _ _ _ (by
        intro h
        have := congrArg List.length h
        simp [piecesA] at this
        omega), ← ih]
      simp only [List.append_assoc]
    · obtain rfl : k = 0 := by omega
      rw [if_neg (by omega)]
      simp [wordsR, piecesA, Lib.join_one]
theorem words3 (x : List Int) : ∀ k, wordsR 3 x k ++ [48] = Lib.join (piecesT x k ++ [[48]]) tWay
  | 0 => by
    simp only [wordsR, piecesT, List.range_zero, List.map_nil, List.nil_append, Lib.join_one, show ¬ (3 : Int) = 1 by decide, if_false]
  | k + 1 => by
    have ih := words3 x k
    rw [piecesT_succ, join_snoc _ _ _ (by simp)]
    simp only [wordsR, show ¬ (3 : Int) = 1 by decide, show ¬ (3 : Int) = 2 by decide, if_false]
    have e : ∀ (l : List Txt) (a : Txt), Lib.join (l ++ [a]) tWay = (if l = [] then [] else Lib.join l tWay ++ tWay) ++ a := fun l a => by
      by_cases h : l = []
      · subst h
        simp [Lib.join_one]
      · rw [if_neg h, join_snoc _ _ _ h]
    rw [e] at ih
    have ih2 := List.append_cancel_right ih
    rw [e, ih2]
/-- both ways of writing the words are the same -/
theorem words_eq {kind : Int} (hk : kind = 1 ∨ kind = 2 ∨ kind = 3) (x : List Int) : wordsE kind x = wordsP kind x := by
  unfold wordsE wordsP
  rcases hk with rfl | rfl | rfl
  · rw [if_neg (by decide), if_pos rfl, words1]
  · rw [if_neg (by decide), if_neg (by decide), if_pos rfl, words2]
  · rw [if_pos rfl, if_neg (by decide), if_neg (by decide), words3]
end Go.Proofs.YtleckhbmciiooaaDoor
namespace Go.Proofs.YtleckhbmciiooaaDoor
open Go.RowKit Go.ChangeShapes Go.WideShapes Go.ChangeAt Go.Deep

/-- the digits of a number; of nought none -/
def dgT (u : Nat) : List UInt8 := if u = 0 then [] else Lib.decDigits u
theorem dgT_step {u : Nat} (h : u ≠ 0) : dgT u = dgT (u / 10) ++ [UInt8.ofNat (48 + u % 10)] := by
  unfold dgT
  rw [if_neg h, Lib.decDigits]
  by_cases h1 : u < 10
  · rw [dif_pos h1, if_pos (by omega), Nat.mod_eq_of_lt h1]
    rfl
  · rw [dif_neg h1, if_neg (by omega)]
set_option maxRecDepth 100000 in
set_option maxHeartbeats 2000000 in
theorem rwrite_any (n : Int) (h0 : -9223372036854775808 ≤ n) (h1 : n ≤ 9223372036854775807) (w : World) :
    Calls Tryd.prog 47 #[.int .i64 n] w fun e w' => e = .returned (.string ⟨(Lib.itoa n).toArray⟩) ∧ Ext w w' := by
  by_cases hz : n = 0
  · subst hz
    have e9 : Lib.itoa 0 = [48] := by
      unfold Lib.itoa
      rw [if_neg (by omega)]
      rw [Lib.decDigits]
      simp
    rw [e9]
    go_enter Tryd.func47, Tryd.ntmps47
    go_wp2_with (fail)
    go_ret
    exact ⟨rfl, by (repeat (first | assumption | exact Ext.rf _ | apply Ext.drew | apply Ext.drewN | apply Ext.alloc))⟩
  · have e1 : (n == 0) = false := by simpa using hz
    have INV : ∀ (i : Nat) (m : Int) (l : List UInt8), dgT m.natAbs ++ l = dgT n.natAbs → m.natAbs * 10 ^ i ≤ n.natAbs → (m = 0 → l = Lib.decDigits n.natAbs) ∧ (m ≠ 0 → i < 20) := fun i m l e1 e2 => by
      refine ⟨fun hm => ?_, fun hm => ?_⟩
      · subst hm
        have h2 : dgT (0 : Int).natAbs = [] := rfl
        rw [h2, List.nil_append] at e1
        rw [e1]
        unfold dgT
        rw [if_neg (by omega)]
      · refine Classical.byContradiction fun hi => ?_
        have h3 : 10 ^ 20 ≤ 10 ^ i := Nat.pow_le_pow_right (by omega) (by omega)
        have h4 : 1 * 10 ^ i ≤ m.natAbs * 10 ^ i := Nat.mul_le_mul_right _ (by omega)
        omega
    have HA : Hid (dgT n.natAbs ++ [] = dgT n.natAbs) := by
      have h : dgT n.natAbs ++ [] = dgT n.natAbs := List.append_nil _
      exact h
    have HL0 : Hid (([] : List UInt8).length = 0) := by
      have h : ([] : List UInt8).length = 0 := rfl
      exact h
    have HB : Hid (n.natAbs * 10 ^ 0 ≤ n.natAbs) := by
      have h : n.natAbs * 10 ^ 0 ≤ n.natAbs := by omega
      exact h
    replace INV := Lib.hid INV
    go_enter Tryd.func47, Tryd.ntmps47
    go_wp2_with (fail)
    go_loopw [3, 4, 5] (fun v3 v4 v5 wr => ∃ (l : List UInt8) (m : Int) (i : Nat), v3 = .string ⟨l.toArray⟩ ∧ v4 = .int .i64 m ∧ v5 = .int .i64 i ∧ i ≤ 20 ∧ Hid (l.length = i) ∧ Hid (dgT m.natAbs ++ l = dgT n.natAbs) ∧ Hid (m.natAbs * 10 ^ i ≤ n.natAbs) ∧ Hid (Ext w wr)) (fun _ v4 _ _ => (intOf v4).natAbs)
    case atStart => exact ⟨[], n, 0, rfl, rfl, rfl, by omega, HL0, HA.out, HB.out, by (repeat (first | assumption | exact Ext.rf _ | apply Ext.drew | apply Ext.drewN | apply Ext.alloc))⟩
    case round =>
      obtain ⟨wo, rfl⟩ : ∃ wo : World, wo = wr := ⟨_, rfl⟩
      obtain ⟨l, m, i, rfl, rfl, rfl, hi, ll, hl, hb, X⟩ := hrel
      obtain ⟨I1, I2⟩ := INV.out i m l hl.out hb.out
      have lb : ¬ 9223372036854775807 < 1 + l.length := by have := ll.out; omega
      by_cases hm : m = 0
      · subst hm
        have hl9 := Lib.hid (I1 rfl)
        clear I1 I2
        have e3 : ((0 : Int) != 0) = false := by simp
        by_cases hi9 : (i : Int) < 20
        all_goals
          by_cases hn : n < 0
          · have e9 : Hid (Lib.itoa n = 45 :: l) := by
              have h : Lib.itoa n = 45 :: l := by
                unfold Lib.itoa
                rw [if_pos hn, hl9.out]
              exact h
            go_wp2_with (fail)
            go_ret
            rw [e9.out]
            exact ⟨by first | rfl | (congr 2), X.out.tr (by (repeat (first | assumption | exact Ext.rf _ | apply Ext.drew | apply Ext.drewN | apply Ext.alloc)))⟩
          · have e9 : Hid (Lib.itoa n = l) := by
              have h : Lib.itoa n = l := by
                unfold Lib.itoa
                rw [if_neg hn, hl9.out, show n.natAbs = n.toNat by omega]
              exact h
            go_wp2_with (fail)
            go_ret
            rw [e9.out]
            exact ⟨rfl, X.out.tr (by (repeat (first | assumption | exact Ext.rf _ | apply Ext.drew | apply Ext.drewN | apply Ext.alloc)))⟩
      · have hi20 := I2 hm
        have q1 : (i : Int) < 20 := by omega
        have e2 : (m != 0) = true := by simpa using hm
        have hmb : m.natAbs ≤ n.natAbs := by
          have h3 : m.natAbs * 1 ≤ m.natAbs * 10 ^ i := Nat.mul_le_mul_left _ (Nat.pow_pos (by omega))
          have := hb.out
          omega
        have hd1 : (m.tmod 10).natAbs = m.natAbs % 10 := by rw [Int.natAbs_tmod]; rfl
        have hd2 : (m.tdiv 10).natAbs = m.natAbs / 10 := by rw [Int.natAbs_tdiv]; rfl
        obtain ⟨t, ht⟩ : ∃ t, m.tmod 10 = t := ⟨_, rfl⟩
        obtain ⟨m2, hm2⟩ : ∃ m2, m.tdiv 10 = m2 := ⟨_, rfl⟩
        rw [ht] at hd1
        rw [hm2] at hd2
        have wm : IntKind.i64.wrap m2 = m2 := IntWalk.i64_in _ (by omega)
        obtain ⟨d, hd⟩ : ∃ d, Hid (m.natAbs % 10 = d) := ⟨_, rfl⟩
        rw [hd.out] at hd1
        have d9 : d ≤ 9 := by have := hd.out; omega
        have w1 : IntKind.i64.wrap (48 + (d : Int)) = 48 + (d : Int) := IntWalk.i64_in _ (by omega)
        have NL : Hid (dgT m2.natAbs ++ (UInt8.ofNat (48 + d) :: l) = dgT n.natAbs) := by
          have h : dgT m2.natAbs ++ (UInt8.ofNat (48 + d) :: l) = dgT n.natAbs := by
            rw [← hl.out, dgT_step (u := m.natAbs) (by omega), hd2, hd.out, List.append_assoc]
            rfl
          exact h
        have NB : Hid (m2.natAbs * 10 ^ (i + 1) ≤ n.natAbs) := by
          have h : m2.natAbs * 10 ^ (i + 1) ≤ n.natAbs := by
            refine Nat.le_trans ?_ hb.out
            rw [Nat.pow_succ, hd2, Nat.mul_comm (10 ^ i) 10, ← Nat.mul_assoc]
            exact Nat.mul_le_mul_right _ (Nat.div_mul_le_self _ _)
          exact h
        have MS : Hid (m2.natAbs < m.natAbs) := by
          have h : m2.natAbs < m.natAbs := by omega
          exact h
        clear hl hb I1 I2 hmb
        have CV := run_convert_bytes_arg (P := Tryd.prog) (wo.alloc (.cells #[.int .u8 (48 + (d : Int))] 5)) 65 5 Tryd.underlying65 Tryd.underlying5 wo.heap.size 0 1 1 [48 + (d : Int)] rfl (fun i hi => by
          obtain rfl : i = 0 := by omega
          exact (show Blk (wo.alloc (.cells #[.int .u8 (48 + (d : Int))] 5)) wo.heap.size 5 #[.int .u8 (48 + (d : Int))] from .new rfl).cell 0) 9 Tryd.underlying9
        obtain ⟨s0, hs0⟩ : ∃ s0, Hid (strOfNums [48 + (d : Int)] = s0) := ⟨_, rfl⟩
        rw [hs0.out] at CV
        have ls : ¬ 9223372036854775807 < s0.size + l.length := by
          have h : s0.size = 1 := by rw [← hs0.out]; rfl
          have := ll.out
          omega
        have LL : Hid ((UInt8.ofNat (48 + d) :: l).length = i + 1) := by
          have h : (UInt8.ofNat (48 + d) :: l).length = i + 1 := by rw [List.length_cons, ll.out]
          exact h
        have ES : Hid (s0 ++ (⟨l.toArray⟩ : ByteArray) = ⟨(UInt8.ofNat (48 + d) :: l).toArray⟩) := by
          have h : s0 ++ (⟨l.toArray⟩ : ByteArray) = ⟨(UInt8.ofNat (48 + d) :: l).toArray⟩ := by
            rw [← hs0.out]
            have e1 : (48 + (d : Int)).toNat = 48 + d := by omega
            simp only [strOfNums, List.map_cons, List.map_nil, e1]
            apply ByteArray.ext
            rw [ByteArray.data_append]
            simp
          exact h
        by_cases hneg : t < 0
        · have w0 : IntKind.i64.wrap (0 - t) = (d : Int) := by rw [show 0 - t = (d : Int) by omega]; exact IntWalk.i64_in _ (by omega)
          have w0' : IntKind.i64.wrap (-t) = (d : Int) := by rw [show -t = (d : Int) by omega]; exact IntWalk.i64_in _ (by omega)
          clear hd1 hd2
          go_wp2_with (fail)
          go_roundw
          case rel => exact ⟨UInt8.ofNat (48 + d) :: l, m2, i + 1, by rw [← ES.out], rfl, by go_num, by omega, LL, NL, NB, X.out.tr (by (repeat (first | assumption | exact Ext.rf _ | apply Ext.drew | apply Ext.drewN | apply Ext.alloc)))⟩
          case measure => (have h9 := MS.out; simp only [intOf]; exact h9)
        · obtain rfl : t = (d : Int) := by omega
          clear hd1 hd2
          go_wp2_with (fail)
          go_roundw
          case rel => exact ⟨UInt8.ofNat (48 + d) :: l, m2, i + 1, by rw [← ES.out], rfl, by go_num, by omega, LL, NL, NB, X.out.tr (by (repeat (first | assumption | exact Ext.rf _ | apply Ext.drew | apply Ext.drewN | apply Ext.alloc)))⟩
          case measure => (have h9 := MS.out; simp only [intOf]; exact h9)
end Go.Proofs.YtleckhbmciiooaaDoor
namespace Go.Proofs.YtleckhbmciiooaaDoor
open Go.RowKit Go.ChangeShapes Go.WideShapes Go.ChangeAt Go.Deep

theorem itoa_le (n : Int) (h : 0 ≤ n ∧ n ≤ 9223372036854775807) : (Lib.itoa n).length ≤ 21 := Lib.itoa_length_le n (by omega) h.2
theorem bytes_app (a b : Txt) : (⟨a.toArray⟩ : ByteArray) ++ ⟨b.toArray⟩ = ⟨(a ++ b).toArray⟩ := by
  apply ByteArray.ext
  rw [ByteArray.data_append]
  simp
set_option maxRecDepth 100000 in
set_option maxHeartbeats 4000000 in
theorem rans1_any (i : InstP) (us : List Value) (P : Option Addr) (c : Nat) (x : List Int) (w : World) (cc vv : Int) (H : RInst w us i) (hk : i.kind = 1) (hn : (x.length : Int) = i.n) (hl : x.length ≤ 64) (hP : RdI w P x) (hv : -9223372036854775808 ≤ vv ∧ vv ≤ 9223372036854775807)
    (CO : ∀ W, Ext w W → Calls Tryd.prog 34 #[.agg (List.toArray us), .slice P x.length c] W fun e w' => e = .returned (.tuple #[.int .i64 cc, .int .i64 0]) ∧ Ext W w')
    (OF : ∀ W, Ext w W → Calls Tryd.prog 48 #[.agg (List.toArray us), .int .i64 cc] W fun e w' => e = .returned (.int .i64 vv) ∧ Ext W w') :
    Calls Tryd.prog 16 #[.agg (List.toArray us), .slice P x.length c] w fun e w' => e = .returned (.tuple #[txS (wordsE 1 x ++ tAt ++ Lib.itoa vv ++ [10]), .int .i64 0]) ∧ Ext w w' := by
  have WE : Hid (wordsE 1 x = wordsR 1 x x.length) := by
    have h : wordsE 1 x = wordsR 1 x x.length := by unfold wordsE; rw [if_neg (by decide)]
    exact h
  have W0 : Hid (wordsR 1 x 0 = [116, 97, 107, 101]) := by
    have h : wordsR 1 x 0 = [116, 97, 107, 101] := by simp only [wordsR, if_true, tTake]
    exact h
  have WS : Hid (∀ k, wordsR 1 x (k + 1) = if x.getD k 0 = 1 then wordsR 1 x k ++ [32] ++ Lib.itoa (k : Int) else wordsR 1 x k) := fun k => by simp only [wordsR, if_true]
  have RW := fun (n : Int) (h : -9223372036854775808 ≤ n ∧ n ≤ 9223372036854775807) (W : World) => rwrite_any n h.1 h.2 W
  have lv := Lib.itoa_length_le vv hv.1 hv.2
  have RV := fun (W : World) => RW vv hv W
  generalize hiv : Lib.itoa vv = tv at *
  obtain ⟨kind, nn, cap, xw, xv, co⟩ := i
  obtain ⟨A, a, B, b, D, d, rfl, -, -, -⟩ := H
  simp only at *
  subst hk hn
  have B1 : Hid (Blk (w.alloc (.cells #[.int .i64 1, .int .i64 x.length, .int .i64 cap, .slice A xw.length a, .slice B xv.length b, .slice D co.length d] 25)) w.heap.size 25 #[.int .i64 1, .int .i64 x.length, .int .i64 cap, .slice A xw.length a, .slice B xv.length b, .slice D co.length d]) := .new rfl
  replace CO := Lib.hid CO
  replace OF := Lib.hid OF
  replace RW := Lib.hid RW
  replace RV := Lib.hid RV
  replace hP := Lib.hid hP
  replace hiv := Lib.hid hiv
  replace hl := Lib.hid hl
  unfold txS
  clear hv
  go_enter Tryd.func16, Tryd.ntmps16
  go_wp2_with (fail)
  refine (CO.out _ (by (repeat (first | assumption | exact Ext.rf _ | apply Ext.drew | apply Ext.drewN | apply Ext.alloc)))).mono ?_
  rintro e w1 ⟨rfl, x1⟩
  have X1 := Lib.hid (Ext.tr (a := w) (by (repeat (first | assumption | exact Ext.rf _ | apply Ext.drew | apply Ext.drewN | apply Ext.alloc))) x1)
  have BB := Lib.hid (B1.out.ext x1)
  have d0 : w1.cell? ⟨w.heap.size, 0, none⟩ = some (.int .i64 1) := BB.out.cell 0
  clear x1 B1
  go_wp2_with (fail)
  go_loopw [8, 9] (fun s v wr => ∃ (k : Nat) (l : Txt), v = .int .i64 k ∧ s = .string ⟨l.toArray⟩ ∧ k ≤ x.length ∧ Hid (wordsR 1 x k = l) ∧ Hid (l.length ≤ 22 * k + 4) ∧ Hid (Ext w1 wr)) (fun _ v _ => x.length - (intOf v).toNat)
  case atStart => exact ⟨0, [116, 97, 107, 101], rfl, rfl, by omega, W0, (show ([116, 97, 107, 101] : Txt).length ≤ 22 * 0 + 4 by decide), Ext.rf _⟩
  case round =>
    clear d0
    obtain ⟨wo, rfl⟩ : ∃ wo : World, wo = wr := ⟨_, rfl⟩
    obtain ⟨k, l, rfl, rfl, hk, HW, HL, Y⟩ := hrel
    have b9 := BB.out.ext Y.out
    have t0 : wo.cell? ⟨w.heap.size, 0, none⟩ = some (.int .i64 1) := b9.cell 0
    have t1 : wo.cell? ⟨w.heap.size, 1, none⟩ = some (.int .i64 x.length) := b9.cell 1
    have t2 : wo.cell? ⟨w.heap.size, 2, none⟩ = some (.int .i64 cap) := b9.cell 2
    have t3 : wo.cell? ⟨w.heap.size, 3, none⟩ = some (.slice A xw.length a) := b9.cell 3
    have t4 : wo.cell? ⟨w.heap.size, 4, none⟩ = some (.slice B xv.length b) := b9.cell 4
    have t5 : wo.cell? ⟨w.heap.size, 5, none⟩ = some (.slice D co.length d) := b9.cell 5
    clear b9
    have YW := Lib.hid (X1.out.tr Y.out)
    have hk64 : k ≤ 64 := by have := hl.out; omega
    have ll1 : ¬ 9223372036854775807 < l.length + 1 := by have := HL.out; have := hl.out; omega
    have ll2 : ¬ 9223372036854775807 < l.length + 2 := by have := HL.out; have := hl.out; omega
    by_cases hlt : k < x.length
    · obtain ⟨pb, po, y, rfl, zy, cy, ey, _⟩ := (hP.out.ext YW.out).at (k := k) hlt
      have q1 : (k : Int) < (x.length : Int) := by omega
      have ky : x.getD k 0 = y := getD_some ey.out
      by_cases hy : y = 1
      · subst hy
        have e1 : Hid (wordsR 1 x (k + 1) = l ++ [32] ++ Lib.itoa (k : Int)) := by
          have h : wordsR 1 x (k + 1) = l ++ [32] ++ Lib.itoa (k : Int) := by rw [WS.out, if_pos ky, HW.out]
          exact h
        have li := itoa_le (k : Int) (by have := hl.out; omega)
        have RK := Lib.hid (fun (W : World) => RW.out (k : Int) (by have := hl.out; omega) W)
        generalize Lib.itoa (k : Int) = tk at *
        have ll3 : ¬ 9223372036854775807 < l.length + 1 + tk.length := by have := HL.out; have := hl.out; omega
        have HL2 : Hid ((l ++ [32] ++ tk).length ≤ 22 * (k + 1) + 4) := by
          have h : (l ++ [32] ++ tk).length ≤ 22 * (k + 1) + 4 := by
            have := HL.out
            simp only [List.length_append, List.length_cons, List.length_nil]
            omega
          exact h
        have ES : Hid ((⟨l.toArray⟩ : ByteArray) ++ ⟨#[32]⟩ ++ ⟨tk.toArray⟩ = ⟨(l ++ [32] ++ tk).toArray⟩) := by
          have h : (⟨l.toArray⟩ : ByteArray) ++ ⟨#[32]⟩ ++ ⟨tk.toArray⟩ = ⟨(l ++ [32] ++ tk).toArray⟩ := by
            rw [show (⟨#[32]⟩ : ByteArray) = ⟨([32] : Txt).toArray⟩ from rfl, bytes_app, bytes_app]
          exact h
        clear ky ey li
        go_wp2_with (fail)
        refine (RK.out _).mono ?_
        rintro e w2 ⟨rfl, x2⟩
        have Y2 := Lib.hid (Y.out.tr (Ext.tr (by (repeat (first | assumption | exact Ext.rf _ | apply Ext.drew | apply Ext.drewN | apply Ext.alloc))) x2))
        clear x2
        go_wp2_with (fail)
        go_roundw
        case rel => exact ⟨k + 1, l ++ [32] ++ tk, by go_num, by rw [← ES.out], by omega, e1, HL2, Y2.out.tr (by (repeat (first | assumption | exact Ext.rf _ | apply Ext.drew | apply Ext.drewN | apply Ext.alloc)))⟩
        case measure => simp [intOf]; omega
      · have e1 : Hid (wordsR 1 x (k + 1) = l) := by
          have h : wordsR 1 x (k + 1) = l := by rw [WS.out, if_neg (by rw [ky]; exact hy), HW.out]
          exact h
        have HL2 : Hid (l.length ≤ 22 * (k + 1) + 4) := by
          have h : l.length ≤ 22 * (k + 1) + 4 := by have := HL.out; omega
          exact h
        have e2 : (y == 1) = false := by simpa using hy
        clear ky ey
        go_wp2_with (fail)
        go_roundw
        case rel => exact ⟨k + 1, l, by go_num, rfl, by omega, e1, HL2, Y.out.tr (by (repeat (first | assumption | exact Ext.rf _ | apply Ext.drew | apply Ext.drewN | apply Ext.alloc)))⟩
        case measure => simp [intOf]; omega
    · obtain rfl : k = x.length := by omega
      have lA : ¬ 9223372036854775807 < l.length + 2 + tv.length := by have := HL.out; have := hl.out; omega
      have lB : ¬ 9223372036854775807 < l.length + 2 + tv.length + 1 := by have := HL.out; have := hl.out; omega
      have ES : Hid ((⟨l.toArray⟩ : ByteArray) ++ ⟨#[58, 32]⟩ ++ ⟨tv.toArray⟩ ++ ⟨#[10]⟩ = ⟨(wordsE 1 x ++ tAt ++ tv ++ [10]).toArray⟩) := by
        have h : (⟨l.toArray⟩ : ByteArray) ++ ⟨#[58, 32]⟩ ++ ⟨tv.toArray⟩ ++ ⟨#[10]⟩ = ⟨(wordsE 1 x ++ tAt ++ tv ++ [10]).toArray⟩ := by
          rw [show (⟨#[58, 32]⟩ : ByteArray) = ⟨(tAt : Txt).toArray⟩ from rfl, show (⟨#[10]⟩ : ByteArray) = ⟨([10] : Txt).toArray⟩ from rfl, bytes_app, bytes_app, bytes_app, WE.out, HW.out]
        exact h
      go_wp2_with (fail)
      refine (OF.out _ (YW.out.tr (by (repeat (first | assumption | exact Ext.rf _ | apply Ext.drew | apply Ext.drewN | apply Ext.alloc))))).mono ?_
      rintro e w2 ⟨rfl, x2⟩
      have Y2 := Lib.hid (YW.out.tr (Ext.tr (by (repeat (first | assumption | exact Ext.rf _ | apply Ext.drew | apply Ext.drewN | apply Ext.alloc))) x2))
      clear x2 t0 t1 t2 t3 t4 t5
      go_wp2_with (fail)
      refine (RV.out _).mono ?_
      rintro e w3 ⟨rfl, x3⟩
      have Y3 := Lib.hid (Y2.out.tr (Ext.tr (by (repeat (first | assumption | exact Ext.rf _ | apply Ext.drew | apply Ext.drewN | apply Ext.alloc))) x3))
      clear x3
      go_wp2_with (fail)
      go_ret2
      exact ⟨by rw [← ES.out]; rfl, Y3.out⟩
end Go.Proofs.YtleckhbmciiooaaDoor
namespace Go.Proofs.YtleckhbmciiooaaDoor
open Go.RowKit Go.ChangeShapes Go.WideShapes Go.ChangeAt Go.Deep

set_option maxRecDepth 100000 in
set_option maxHeartbeats 4000000 in
theorem rans2_any (i : InstP) (us : List Value) (P : Option Addr) (c : Nat) (x : List Int) (w : World) (cc vv : Int) (H : RInst w us i) (hk : i.kind = 2) (hn : (x.length : Int) = i.n) (hl : x.length ≤ 64) (hP : RdI w P x) (hx : ∀ y ∈ x, 0 ≤ y ∧ y ≤ 1000) (hv : -9223372036854775808 ≤ vv ∧ vv ≤ 9223372036854775807)
    (CO : ∀ W, Ext w W → Calls Tryd.prog 34 #[.agg (List.toArray us), .slice P x.length c] W fun e w' => e = .returned (.tuple #[.int .i64 cc, .int .i64 0]) ∧ Ext W w')
    (OF : ∀ W, Ext w W → Calls Tryd.prog 48 #[.agg (List.toArray us), .int .i64 cc] W fun e w' => e = .returned (.int .i64 vv) ∧ Ext W w') :
    Calls Tryd.prog 16 #[.agg (List.toArray us), .slice P x.length c] w fun e w' => e = .returned (.tuple #[txS (wordsE 2 x ++ tAt ++ Lib.itoa vv ++ [10]), .int .i64 0]) ∧ Ext w w' := by
  have WE : Hid (wordsE 2 x = wordsR 2 x x.length) := by
    have h : wordsE 2 x = wordsR 2 x x.length := by unfold wordsE; rw [if_neg (by decide)]
    exact h
  have W0 : Hid (wordsR 2 x 0 = []) := by
    have h : wordsR 2 x 0 = [] := by simp only [wordsR, show ¬ (2 : Int) = 1 by decide, if_false]
    exact h
  have WS : Hid (∀ k, wordsR 2 x (k + 1) = (if 0 < k then wordsR 2 x k ++ tSemi else wordsR 2 x k) ++ Lib.itoa (k : Int) ++ tTo ++ Lib.itoa (x.getD k 0)) := fun k => by simp only [wordsR, show ¬ (2 : Int) = 1 by decide, if_true, if_false]
  have RW := fun (n : Int) (h : -9223372036854775808 ≤ n ∧ n ≤ 9223372036854775807) (W : World) => rwrite_any n h.1 h.2 W
  have lv := Lib.itoa_length_le vv hv.1 hv.2
  have RV := fun (W : World) => RW vv hv W
  generalize hiv : Lib.itoa vv = tv at *
  obtain ⟨kind, nn, cap, xw, xv, co⟩ := i
  obtain ⟨A, a, B, b, D, d, rfl, -, -, -⟩ := H
  simp only at *
  subst hk hn
  have B1 : Hid (Blk (w.alloc (.cells #[.int .i64 2, .int .i64 x.length, .int .i64 cap, .slice A xw.length a, .slice B xv.length b, .slice D co.length d] 25)) w.heap.size 25 #[.int .i64 2, .int .i64 x.length, .int .i64 cap, .slice A xw.length a, .slice B xv.length b, .slice D co.length d]) := .new rfl
  replace CO := Lib.hid CO
  replace OF := Lib.hid OF
  replace RW := Lib.hid RW
  replace RV := Lib.hid RV
  replace hP := Lib.hid hP
  replace hiv := Lib.hid hiv
  replace hl := Lib.hid hl
  replace hx := Lib.hid hx
  unfold txS
  clear hv
  go_enter Tryd.func16, Tryd.ntmps16
  go_wp2_with (fail)
  refine (CO.out _ (by (repeat (first | assumption | exact Ext.rf _ | apply Ext.drew | apply Ext.drewN | apply Ext.alloc)))).mono ?_
  rintro e w1 ⟨rfl, x1⟩
  have X1 := Lib.hid (Ext.tr (a := w) (by (repeat (first | assumption | exact Ext.rf _ | apply Ext.drew | apply Ext.drewN | apply Ext.alloc))) x1)
  have BB := Lib.hid (B1.out.ext x1)
  have d0 : w1.cell? ⟨w.heap.size, 0, none⟩ = some (.int .i64 2) := BB.out.cell 0
  clear x1 B1
  go_wp2_with (fail)
  go_loopw [8, 9] (fun s v wr => ∃ (k : Nat) (l : Txt), v = .int .i64 k ∧ s = .string ⟨l.toArray⟩ ∧ k ≤ x.length ∧ Hid (wordsR 2 x k = l) ∧ Hid (l.length ≤ 48 * k + 4) ∧ Hid (Ext w1 wr)) (fun _ v _ => x.length - (intOf v).toNat)
  case atStart => exact ⟨0, [], rfl, rfl, by omega, W0, (show ([] : Txt).length ≤ 48 * 0 + 4 by decide), Ext.rf _⟩
  case round =>
    clear d0
    obtain ⟨wo, rfl⟩ : ∃ wo : World, wo = wr := ⟨_, rfl⟩
    obtain ⟨k, l, rfl, rfl, hk, HW, HL, Y⟩ := hrel
    have b9 := BB.out.ext Y.out
    have t0 : wo.cell? ⟨w.heap.size, 0, none⟩ = some (.int .i64 2) := b9.cell 0
    have t1 : wo.cell? ⟨w.heap.size, 1, none⟩ = some (.int .i64 x.length) := b9.cell 1
    have t2 : wo.cell? ⟨w.heap.size, 2, none⟩ = some (.int .i64 cap) := b9.cell 2
    have t3 : wo.cell? ⟨w.heap.size, 3, none⟩ = some (.slice A xw.length a) := b9.cell 3
    have t4 : wo.cell? ⟨w.heap.size, 4, none⟩ = some (.slice B xv.length b) := b9.cell 4
    have t5 : wo.cell? ⟨w.heap.size, 5, none⟩ = some (.slice D co.length d) := b9.cell 5
    clear b9
    have YW := Lib.hid (X1.out.tr Y.out)
    have hk64 : k ≤ 64 := by have := hl.out; omega
    have ll1 : ¬ 9223372036854775807 < l.length + 1 := by have := HL.out; have := hl.out; omega
    have ll2 : ¬ 9223372036854775807 < l.length + 2 := by have := HL.out; have := hl.out; omega
    by_cases hlt : k < x.length
    · obtain ⟨pb, po, y, rfl, zy, cy, ey, _⟩ := (hP.out.ext YW.out).at (k := k) hlt
      have q1 : (k : Int) < (x.length : Int) := by omega
      have ky : x.getD k 0 = y := getD_some ey.out
      have yb := hx.out y (List.mem_of_getElem? ey.out)
      have li := itoa_le y (by omega)
      have lj := itoa_le (k : Int) (by omega)
      have RK := Lib.hid (fun (W : World) => RW.out (k : Int) (by omega) W)
      have RY := Lib.hid (fun (W : World) => RW.out y (by omega) W)
      obtain ⟨tk, hek⟩ : ∃ tk, Hid (Lib.itoa (k : Int) = tk) := ⟨_, rfl⟩
      obtain ⟨ty, hey⟩ : ∃ ty, Hid (Lib.itoa y = ty) := ⟨_, rfl⟩
      rw [hek.out] at lj RK
      rw [hey.out] at li RY
      by_cases hk0 : 0 < k
      · have q0 : (0 : Int) < (k : Int) := by omega
        have e1 : Hid (wordsR 2 x (k + 1) = l ++ tSemi ++ tk ++ tTo ++ ty) := by
          have h : wordsR 2 x (k + 1) = l ++ tSemi ++ tk ++ tTo ++ ty := by rw [WS.out, ky, HW.out, if_pos hk0, hek.out, hey.out]
          exact h
        have ll2b : ¬ 9223372036854775807 < l.length + 2 := by have := HL.out; omega
        have ll3 : ¬ 9223372036854775807 < l.length + 2 + tk.length := by have := HL.out; omega
        have ll4 : ¬ 9223372036854775807 < l.length + 2 + tk.length + 4 := by have := HL.out; omega
        have ll5 : ¬ 9223372036854775807 < l.length + 2 + tk.length + 4 + ty.length := by have := HL.out; omega
        have HL2 : Hid ((l ++ tSemi ++ tk ++ tTo ++ ty).length ≤ 48 * (k + 1) + 4) := by
          have h : (l ++ tSemi ++ tk ++ tTo ++ ty).length ≤ 48 * (k + 1) + 4 := by
            have := HL.out
            simp only [List.length_append, tTo, tSemi, List.length_cons, List.length_nil]
            omega
          exact h
        have ES : Hid ((⟨l.toArray⟩ : ByteArray) ++ ⟨#[59, 32]⟩ ++ ⟨tk.toArray⟩ ++ ⟨#[32, 116, 111, 32]⟩ ++ ⟨ty.toArray⟩ = ⟨(l ++ tSemi ++ tk ++ tTo ++ ty).toArray⟩) := by
          have h : (⟨l.toArray⟩ : ByteArray) ++ ⟨#[59, 32]⟩ ++ ⟨tk.toArray⟩ ++ ⟨#[32, 116, 111, 32]⟩ ++ ⟨ty.toArray⟩ = ⟨(l ++ tSemi ++ tk ++ tTo ++ ty).toArray⟩ := by
            rw [show (⟨#[32, 116, 111, 32]⟩ : ByteArray) = ⟨(tTo : Txt).toArray⟩ from rfl, show (⟨#[59, 32]⟩ : ByteArray) = ⟨(tSemi : Txt).toArray⟩ from rfl, bytes_app, bytes_app, bytes_app, bytes_app]
          exact h
        clear ky ey li lj yb hek hey hk0
        go_wp2_with (fail)
        go_region_held3 (fun w' => w'.cell? ⟨pb, po + k, none⟩ = some (.int .i64 y)) (go_keep)
          (first
          | (go_at_call_of 47 (Value.int .i64 (k : Int)); refine (RK.out _).mono ?_; rintro e w2 ⟨rfl, x2⟩; have yy := Ext.tr (a := wo) (by (repeat (first | assumption | exact Ext.rf _ | apply Ext.drew | apply Ext.drewN | apply Ext.alloc))) x2; have s1 := keepEL yy zy cy)
          | (go_at_call_of 47 (Value.int .i64 y); refine (RY.out _).mono ?_; rintro e w3 ⟨rfl, x3⟩; have yy := Ext.tr (a := wo) (by (repeat (first | assumption | exact Ext.rf _ | apply Ext.drew | apply Ext.drewN | apply Ext.alloc))) x3; have s1 := keepEL yy zy cy))
        go_wp2_with (fail)
        go_roundw
        case rel => exact ⟨k + 1, l ++ tSemi ++ tk ++ tTo ++ ty, by go_num, by rw [← ES.out], by omega, e1, HL2, Y.out.tr (by (repeat (first | assumption | exact Ext.rf _ | apply Ext.drew | apply Ext.drewN | apply Ext.alloc)))⟩
        case measure => simp [intOf]; omega
      · have q0 : ¬ (0 : Int) < (k : Int) := by omega
        have e1 : Hid (wordsR 2 x (k + 1) = l ++ tk ++ tTo ++ ty) := by
          have h : wordsR 2 x (k + 1) = l ++ tk ++ tTo ++ ty := by rw [WS.out, ky, HW.out, if_neg hk0, hek.out, hey.out]
          exact h
        have ll2b : ¬ 9223372036854775807 < l.length + 2 := by have := HL.out; omega
        have ll3 : ¬ 9223372036854775807 < l.length + tk.length := by have := HL.out; omega
        have ll4 : ¬ 9223372036854775807 < l.length + tk.length + 4 := by have := HL.out; omega
        have ll5 : ¬ 9223372036854775807 < l.length + tk.length + 4 + ty.length := by have := HL.out; omega
        have HL2 : Hid ((l ++ tk ++ tTo ++ ty).length ≤ 48 * (k + 1) + 4) := by
          have h : (l ++ tk ++ tTo ++ ty).length ≤ 48 * (k + 1) + 4 := by
            have := HL.out
            simp only [List.length_append, tTo, tSemi, List.length_cons, List.length_nil]
            omega
          exact h
        have ES : Hid ((⟨l.toArray⟩ : ByteArray) ++ ⟨tk.toArray⟩ ++ ⟨#[32, 116, 111, 32]⟩ ++ ⟨ty.toArray⟩ = ⟨(l ++ tk ++ tTo ++ ty).toArray⟩) := by
          have h : (⟨l.toArray⟩ : ByteArray) ++ ⟨tk.toArray⟩ ++ ⟨#[32, 116, 111, 32]⟩ ++ ⟨ty.toArray⟩ = ⟨(l ++ tk ++ tTo ++ ty).toArray⟩ := by
            rw [show (⟨#[32, 116, 111, 32]⟩ : ByteArray) = ⟨(tTo : Txt).toArray⟩ from rfl, bytes_app, bytes_app, bytes_app]
          exact h
        clear ky ey li lj yb hek hey hk0
        go_wp2_with (fail)
        go_region_held3 (fun w' => w'.cell? ⟨pb, po + k, none⟩ = some (.int .i64 y)) (go_keep)
          (first
          | (go_at_call_of 47 (Value.int .i64 (k : Int)); refine (RK.out _).mono ?_; rintro e w2 ⟨rfl, x2⟩; have yy := Ext.tr (a := wo) (by (repeat (first | assumption | exact Ext.rf _ | apply Ext.drew | apply Ext.drewN | apply Ext.alloc))) x2; have s1 := keepEL yy zy cy)
          | (go_at_call_of 47 (Value.int .i64 y); refine (RY.out _).mono ?_; rintro e w3 ⟨rfl, x3⟩; have yy := Ext.tr (a := wo) (by (repeat (first | assumption | exact Ext.rf _ | apply Ext.drew | apply Ext.drewN | apply Ext.alloc))) x3; have s1 := keepEL yy zy cy))
        go_wp2_with (fail)
        go_roundw
        case rel => exact ⟨k + 1, l ++ tk ++ tTo ++ ty, by go_num, by rw [← ES.out], by omega, e1, HL2, Y.out.tr (by (repeat (first | assumption | exact Ext.rf _ | apply Ext.drew | apply Ext.drewN | apply Ext.alloc)))⟩
        case measure => simp [intOf]; omega
    · obtain rfl : k = x.length := by omega
      have lA : ¬ 9223372036854775807 < l.length + 2 + tv.length := by have := HL.out; have := hl.out; omega
      have lB : ¬ 9223372036854775807 < l.length + 2 + tv.length + 1 := by have := HL.out; have := hl.out; omega
      have ES : Hid ((⟨l.toArray⟩ : ByteArray) ++ ⟨#[58, 32]⟩ ++ ⟨tv.toArray⟩ ++ ⟨#[10]⟩ = ⟨(wordsE 2 x ++ tAt ++ tv ++ [10]).toArray⟩) := by
        have h : (⟨l.toArray⟩ : ByteArray) ++ ⟨#[58, 32]⟩ ++ ⟨tv.toArray⟩ ++ ⟨#[10]⟩ = ⟨(wordsE 2 x ++ tAt ++ tv ++ [10]).toArray⟩ := by
          rw [show (⟨#[58, 32]⟩ : ByteArray) = ⟨(tAt : Txt).toArray⟩ from rfl, show (⟨#[10]⟩ : ByteArray) = ⟨([10] : Txt).toArray⟩ from rfl, bytes_app, bytes_app, bytes_app, WE.out, HW.out]
        exact h
      go_wp2_with (fail)
      refine (OF.out _ (YW.out.tr (by (repeat (first | assumption | exact Ext.rf _ | apply Ext.drew | apply Ext.drewN | apply Ext.alloc))))).mono ?_
      rintro e w2 ⟨rfl, x2⟩
      have Y2 := Lib.hid (YW.out.tr (Ext.tr (by (repeat (first | assumption | exact Ext.rf _ | apply Ext.drew | apply Ext.drewN | apply Ext.alloc))) x2))
      clear x2 t0 t1 t2 t3 t4 t5
      go_wp2_with (fail)
      refine (RV.out _).mono ?_
      rintro e w3 ⟨rfl, x3⟩
      have Y3 := Lib.hid (Y2.out.tr (Ext.tr (by (repeat (first | assumption | exact Ext.rf _ | apply Ext.drew | apply Ext.drewN | apply Ext.alloc))) x3))
      clear x3
      go_wp2_with (fail)
      go_ret2
      exact ⟨by rw [← ES.out]; rfl, Y3.out⟩
end Go.Proofs.YtleckhbmciiooaaDoor
namespace Go.Proofs.YtleckhbmciiooaaDoor
open Go.RowKit Go.ChangeShapes Go.WideShapes Go.ChangeAt Go.Deep

set_option maxRecDepth 100000 in
set_option maxHeartbeats 4000000 in
theorem rans3_any (i : InstP) (us : List Value) (P : Option Addr) (c : Nat) (x : List Int) (w : World) (cc vv : Int) (H : RInst w us i) (hk : i.kind = 3) (hn : (x.length : Int) = i.n) (hl : x.length ≤ 64) (hP : RdI w P x) (hx : ∀ y ∈ x, 0 ≤ y ∧ y ≤ 1000) (hv : -9223372036854775808 ≤ vv ∧ vv ≤ 9223372036854775807)
    (CO : ∀ W, Ext w W → Calls Tryd.prog 34 #[.agg (List.toArray us), .slice P x.length c] W fun e w' => e = .returned (.tuple #[.int .i64 cc, .int .i64 0]) ∧ Ext W w')
    (OF : ∀ W, Ext w W → Calls Tryd.prog 48 #[.agg (List.toArray us), .int .i64 cc] W fun e w' => e = .returned (.int .i64 vv) ∧ Ext W w') :
    Calls Tryd.prog 16 #[.agg (List.toArray us), .slice P x.length c] w fun e w' => e = .returned (.tuple #[txS (wordsE 3 x ++ tAt ++ Lib.itoa vv ++ [10]), .int .i64 0]) ∧ Ext w w' := by
  have WE : Hid (wordsE 3 x = wordsR 3 x x.length ++ [48]) := by
    have h : wordsE 3 x = wordsR 3 x x.length ++ [48] := by unfold wordsE; rw [if_pos rfl]
    exact h
  have W0 : Hid (wordsR 3 x 0 = []) := by
    have h : wordsR 3 x 0 = [] := by simp only [wordsR, show ¬ (3 : Int) = 1 by decide, if_false]
    exact h
  have WS : Hid (∀ k, wordsR 3 x (k + 1) = wordsR 3 x k ++ Lib.itoa (x.getD k 0) ++ tWay) := fun k => by simp only [wordsR, show ¬ (3 : Int) = 1 by decide, show ¬ (3 : Int) = 2 by decide, if_false]
  have RW := fun (n : Int) (h : -9223372036854775808 ≤ n ∧ n ≤ 9223372036854775807) (W : World) => rwrite_any n h.1 h.2 W
  have lv := Lib.itoa_length_le vv hv.1 hv.2
  have RV := fun (W : World) => RW vv hv W
  generalize hiv : Lib.itoa vv = tv at *
  obtain ⟨kind, nn, cap, xw, xv, co⟩ := i
  obtain ⟨A, a, B, b, D, d, rfl, -, -, -⟩ := H
  simp only at *
  subst hk hn
  have B1 : Hid (Blk (w.alloc (.cells #[.int .i64 3, .int .i64 x.length, .int .i64 cap, .slice A xw.length a, .slice B xv.length b, .slice D co.length d] 25)) w.heap.size 25 #[.int .i64 3, .int .i64 x.length, .int .i64 cap, .slice A xw.length a, .slice B xv.length b, .slice D co.length d]) := .new rfl
  replace CO := Lib.hid CO
  replace OF := Lib.hid OF
  replace RW := Lib.hid RW
  replace RV := Lib.hid RV
  replace hP := Lib.hid hP
  replace hiv := Lib.hid hiv
  replace hl := Lib.hid hl
  replace hx := Lib.hid hx
  unfold txS
  clear hv
  go_enter Tryd.func16, Tryd.ntmps16
  go_wp2_with (fail)
  refine (CO.out _ (by (repeat (first | assumption | exact Ext.rf _ | apply Ext.drew | apply Ext.drewN | apply Ext.alloc)))).mono ?_
  rintro e w1 ⟨rfl, x1⟩
  have X1 := Lib.hid (Ext.tr (a := w) (by (repeat (first | assumption | exact Ext.rf _ | apply Ext.drew | apply Ext.drewN | apply Ext.alloc))) x1)
  have BB := Lib.hid (B1.out.ext x1)
  have d0 : w1.cell? ⟨w.heap.size, 0, none⟩ = some (.int .i64 3) := BB.out.cell 0
  clear x1 B1
  go_wp2_with (fail)
  go_loopw [8, 9] (fun s v wr => ∃ (k : Nat) (l : Txt), v = .int .i64 k ∧ s = .string ⟨l.toArray⟩ ∧ k ≤ x.length ∧ Hid (wordsR 3 x k = l) ∧ Hid (l.length ≤ 24 * k + 4) ∧ Hid (Ext w1 wr)) (fun _ v _ => x.length - (intOf v).toNat)
  case atStart => exact ⟨0, [], rfl, rfl, by omega, W0, (show ([] : Txt).length ≤ 24 * 0 + 4 by decide), Ext.rf _⟩
  case round =>
    clear d0
    obtain ⟨wo, rfl⟩ : ∃ wo : World, wo = wr := ⟨_, rfl⟩
    obtain ⟨k, l, rfl, rfl, hk, HW, HL, Y⟩ := hrel
    have b9 := BB.out.ext Y.out
    have t0 : wo.cell? ⟨w.heap.size, 0, none⟩ = some (.int .i64 3) := b9.cell 0
    have t1 : wo.cell? ⟨w.heap.size, 1, none⟩ = some (.int .i64 x.length) := b9.cell 1
    have t2 : wo.cell? ⟨w.heap.size, 2, none⟩ = some (.int .i64 cap) := b9.cell 2
    have t3 : wo.cell? ⟨w.heap.size, 3, none⟩ = some (.slice A xw.length a) := b9.cell 3
    have t4 : wo.cell? ⟨w.heap.size, 4, none⟩ = some (.slice B xv.length b) := b9.cell 4
    have t5 : wo.cell? ⟨w.heap.size, 5, none⟩ = some (.slice D co.length d) := b9.cell 5
    clear b9
    have YW := Lib.hid (X1.out.tr Y.out)
    have hk64 : k ≤ 64 := by have := hl.out; omega
    have ll1 : ¬ 9223372036854775807 < l.length + 1 := by have := HL.out; have := hl.out; omega
    have ll2 : ¬ 9223372036854775807 < l.length + 1 + 2 := by have := HL.out; have := hl.out; omega
    by_cases hlt : k < x.length
    · obtain ⟨pb, po, y, rfl, zy, cy, ey, _⟩ := (hP.out.ext YW.out).at (k := k) hlt
      have q1 : (k : Int) < (x.length : Int) := by omega
      have ky : x.getD k 0 = y := getD_some ey.out
      have e1 : Hid (wordsR 3 x (k + 1) = l ++ Lib.itoa y ++ tWay) := by
        have h : wordsR 3 x (k + 1) = l ++ Lib.itoa y ++ tWay := by rw [WS.out, ky, HW.out]
        exact h
      have yb := hx.out y (List.mem_of_getElem? ey.out)
      have li := itoa_le y (by omega)
      have RK := Lib.hid (fun (W : World) => RW.out y (by omega) W)
      generalize Lib.itoa y = tk at *
      have ll3 : ¬ 9223372036854775807 < l.length + tk.length := by have := HL.out; omega
      have ll4 : ¬ 9223372036854775807 < l.length + tk.length + 3 := by have := HL.out; omega
      have HL2 : Hid ((l ++ tk ++ tWay).length ≤ 24 * (k + 1) + 4) := by
        have h : (l ++ tk ++ tWay).length ≤ 24 * (k + 1) + 4 := by
          have := HL.out
          simp only [List.length_append, tWay, List.length_cons, List.length_nil]
          omega
        exact h
      have ES : Hid ((⟨l.toArray⟩ : ByteArray) ++ ⟨tk.toArray⟩ ++ ⟨#[32, 62, 32]⟩ = ⟨(l ++ tk ++ tWay).toArray⟩) := by
        have h : (⟨l.toArray⟩ : ByteArray) ++ ⟨tk.toArray⟩ ++ ⟨#[32, 62, 32]⟩ = ⟨(l ++ tk ++ tWay).toArray⟩ := by
          rw [show (⟨#[32, 62, 32]⟩ : ByteArray) = ⟨(tWay : Txt).toArray⟩ from rfl, bytes_app, bytes_app]
        exact h
      clear ky ey li yb
      go_wp2_with (fail)
      refine (RK.out _).mono ?_
      rintro e w2 ⟨rfl, x2⟩
      have Y2 := Lib.hid (Y.out.tr (Ext.tr (by (repeat (first | assumption | exact Ext.rf _ | apply Ext.drew | apply Ext.drewN | apply Ext.alloc))) x2))
      clear x2
      go_wp2_with (fail)
      go_roundw
      case rel => exact ⟨k + 1, l ++ tk ++ tWay, by go_num, by rw [← ES.out], by omega, e1, HL2, Y2.out.tr (by (repeat (first | assumption | exact Ext.rf _ | apply Ext.drew | apply Ext.drewN | apply Ext.alloc)))⟩
      case measure => simp [intOf]; omega
    · obtain rfl : k = x.length := by omega
      have lA : ¬ 9223372036854775807 < l.length + 1 + 2 + tv.length := by have := HL.out; have := hl.out; omega
      have lB : ¬ 9223372036854775807 < l.length + 1 + 2 + tv.length + 1 := by have := HL.out; have := hl.out; omega
      have ES : Hid ((⟨l.toArray⟩ : ByteArray) ++ ⟨#[48]⟩ ++ ⟨#[58, 32]⟩ ++ ⟨tv.toArray⟩ ++ ⟨#[10]⟩ = ⟨(wordsE 3 x ++ tAt ++ tv ++ [10]).toArray⟩) := by
        have h : (⟨l.toArray⟩ : ByteArray) ++ ⟨#[48]⟩ ++ ⟨#[58, 32]⟩ ++ ⟨tv.toArray⟩ ++ ⟨#[10]⟩ = ⟨(wordsE 3 x ++ tAt ++ tv ++ [10]).toArray⟩ := by
          rw [show (⟨#[48]⟩ : ByteArray) = ⟨([48] : Txt).toArray⟩ from rfl, show (⟨#[58, 32]⟩ : ByteArray) = ⟨(tAt : Txt).toArray⟩ from rfl, show (⟨#[10]⟩ : ByteArray) = ⟨([10] : Txt).toArray⟩ from rfl, bytes_app, bytes_app, bytes_app, bytes_app, WE.out, HW.out]
        exact h
      go_wp2_with (fail)
      refine (OF.out _ (YW.out.tr (by (repeat (first | assumption | exact Ext.rf _ | apply Ext.drew | apply Ext.drewN | apply Ext.alloc))))).mono ?_
      rintro e w2 ⟨rfl, x2⟩
      have Y2 := Lib.hid (YW.out.tr (Ext.tr (by (repeat (first | assumption | exact Ext.rf _ | apply Ext.drew | apply Ext.drewN | apply Ext.alloc))) x2))
      clear x2 t0 t1 t2 t3 t4 t5
      go_wp2_with (fail)
      refine (RV.out _).mono ?_
      rintro e w3 ⟨rfl, x3⟩
      have Y3 := Lib.hid (Y2.out.tr (Ext.tr (by (repeat (first | assumption | exact Ext.rf _ | apply Ext.drew | apply Ext.drewN | apply Ext.alloc))) x3))
      clear x3
      go_wp2_with (fail)
      go_ret2
      exact ⟨by rw [← ES.out]; rfl, Y3.out⟩
end Go.Proofs.YtleckhbmciiooaaDoor
namespace Go.Proofs.YtleckhbmciiooaaDoor
open Go.RowKit Go.ChangeShapes Go.WideShapes Go.ChangeAt Go.Deep

/-- an answer in words, or why it is none -/
def ansG (i : InstP) (x : List Int) : Txt × Int := if (costG i x).2 = 0 then (wordsE i.kind x ++ tAt ++ Lib.itoa (ofG i (costG i x).1) ++ [10], 0) else ([], (costG i x).2)
/-- what is known of an answer -/
structure AnsIs (i : InstP) (x : List Int) : Prop where
  chk : checkP i = 0
  len : (x.length : Int) = i.n
  n64 : x.length ≤ 64
  rng : ∀ y ∈ x, 0 ≤ y ∧ y ≤ 1000
  c0 : 0 ≤ (costG i x).1
  c1 : (costG i x).1 ≤ 137438953408
theorem ans_is {i : InstP} {x : List Int} (h : (costG i x).2 = 0) : AnsIs i x := by
  have hc := costG_chk h
  by_cases hk : i.kind = 1
  · have b := (costG_bd hk h).2
    have ok := knap_ok hc hk
    have k2 := ok.n2
    have k3 := ok.v
    unfold costG at h
    rw [if_neg (by simpa using hc), if_pos hk] at h
    by_cases hl : (x.length : Int) = i.n ∧ ∀ v ∈ x, v = 0 ∨ v = 1
    · exact ⟨hc, hl.1, by omega, fun y hy => by rcases hl.2 y hy with e | e <;> omega, b.1, by omega⟩
    · rw [if_neg hl] at h
      exact absurd h (by decide)
  · have sq := square_ok hc hk
    have rok := rows_ok sq
    have n2 := rok.n2
    have n1 := rok.n1
    have hin : (i.cost.length : Int) = i.n := sq.len
    have num := ends_num rok
    have h' := h
    unfold costG at h'
    rw [if_neg (by simpa using hc), if_neg hk] at h'
    by_cases hp : permB x i.cost.length = true ∧ (i.kind = 3 → x[0]? = some 0)
    · obtain ⟨l, rfl, hl⟩ := permB_iff.1 hp.1
      have ll : l.length = i.cost.length := by rw [hl.length_eq, List.length_range]
      have lt : ∀ y ∈ l, y < i.cost.length := fun y hy => List.mem_range.1 (hl.mem_iff.1 hy)
      have hb : 0 ≤ (costG i (intsN l)).1 ∧ (costG i (intsN l)).1 ≤ 137438953408 := by
        unfold costG
        rw [if_neg (by simpa using hc), if_neg hk, if_pos hp]
        by_cases h2 : i.kind = 2
        · simp only [h2, if_true]
          rw [costF_range ll.symm]
          have h1 := sumL_map_bd (f := fun k => costAt i.cost k (l.getD k 0)) (B := 2147483647) (List.range l.length) (fun k hk => by
            have hk := List.mem_range.1 hk
            have e : l[k]? = some l[k] := List.getElem?_eq_getElem hk
            rw [getD_some e]
            exact num k _ (by omega) (lt _ (List.getElem_mem hk)))
          rw [List.length_range] at h1
          omega
        · simp only [h2, if_false]
          have e : (intsN l).tail.map Int.toNat = l.tail := by
            cases l with
            | nil => rfl
            | cons a q => simp [intsN, Function.comp_def]
          rw [e]
          have h1 := pathT_bd num l.tail 0 (by omega) fun y hy => lt y (List.mem_of_mem_tail hy)
          have h3 : l.tail.length ≤ 24 := by rw [List.length_tail]; omega
          omega
      refine ⟨hc, by rw [intsN_len, ll]; exact hin, by rw [intsN_len, ll]; omega, fun y hy => ?_, hb.1, hb.2⟩
      obtain ⟨k, hk, rfl⟩ := List.mem_map.1 hy
      have := lt k hk
      omega
    · rw [if_neg hp] at h'
      exact absurd h' (by decide)
theorem ofG_bd {i : InstP} {x : List Int} (h : (costG i x).2 = 0) : -9223372036854775808 ≤ ofG i (costG i x).1 ∧ ofG i (costG i x).1 ≤ 9223372036854775807 := by
  have A := ans_is h
  have a1 := A.c0
  have a2 := A.c1
  unfold ofG
  split
  · rename_i hk
    have ok := knap_ok A.chk hk
    have s := sum31 ok.sv
    have k2 := ok.n2
    have k3 := ok.v
    omega
  · omega
set_option maxRecDepth 100000 in
theorem rans_any (i : InstP) (us : List Value) (P : Option Addr) (c : Nat) (x : List Int) (w : World) (H : RInst w us i) (hP : RdI w P x) :
    Calls Tryd.prog 16 #[.agg (List.toArray us), .slice P x.length c] w fun e w' => e = .returned (.tuple #[txS (ansG i x).1, .int .i64 (ansG i x).2]) ∧ Ext w w' := by
  have CO := fun (W : World) (y : Ext w W) => rcost_gen i us P c x W (H.ext y) (hP.ext y)
  unfold ansG
  by_cases h : (costG i x).2 = 0
  · rw [if_pos h]
    have A := ans_is h
    have vb := ofG_bd h
    have OF := fun (W : World) (y : Ext w W) => rof_any i us W (costG i x).1 (H.ext y) A.chk (fun hk => (costG_bd hk h).2)
    rw [h] at CO
    rcases check_kind A.chk with hk | hk | hk
    · rw [hk]
      exact rans1_any i us P c x w _ _ H hk A.len A.n64 hP vb CO OF
    · rw [hk]
      exact rans2_any i us P c x w _ _ H hk A.len A.n64 hP A.rng vb CO OF
    · rw [hk]
      exact rans3_any i us P c x w _ _ H hk A.len A.n64 hP A.rng vb CO OF
  · rw [if_neg h]
    generalize (costG i x).2 = ee at *
    generalize (costG i x).1 = cc at *
    have e1 : (ee != 0) = true := by simpa using h
    clear h hP
    obtain ⟨kind, nn, cap, xw, xv, co⟩ := i
    obtain ⟨A, a, B, b, D, d, rfl, -, -, -⟩ := H
    simp only at *
    replace CO := Lib.hid CO
    unfold txS
    go_enter Tryd.func16, Tryd.ntmps16
    go_wp2_with (fail)
    refine (CO.out _ (by (repeat (first | assumption | exact Ext.rf _ | apply Ext.drew | apply Ext.drewN | apply Ext.alloc)))).mono ?_
    rintro e w1 ⟨rfl, x1⟩
    have X1 := Lib.hid (Ext.tr (a := w) (by (repeat (first | assumption | exact Ext.rf _ | apply Ext.drew | apply Ext.drewN | apply Ext.alloc))) x1)
    clear x1
    go_wp2_with (fail)
    go_ret2
    exact ⟨rfl, X1.out⟩
end Go.Proofs.YtleckhbmciiooaaDoor
namespace Go.Proofs.YtleckhbmciiooaaDoor
open Go.Shelf

def itoaLay_ren : Go.Shelf.Ren := ⟨fun | 171 => 77 | 243 => 103 | 246 => 124 | 283 => 148 | 284 => 149 | 285 => 150 | 286 => 151 | 129 => 147 | 317 => 163 | 318 => 164 | 319 => 165 | 320 => 166 | 337 => 169 | 338 => 120 | n => n, fun | 3 => 3 | 9 => 9 | 2 => 2 | 4 => 4 | 171 => 172 | 0 => 0 | 53 => 28 | 37 => 65 | 5 => 5 | 173 => 174 | 212 => 187 | 51 => 137 | 20 => 20 | 213 => 188 | 46 => 117 | 232 => 196 | 233 => 171 | n => n, fun | 17 => 2 | 18 => 5 | 19 => 1 | n => n⟩
set_option maxRecDepth 100000 in
theorem itoaLay : LaysM.n171 Tryd.prog itoaLay_ren where
  mixed := by kernel_rfl
  f129 := Tryd.func147.trans (congrArg some (by kernel_rfl))
  f171 := Tryd.func77.trans (congrArg some (by kernel_rfl))
  f243 := Tryd.func103.trans (congrArg some (by kernel_rfl))
  f246 := Tryd.func124.trans (congrArg some (by kernel_rfl))
  f283 := Tryd.func148.trans (congrArg some (by kernel_rfl))
  f284 := Tryd.func149.trans (congrArg some (by kernel_rfl))
  f285 := Tryd.func150.trans (congrArg some (by kernel_rfl))
  f286 := Tryd.func151.trans (congrArg some (by kernel_rfl))
  f317 := Tryd.func163.trans (congrArg some (by kernel_rfl))
  f318 := Tryd.func164.trans (congrArg some (by kernel_rfl))
  f319 := Tryd.func165.trans (congrArg some (by kernel_rfl))
  f320 := Tryd.func166.trans (congrArg some (by kernel_rfl))
  f337 := Tryd.func169.trans (congrArg some (by kernel_rfl))
  f338 := Tryd.func120.trans (congrArg some (by kernel_rfl))
  t0 := Tryd.underlying0
  a0 := Tryd.isAgg0
  z0 := Tryd.sizeOf0
  v0 := Tryd.zeroValue0
  t2 := Tryd.underlying2
  a2 := Tryd.isAgg2
  z2 := Tryd.sizeOf2
  v2 := Tryd.zeroValue2
  t3 := Tryd.underlying3
  a3 := Tryd.isAgg3
  z3 := Tryd.sizeOf3
  v3 := Tryd.zeroValue3
  t4 := Tryd.underlying4
  a4 := Tryd.isAgg4
  z4 := Tryd.sizeOf4
  v4 := Tryd.zeroValue4
  t5 := Tryd.underlying5
  a5 := Tryd.isAgg5
  z5 := Tryd.sizeOf5
  v5 := Tryd.zeroValue5
  t9 := Tryd.underlying9
  a9 := Tryd.isAgg9
  z9 := Tryd.sizeOf9
  v9 := Tryd.zeroValue9
  t20 := Tryd.underlying20
  a20 := Tryd.isAgg20
  z20 := Tryd.sizeOf20
  v20 := Tryd.zeroValue20
  t37 := Tryd.underlying65
  a37 := Tryd.isAgg65
  z37 := Tryd.sizeOf65
  v37 := Tryd.zeroValue65
  t46 := Tryd.underlying117
  a46 := Tryd.isAgg117
  z46 := Tryd.sizeOf117
  v46 := Tryd.zeroValue117
  t51 := Tryd.underlying137
  a51 := Tryd.isAgg137
  z51 := Tryd.sizeOf137
  v51 := Tryd.zeroValue137
  t53 := Tryd.underlying28
  a53 := Tryd.isAgg28
  z53 := Tryd.sizeOf28
  v53 := Tryd.zeroValue28
  t171 := Tryd.underlying172
  a171 := Tryd.isAgg172
  z171 := Tryd.sizeOf172
  v171 := Tryd.zeroValue172
  t173 := Tryd.underlying174
  a173 := Tryd.isAgg174
  z173 := Tryd.sizeOf174
  v173 := Tryd.zeroValue174
  t212 := Tryd.underlying187
  a212 := Tryd.isAgg187
  z212 := Tryd.sizeOf187
  v212 := Tryd.zeroValue187
  t213 := Tryd.underlying188
  a213 := Tryd.isAgg188
  z213 := Tryd.sizeOf188
  t232 := Tryd.underlying196
  a232 := Tryd.isAgg196
  z232 := Tryd.sizeOf196
  v232 := Tryd.zeroValue196
  t233 := Tryd.underlying171
  a233 := Tryd.isAgg171
  z233 := Tryd.sizeOf171
  v233 := Tryd.zeroValue171
  g17 := by kernel_rfl
  g18 := by kernel_rfl
  g19 := by kernel_rfl
  i0 := by kernel_rfl
  i2 := by kernel_rfl
  i3 := by kernel_rfl
  i4 := by kernel_rfl
  i5 := by kernel_rfl
  i9 := by kernel_rfl
  i20 := by kernel_rfl
  i37 := by kernel_rfl
  i46 := by kernel_rfl
  i51 := by kernel_rfl
  i53 := by kernel_rfl
  i171 := by kernel_rfl
  i173 := by kernel_rfl
  i212 := by kernel_rfl
  i232 := by kernel_rfl
  i233 := by kernel_rfl
  m17 := by kernel_rfl
  m18 := by kernel_rfl
  m19 := by kernel_rfl
end Go.Proofs.YtleckhbmciiooaaDoor
namespace Go.Proofs.YtleckhbmciiooaaDoor
open Go.RowKit Go.ChangeShapes Go.WideShapes Go.ChangeAt Go.Deep

/-- the table of the powers of ten is as it was laid -/
def Ten (w : World) : Prop := Lib.TabIs Tryd.prog w "internal/strconv.uint64pow10" .u64 Lib.pow10Tab
theorem Ten.ext {w w' : World} (h : Ten w) (x : Ext w w') : Ten w' := Lib.tabBelow_of_tabIs h w' x
theorem ext_grow {w0 w : World} (h : Ext w0 w) (os : Array Obj) : Ext w0 (Go.Sort.grow w os) :=
  Below.trans h ⟨rfl, rfl, rfl, by simp [Go.Sort.grow], fun k hk => by have := h.size; simp only [Go.Sort.grow]; exact Array.getElem?_append_left (by omega)⟩
theorem itoa_any (n : Int) (h0 : -9223372036854775808 ≤ n) (h1 : n ≤ 9223372036854775807) (w : World) (hT : Ten w) :
    Calls Tryd.prog 77 #[.int .i64 n] w fun e w' => e = .returned (.string ⟨(Lib.itoa n).toArray⟩) ∧ Ext w w' := by
  refine (Any.strconv_Itoa itoaLay n h0 h1 w hT).mono ?_
  rintro e w' ⟨rfl, k, os, rfl⟩
  exact ⟨rfl, ext_grow ((Ext.rf w).drewN k) os⟩
set_option maxRecDepth 100000 in
theorem write_any (n : Int) (h0 : -9223372036854775808 ≤ n) (h1 : n ≤ 9223372036854775807) (w : World) (hT : Ten w) :
    Calls Tryd.prog 46 #[.int .i64 n] w fun e w' => e = .returned (.string ⟨(Lib.itoa n).toArray⟩) ∧ Ext w w' := by
  have IT := Lib.hid (fun (W : World) (x : Ext w W) => itoa_any n h0 h1 W (hT.ext x))
  go_enter Tryd.func46, Tryd.ntmps46
  go_wp2_with (fail)
  refine (IT.out _ (by (repeat (first | assumption | exact Ext.rf _ | apply Ext.drew | apply Ext.drewN | apply Ext.alloc)))).mono ?_
  rintro e w1 ⟨rfl, x1⟩
  have X1 := Lib.hid (Ext.tr (a := w) (by (repeat (first | assumption | exact Ext.rf _ | apply Ext.drew | apply Ext.drewN | apply Ext.alloc))) x1)
  go_wp2_with (fail)
  go_ret
  exact ⟨rfl, X1.out⟩
end Go.Proofs.YtleckhbmciiooaaDoor
namespace Go.Proofs.YtleckhbmciiooaaDoor
open Go.RowKit Go.ChangeShapes Go.WideShapes Go.ChangeAt Go.Deep

set_option maxRecDepth 100000 in
set_option maxHeartbeats 2000000 in
theorem show_any (i : InstP) (us : List Value) (P : Option Addr) (c : Nat) (x : List Int) (w : World) (H : RInst w us i) (hP : RdI w P x) (hT : Ten w) (hx : x.length ≤ 1000) (hlw : i.weight.length ≤ maxLen) (hlv : i.value.length ≤ maxLen) (hls : i.weight.length + i.value.length ≤ maxLen)
    (WO : (costG i x).2 = 0 → ∀ W, Ext w W → Calls Tryd.prog 45 #[.agg (List.toArray us), .slice P x.length c] W fun e w' => e = .returned (txS (wordsP i.kind x)) ∧ Ext W w')
    (WL0 : (costG i x).2 = 0 → (wordsP i.kind x).length ≤ 10000) :
    Calls Tryd.prog 15 #[.agg (List.toArray us), .slice P x.length c] w fun e w' => e = .returned (.tuple #[txS (ansG i x).1, .int .i64 (ansG i x).2]) ∧ Ext w w' := by
  have VV := fun (W : World) (y : Ext w W) => vvalue_any i us P c x W (H.ext y) (hP.ext y) hx hlw hlv hls
  unfold ansG
  unfold valG at VV
  by_cases h : (costG i x).2 = 0
  · have A := ans_is h
    have vb := ofG_bd h
    have WO' := WO h
    have WL := WL0 h
    have WD := fun (W : World) (y : Ext w W) => write_any (ofG i (costG i x).1) vb.1 vb.2 W (hT.ext y)
    have li := Lib.itoa_length_le _ vb.1 vb.2
    rw [if_pos h] at VV ⊢
    rw [words_eq (check_kind A.chk)]
    clear WO WL0 A vb h hT hP hx hlw hlv hls
    generalize ofG i (costG i x).1 = vv at *
    generalize hiv : Lib.itoa vv = tv at *
    generalize wordsP i.kind x = l at *
    have lA : ¬ 9223372036854775807 < l.length + 2 := by omega
    have lB : ¬ 9223372036854775807 < l.length + 2 + tv.length := by omega
    have lC : ¬ 9223372036854775807 < l.length + 2 + tv.length + 1 := by omega
    have ES : Hid ((⟨l.toArray⟩ : ByteArray) ++ ⟨#[58, 32]⟩ ++ ⟨tv.toArray⟩ ++ ⟨#[10]⟩ = ⟨(l ++ tAt ++ tv ++ [10]).toArray⟩) := by
      have h : (⟨l.toArray⟩ : ByteArray) ++ ⟨#[58, 32]⟩ ++ ⟨tv.toArray⟩ ++ ⟨#[10]⟩ = ⟨(l ++ tAt ++ tv ++ [10]).toArray⟩ := by
        rw [show (⟨#[58, 32]⟩ : ByteArray) = ⟨(tAt : Txt).toArray⟩ from rfl, show (⟨#[10]⟩ : ByteArray) = ⟨([10] : Txt).toArray⟩ from rfl, bytes_app, bytes_app, bytes_app]
      exact h
    obtain ⟨kind, nn, cap, xw, xv, co⟩ := i
    obtain ⟨A, a, B, b, D, d, rfl, -, -, -⟩ := H
    simp only at *
    have B1 : Hid (Blk (w.alloc (.cells #[.int .i64 kind, .int .i64 nn, .int .i64 cap, .slice A xw.length a, .slice B xv.length b, .slice D co.length d] 25)) w.heap.size 25 #[.int .i64 kind, .int .i64 nn, .int .i64 cap, .slice A xw.length a, .slice B xv.length b, .slice D co.length d]) := .new rfl
    replace VV := Lib.hid VV
    replace WO' := Lib.hid WO'
    replace WD := Lib.hid WD
    replace hiv := Lib.hid hiv
    unfold txS at *
    go_enter Tryd.func15, Tryd.ntmps15
    go_wp2_with (fail)
    refine (VV.out _ (by (repeat (first | assumption | exact Ext.rf _ | apply Ext.drew | apply Ext.drewN | apply Ext.alloc)))).mono ?_
    rintro e w1 ⟨rfl, x1⟩
    have X1 := Lib.hid (Ext.tr (a := w) (by (repeat (first | assumption | exact Ext.rf _ | apply Ext.drew | apply Ext.drewN | apply Ext.alloc))) x1)
    have b1 := B1.out.ext x1
    have t0 : w1.cell? ⟨w.heap.size, 0, none⟩ = some (.int .i64 kind) := b1.cell 0
    have t1 : w1.cell? ⟨w.heap.size, 1, none⟩ = some (.int .i64 nn) := b1.cell 1
    have t2 : w1.cell? ⟨w.heap.size, 2, none⟩ = some (.int .i64 cap) := b1.cell 2
    have t3 : w1.cell? ⟨w.heap.size, 3, none⟩ = some (.slice A xw.length a) := b1.cell 3
    have t4 : w1.cell? ⟨w.heap.size, 4, none⟩ = some (.slice B xv.length b) := b1.cell 4
    have t5 : w1.cell? ⟨w.heap.size, 5, none⟩ = some (.slice D co.length d) := b1.cell 5
    clear x1 B1 b1
    go_wp2_with (fail)
    refine (WO'.out _ (X1.out.tr (by (repeat (first | assumption | exact Ext.rf _ | apply Ext.drew | apply Ext.drewN | apply Ext.alloc))))).mono ?_
    rintro e w2 ⟨rfl, x2⟩
    have X2 := Lib.hid (X1.out.tr (Ext.tr (by (repeat (first | assumption | exact Ext.rf _ | apply Ext.drew | apply Ext.drewN | apply Ext.alloc))) x2))
    clear x2 t0 t1 t2 t3 t4 t5
    go_wp2_with (fail)
    refine (WD.out _ (X2.out.tr (by (repeat (first | assumption | exact Ext.rf _ | apply Ext.drew | apply Ext.drewN | apply Ext.alloc))))).mono ?_
    rintro e w3 ⟨rfl, x3⟩
    have X3 := Lib.hid (X2.out.tr (Ext.tr (by (repeat (first | assumption | exact Ext.rf _ | apply Ext.drew | apply Ext.drewN | apply Ext.alloc))) x3))
    clear x3
    go_wp2_with (fail)
    go_ret2
    exact ⟨by rw [← ES.out]; rfl, X3.out⟩
  · rw [if_neg h] at VV ⊢
    generalize (costG i x).2 = ee at *
    have e1 : (ee != 0) = true := by simpa using h
    clear h hP WO WL0 hT hx hlw hlv hls
    obtain ⟨kind, nn, cap, xw, xv, co⟩ := i
    obtain ⟨A, a, B, b, D, d, rfl, -, -, -⟩ := H
    simp only at *
    replace VV := Lib.hid VV
    unfold txS
    go_enter Tryd.func15, Tryd.ntmps15
    go_wp2_with (fail)
    refine (VV.out _ (by (repeat (first | assumption | exact Ext.rf _ | apply Ext.drew | apply Ext.drewN | apply Ext.alloc)))).mono ?_
    rintro e w1 ⟨rfl, x1⟩
    have X1 := Lib.hid (Ext.tr (a := w) (by (repeat (first | assumption | exact Ext.rf _ | apply Ext.drew | apply Ext.drewN | apply Ext.alloc))) x1)
    clear x1
    go_wp2_with (fail)
    go_ret2
    exact ⟨rfl, X1.out⟩
end Go.Proofs.YtleckhbmciiooaaDoor
namespace Go.Proofs.YtleckhbmciiooaaDoor

theorem wordsR_len (kind : Int) (x : List Int) (hl : x.length ≤ 64) (hx : ∀ y ∈ x, 0 ≤ y ∧ y ≤ 1000) : ∀ k, k ≤ x.length → (wordsR kind x k).length ≤ 48 * k + 4
  | 0, _ => by
    unfold wordsR
    split <;> simp [tTake]
  | k + 1, h => by
    have ih := wordsR_len kind x hl hx k (by omega)
    have e : x.getD k 0 = x[k] := getD_some (List.getElem?_eq_getElem (by omega))
    have b := hx (x[k]'(by omega)) (List.getElem_mem _)
    have h1 := itoa_le (x[k]'(by omega)) (by omega)
    have h2 := itoa_le (k : Int) (by omega)
    rw [← e] at h1
    unfold wordsR
    split
    · split
      · simp only [List.length_append, List.length_cons, List.length_nil]; omega
      · omega
    · split
      · split <;> (simp only [List.length_append, tTo, tSemi, List.length_cons, List.length_nil]; omega)
      · simp only [List.length_append, tWay, List.length_cons, List.length_nil]; omega
theorem wordsP_len {kind : Int} (hk : kind = 1 ∨ kind = 2 ∨ kind = 3) {x : List Int} (hl : x.length ≤ 64) (hx : ∀ y ∈ x, 0 ≤ y ∧ y ≤ 1000) : (wordsP kind x).length ≤ 10000 := by
  rw [← words_eq hk]
  have h := wordsR_len kind x hl hx x.length (Nat.le_refl _)
  unfold wordsE
  split
  · simp only [List.length_append, List.length_cons, List.length_nil]; omega
  · omega
end Go.Proofs.YtleckhbmciiooaaDoor
namespace Go.Proofs.YtleckhbmciiooaaDoor
open Go.Shelf

def joinLay_ren : Go.Shelf.Ren := ⟨fun | 156 => 52 | 165 => 81 | 166 => 51 | 169 => 54 | 240 => 83 | 241 => 107 | 276 => 108 | 277 => 125 | n => n, fun | 31 => 63 | 9 => 9 | 3 => 3 | 4 => 4 | 0 => 0 | 20 => 20 | 72 => 67 | 76 => 71 | 70 => 64 | 37 => 65 | 75 => 70 | 127 => 122 | 164 => 142 | 5 => 5 | 80 => 75 | n => n, fun n => n⟩
set_option maxRecDepth 100000 in
theorem joinLay : Lays.n156 Tryd.prog joinLay_ren where
  mixed := by kernel_rfl
  f156 := Tryd.func52.trans (congrArg some (by kernel_rfl))
  f165 := Tryd.func81.trans (congrArg some (by kernel_rfl))
  f166 := Tryd.func51.trans (congrArg some (by kernel_rfl))
  f169 := Tryd.func54.trans (congrArg some (by kernel_rfl))
  f240 := Tryd.func83.trans (congrArg some (by kernel_rfl))
  f241 := Tryd.func107.trans (congrArg some (by kernel_rfl))
  f276 := Tryd.func108.trans (congrArg some (by kernel_rfl))
  f277 := Tryd.func125.trans (congrArg some (by kernel_rfl))
  t0 := Tryd.underlying0
  a0 := Tryd.isAgg0
  z0 := Tryd.sizeOf0
  v0 := Tryd.zeroValue0
  t3 := Tryd.underlying3
  a3 := Tryd.isAgg3
  z3 := Tryd.sizeOf3
  v3 := Tryd.zeroValue3
  t4 := Tryd.underlying4
  a4 := Tryd.isAgg4
  z4 := Tryd.sizeOf4
  v4 := Tryd.zeroValue4
  t9 := Tryd.underlying9
  a9 := Tryd.isAgg9
  z9 := Tryd.sizeOf9
  v9 := Tryd.zeroValue9
  t20 := Tryd.underlying20
  a20 := Tryd.isAgg20
  z20 := Tryd.sizeOf20
  v20 := Tryd.zeroValue20
  t31 := Tryd.underlying63
  a31 := Tryd.isAgg63
  z31 := Tryd.sizeOf63
  v31 := Tryd.zeroValue63
  t37 := Tryd.underlying65
  a37 := Tryd.isAgg65
  z37 := Tryd.sizeOf65
  v37 := Tryd.zeroValue65
  t70 := Tryd.underlying64
  a70 := Tryd.isAgg64
  z70 := Tryd.sizeOf64
  v70 := Tryd.zeroValue64
  t72 := Tryd.underlying67
  a72 := Tryd.isAgg67
  z72 := Tryd.sizeOf67
  v72 := Tryd.zeroValue67
  t75 := Tryd.underlying70
  a75 := Tryd.isAgg70
  z75 := Tryd.sizeOf70
  v75 := Tryd.zeroValue70
  t76 := Tryd.underlying71
  a76 := Tryd.isAgg71
  z76 := Tryd.sizeOf71
  v76 := Tryd.zeroValue71
  t127 := Tryd.underlying122
  a127 := Tryd.isAgg122
  z127 := Tryd.sizeOf122
  v127 := Tryd.zeroValue122
  t164 := Tryd.underlying142
  a164 := Tryd.isAgg142
  z164 := Tryd.sizeOf142
  v164 := Tryd.zeroValue142
theorem joinExtra : Builder.Extra Tryd.prog joinLay_ren where
  sizeBuilder := by kernel_rfl
  liesBuilder := by kernel_rfl
  t5 := Tryd.underlying5
  a5 := Tryd.isAgg5
  z5 := Tryd.sizeOf5
  v5 := Tryd.zeroValue5
  infoByte := by kernel_rfl
  cellsByte := by kernel_rfl
  sizeByte := by kernel_rfl
  neB5 := by decide
/-- strings.Join -/
theorem join_any (bk o c : Nat) (xs : List ByteArray) (sep : ByteArray) (w : World)
    (hcells : ∀ (j : Nat) x, xs[j]? = some x → w.cell? ⟨bk, o + j, none⟩ = some (.string x))
    (hbk : bk < w.heap.size) (hN : xs.length ≤ 140737488355328) (hcap : xs.length ≤ c)
    (hlen : (Lib.join (xs.map (·.data.toList)) sep.data.toList).length ≤ 140737488355328) :
    Calls Tryd.prog 52 #[.slice (some ⟨bk, o, none⟩) xs.length c, .string sep] w fun e w' => e = .returned (.string ⟨(Lib.join (xs.map (·.data.toList)) sep.data.toList).toArray⟩) ∧ Ext w w' :=
  Any.strings_Join joinLay joinExtra bk o c xs sep w hcells hbk hN hcap hlen
end Go.Proofs.YtleckhbmciiooaaDoor
namespace Go.Proofs.YtleckhbmciiooaaDoor
open Go.RowKit Go.ChangeShapes Go.WideShapes Go.ChangeAt Go.Deep

theorem str_info : (Tryd.prog.info? 9).map (fun i => (i.zero, i.size, i.bytes)) = some (some (.string ⟨#[]⟩), 1, 16) := by kernel_rfl
def txV (l : List Txt) : List Value := l.map txS
theorem txV_snoc (l : List Txt) (a : Txt) : txV (l ++ [a]) = txV l ++ [txS a] := by unfold txV; rw [List.map_append]; rfl
/-- strings.Join of a slice of the call's own -/
theorem join_own (base : Nat) (A : Option Addr) (c : Nat) (l : List Txt) (s : Txt) (w : World) (h : OwV w base 9 1 A l.length c (txV l)) (h0 : l ≠ []) (hn : l.length ≤ 1000) (hlen : (Lib.join l s).length ≤ 140737488355328) :
    Calls Tryd.prog 52 #[.slice A l.length c, .string ⟨s.toArray⟩] w fun e w' => e = .returned (txS (Lib.join l s)) ∧ Ext w w' := by
  have hr := h.read.rdC
  have hle := h.le
  rcases hr with e | ⟨b, off, rfl, hlt, hc⟩
  · exact absurd (List.map_eq_nil_iff.1 e) h0
  · have e1 : (l.map fun t : Txt => (⟨t.toArray⟩ : ByteArray)).map (·.data.toList) = l := by
      rw [List.map_map]
      exact (List.map_congr_left fun t _ => by simp).trans (List.map_id l)
    have J := join_any b off c (l.map fun t : Txt => (⟨t.toArray⟩ : ByteArray)) ⟨s.toArray⟩ w (fun j x hj => by
      rw [List.getElem?_map] at hj
      obtain ⟨t, ht, rfl⟩ := Option.map_eq_some_iff.1 hj
      refine hc j _ ?_
      unfold txV
      rw [List.getElem?_map, ht]
      rfl) hlt (by rw [List.length_map]; omega) (by rw [List.length_map]; exact hle.1) (by rw [e1]; simpa using hlen)
    rw [e1, List.length_map] at J
    refine J.mono ?_
    rintro e w' ⟨rfl, x⟩
    exact ⟨by simp [txS], x⟩
set_option maxRecDepth 100000 in
set_option maxHeartbeats 2000000 in
theorem words3_any (i : InstP) (us : List Value) (P : Option Addr) (c : Nat) (x : List Int) (w : World) (H : RInst w us i) (hP : RdI w P x) (hT : Ten w) (hk : i.kind = 3) (hl : x.length ≤ 64) (hx : ∀ y ∈ x, 0 ≤ y ∧ y ≤ 1000) (hJ : (wordsP 3 x).length ≤ 10000) :
    Calls Tryd.prog 45 #[.agg (List.toArray us), .slice P x.length c] w fun e w' => e = .returned (txS (wordsP 3 x)) ∧ Ext w w' := by
  obtain ⟨i0, hi, hz0, hz1, hz2⟩ := info_parts str_info
  have WE : Hid (wordsP 3 x = Lib.join (piecesT x x.length ++ [[48]]) tWay) := by
    have h : wordsP 3 x = Lib.join (piecesT x x.length ++ [[48]]) tWay := by unfold wordsP; rw [if_neg (by decide), if_neg (by decide)]
    exact h
  have WD := fun (W : World) (y : Ext w W) (n : Int) (h : 0 ≤ n ∧ n ≤ 1000) => write_any n (by omega) (by omega) W (hT.ext y)
  have PS : Hid (∀ k, piecesT x (k + 1) = piecesT x k ++ [Lib.itoa (x.getD k 0)]) := fun k => piecesT_succ x k
  have PL : Hid (∀ k, (piecesT x k).length = k) := fun k => by unfold piecesT; rw [List.length_map, List.length_range]
  obtain ⟨kind, nn, cap, xw, xv, co⟩ := i
  obtain ⟨A, a, B, b, D, d, rfl, -, -, -⟩ := H
  simp only at *
  subst hk
  replace hi := Lib.hid hi
  replace hz0 := Lib.hid hz0
  replace hz1 := Lib.hid hz1
  replace hz2 := Lib.hid hz2
  replace WD := Lib.hid WD
  replace hP := Lib.hid hP
  replace hx := Lib.hid hx
  replace hJ := Lib.hid hJ
  clear hT
  have START : Hid (OwV (w.alloc (.cells #[.int .i64 3, .int .i64 nn, .int .i64 cap, .slice A xw.length a, .slice B xv.length b, .slice D co.length d] 25)) w.heap.size 9 1 none 0 0 (txV (piecesT x 0))) := OwV.nil _ _ _ _
  unfold txS at *
  go_enter Tryd.func45, Tryd.ntmps45
  go_wp2_with (fail)
  go_loopw [5, 59] (fun v5 v59 wr => ∃ (k : Nat) (C' : Option Addr) (cc : Nat), v59 = .int .i64 k ∧ v5 = .slice C' k cc ∧ k ≤ x.length ∧ Hid (OwV wr w.heap.size 9 1 C' k cc (txV (piecesT x k))) ∧ Hid (Ext w wr)) (fun _ v _ => x.length - (intOf v).toNat)
  case atStart => exact ⟨0, none, 0, rfl, rfl, by omega, START, by (repeat (first | assumption | exact Ext.rf _ | apply Ext.drew | apply Ext.drewN | apply Ext.alloc))⟩
  case round =>
    obtain ⟨wo, rfl⟩ : ∃ wo : World, wo = wr := ⟨_, rfl⟩
    clear START
    obtain ⟨k, C', cc, rfl, rfl, hk, oV, Y⟩ := hrel
    have hk64 : k ≤ 64 := by omega
    have zw := Y.out.size
    by_cases hlt : k < x.length
    · obtain ⟨pb, po, y, rfl, zy, cy, ey, _⟩ := (hP.out.ext Y.out).at (k := k) hlt
      have q1 : (k : Int) < (x.length : Int) := by omega
      have yb := hx.out y (List.mem_of_getElem? ey.out)
      have PE : Hid (txV (piecesT x (k + 1)) = txV (piecesT x k) ++ [txS (Lib.itoa y)]) := by
        have h : txV (piecesT x (k + 1)) = txV (piecesT x k) ++ [txS (Lib.itoa y)] := by rw [PS.out, getD_some ey.out, txV_snoc]
        exact h
      clear ey
      go_wp2_with (fail)
      refine (WD.out _ (Y.out.tr (by (repeat (first | assumption | exact Ext.rf _ | apply Ext.drew | apply Ext.drewN | apply Ext.alloc)))) y yb).mono ?_
      rintro e w5 ⟨rfl, x5⟩
      have oV5 := oV.out.ext (Ext.tr (a := wo) (by (repeat (first | assumption | exact Ext.rf _ | apply Ext.drew | apply Ext.drewN | apply Ext.alloc))) x5)
      have x5' := Ext.tr (a := wo) (by (repeat (first | assumption | exact Ext.rf _ | apply Ext.drew | apply Ext.drewN | apply Ext.alloc))) x5
      have zw5 := x5'.size
      go_wp2_with (at_builtin; refine wpl_app_v _ (e := 9) Tryd.underlying63 hi.out hz0.out hz1.out hz2.out (by simp [Value.cells]) (by omega) rfl _ _ rfl w.heap.size C' k cc (txV (piecesT x k)) (some ⟨w5.heap.size, 0, none⟩) 1 1 [txS (Lib.itoa y)] rfl rfl (oV5.ext ((Ext.rf _).alloc _)) (RdV.blk (.new (by simp))).rdC (by simp) (by simp [Value.oneCell', txS]) (by simp only [maxLen]; omega) (by omega) (by simp; omega) ?_; rintro C6 c6 w6 o6 g6 _)
      have M6 := (oV5.ext ((Ext.rf w5).alloc (.cells #[txS (Lib.itoa y)] 9))).grownT g6
      have X6 : Ext wo (w5.alloc (.cells #[txS (Lib.itoa y)] 9)) := x5'.tr ((Ext.rf _).alloc _)
      have NEW : Hid (OwV w6 w.heap.size 9 1 C6 (k + 1) c6 (txV (piecesT x (k + 1)))) := by
        have h : OwV w6 w.heap.size 9 1 C6 (k + 1) c6 (txV (piecesT x (k + 1))) := by rw [PE.out]; exact o6
        exact h
      have XN : Hid (Ext w w6) := (Y.out.tr X6).modT M6 (Nat.le_refl _)
      clear oV5 x5 x5' o6 g6 M6 X6
      go_wp2_with (fail)
      go_roundw
      case rel => exact ⟨k + 1, C6, c6, by go_num, rfl, by omega, NEW, XN⟩
      case measure => simp [intOf]; omega
    · obtain rfl : k = x.length := by omega
      have PN : Hid (txV (piecesT x x.length ++ [[48]]) = txV (piecesT x x.length) ++ [txS [48]]) := by
        have h : txV (piecesT x x.length ++ [[48]]) = txV (piecesT x x.length) ++ [txS [48]] := txV_snoc _ _
        exact h
      have LN : Hid ((piecesT x x.length ++ [[48]]).length = x.length + 1) := by
        have h : (piecesT x x.length ++ [[48]]).length = x.length + 1 := by rw [List.length_append, PL.out]; rfl
        exact h
      go_wp2_with (at_builtin; refine wpl_app_v _ (e := 9) Tryd.underlying63 hi.out hz0.out hz1.out hz2.out (by simp [Value.cells]) (by omega) rfl _ _ rfl w.heap.size C' x.length cc (txV (piecesT x x.length)) (some ⟨wo.heap.size, 0, none⟩) 1 1 [txS [48]] rfl rfl (oV.out.ext ((Ext.rf _).alloc _)) (RdV.blk (.new (by simp))).rdC (by simp) (by simp [Value.oneCell', txS]) (by simp only [maxLen]; omega) (by omega) (by simp; omega) ?_; rintro C6 c6 w6 o6 g6 _)
      have M6 := (oV.out.ext ((Ext.rf wo).alloc (.cells #[txS [48]] 9))).grownT g6
      have X6 : Ext wo (wo.alloc (.cells #[txS [48]] 9)) := (Ext.rf _).alloc _
      have XN : Hid (Ext w w6) := (Y.out.tr X6).modT M6 (Nat.le_refl _)
      have NEW : OwV w6 w.heap.size 9 1 C6 (piecesT x x.length ++ [[48]]).length c6 (txV (piecesT x x.length ++ [[48]])) := by
        rw [PN.out, LN.out]
        exact o6
      have J := join_own w.heap.size C6 c6 (piecesT x x.length ++ [[48]]) tWay w6 NEW (by simp) (by rw [LN.out]; omega) (by rw [← WE.out]; have := hJ.out; omega)
      rw [LN.out, ← WE.out] at J
      replace J := Lib.hid J
      clear M6 X6 o6 g6 NEW
      go_wp2_with (fail)
      refine J.out.mono ?_
      rintro e w7 ⟨rfl, x7⟩
      have X7 := Lib.hid (XN.out.tr x7)
      clear x7 J
      go_wp2_with (fail)
      go_ret
      exact ⟨rfl, X7.out⟩
end Go.Proofs.YtleckhbmciiooaaDoor
namespace Go.Proofs.YtleckhbmciiooaaDoor
open Go.RowKit Go.ChangeShapes Go.WideShapes Go.ChangeAt Go.Deep

set_option maxRecDepth 100000 in
set_option maxHeartbeats 2000000 in
theorem words1_any (i : InstP) (us : List Value) (P : Option Addr) (c : Nat) (x : List Int) (w : World) (H : RInst w us i) (hP : RdI w P x) (hT : Ten w) (hk : i.kind = 1) (hl : x.length ≤ 64) (hx : ∀ y ∈ x, 0 ≤ y ∧ y ≤ 1000) (hJ : (wordsP 1 x).length ≤ 10000) :
    Calls Tryd.prog 45 #[.agg (List.toArray us), .slice P x.length c] w fun e w' => e = .returned (txS (wordsP 1 x)) ∧ Ext w w' := by
  obtain ⟨i0, hi, hz0, hz1, hz2⟩ := info_parts str_info
  have WE : Hid (wordsP 1 x = Lib.join (tTake :: piecesK x x.length) [32]) := by
    have h : wordsP 1 x = Lib.join (tTake :: piecesK x x.length) [32] := by unfold wordsP; rw [if_pos rfl]
    exact h
  have WD := fun (W : World) (y : Ext w W) (n : Int) (h : 0 ≤ n ∧ n ≤ 1000) => write_any n (by omega) (by omega) W (hT.ext y)
  have PS : Hid (∀ k, x.getD k 0 = 1 → tTake :: piecesK x (k + 1) = (tTake :: piecesK x k) ++ [Lib.itoa (k : Int)]) := fun k h => by rw [piecesK_succ, if_pos h]; rfl
  have PN : Hid (∀ k, x.getD k 0 ≠ 1 → piecesK x (k + 1) = piecesK x k) := fun k h => by rw [piecesK_succ, if_neg h]
  have PZ : Hid (tTake :: piecesK x 0 = [tTake]) := by
    have h : tTake :: piecesK x 0 = [tTake] := rfl
    exact h
  obtain ⟨kind, nn, cap, xw, xv, co⟩ := i
  obtain ⟨A, a, B, b, D, d, rfl, -, -, -⟩ := H
  simp only at *
  subst hk
  replace hi := Lib.hid hi
  replace hz0 := Lib.hid hz0
  replace hz1 := Lib.hid hz1
  replace hz2 := Lib.hid hz2
  replace WD := Lib.hid WD
  replace hP := Lib.hid hP
  replace hx := Lib.hid hx
  replace hJ := Lib.hid hJ
  clear hT
  unfold txS at *
  go_enter Tryd.func45, Tryd.ntmps45
  go_wp2_with (at_builtin; refine wpl_app_v _ (e := 9) Tryd.underlying63 hi.out hz0.out hz1.out hz2.out (by simp [Value.cells]) (by omega) rfl _ _ rfl w.heap.size none 0 0 [] (some ⟨w.heap.size + 1, 0, none⟩) 1 1 [txS tTake] rfl rfl (OwV.nil _ _ _ _) (RdV.blk (.new (by simp))).rdC (by simp) (by simp [Value.oneCell', txS]) (by simp only [maxLen]; omega) (by omega) (by simp; omega) ?_; rintro C0 c0 w0 o0 g0 _)
  have M0 := (OwV.nil _ w.heap.size 9 1).grownT g0
  have START : Hid (OwV w0 w.heap.size 9 1 C0 1 c0 (txV (tTake :: piecesK x 0))) := by
    have h : OwV w0 w.heap.size 9 1 C0 1 c0 (txV (tTake :: piecesK x 0)) := by rw [PZ.out]; exact o0
    exact h
  have XS : Hid (Ext w w0) := Ext.modT (by (repeat (first | assumption | exact Ext.rf _ | apply Ext.drew | apply Ext.drewN | apply Ext.alloc))) M0 (Nat.le_refl _)
  clear o0 g0 M0
  go_wp2_with (fail)
  go_loopw [5, 21] (fun v5 v21 wr => ∃ (k n : Nat) (C' : Option Addr) (cc : Nat), v21 = .int .i64 k ∧ v5 = .slice C' n cc ∧ k ≤ x.length ∧ n ≤ k + 1 ∧ Hid ((tTake :: piecesK x k).length = n) ∧ Hid (OwV wr w.heap.size 9 1 C' n cc (txV (tTake :: piecesK x k))) ∧ Hid (Ext w wr)) (fun _ v _ => x.length - (intOf v).toNat)
  case atStart => exact ⟨0, 1, C0, c0, rfl, rfl, by omega, by omega, rfl, START, XS.out⟩
  case round =>
    obtain ⟨wo, rfl⟩ : ∃ wo : World, wo = wr := ⟨_, rfl⟩
    clear START
    obtain ⟨k, n, C', cc, rfl, rfl, hk, hn, LN, oV, Y⟩ := hrel
    have hk64 : k ≤ 64 := by omega
    have zw := Y.out.size
    by_cases hlt : k < x.length
    · obtain ⟨pb, po, y, rfl, zy, cy, ey, _⟩ := (hP.out.ext Y.out).at (k := k) hlt
      have q1 : (k : Int) < (x.length : Int) := by omega
      by_cases hy : y = 1
      · subst hy
        have PE : Hid (tTake :: piecesK x (k + 1) = (tTake :: piecesK x k) ++ [Lib.itoa (k : Int)]) := by
          have h : tTake :: piecesK x (k + 1) = (tTake :: piecesK x k) ++ [Lib.itoa (k : Int)] := PS.out k (getD_some ey.out)
          exact h
        clear ey
        go_wp2_with (fail)
        refine (WD.out _ (Y.out.tr (by (repeat (first | assumption | exact Ext.rf _ | apply Ext.drew | apply Ext.drewN | apply Ext.alloc)))) (k : Int) (by omega)).mono ?_
        rintro e w5 ⟨rfl, x5⟩
        have oV5 := oV.out.ext (Ext.tr (a := wo) (by (repeat (first | assumption | exact Ext.rf _ | apply Ext.drew | apply Ext.drewN | apply Ext.alloc))) x5)
        have x5' := Ext.tr (a := wo) (by (repeat (first | assumption | exact Ext.rf _ | apply Ext.drew | apply Ext.drewN | apply Ext.alloc))) x5
        have zw5 := x5'.size
        go_wp2_with (at_builtin; refine wpl_app_v _ (e := 9) Tryd.underlying63 hi.out hz0.out hz1.out hz2.out (by simp [Value.cells]) (by omega) rfl _ _ rfl w.heap.size C' n cc (txV (tTake :: piecesK x k)) (some ⟨w5.heap.size, 0, none⟩) 1 1 [txS (Lib.itoa (k : Int))] rfl rfl (oV5.ext ((Ext.rf _).alloc _)) (RdV.blk (.new (by simp))).rdC (by simp) (by simp [Value.oneCell', txS]) (by simp only [maxLen]; omega) (by omega) (by simp; omega) ?_; rintro C6 c6 w6 o6 g6 _)
        have M6 := (oV5.ext ((Ext.rf w5).alloc (.cells #[txS (Lib.itoa (k : Int))] 9))).grownT g6
        have X6 : Ext wo (w5.alloc (.cells #[txS (Lib.itoa (k : Int))] 9)) := x5'.tr ((Ext.rf _).alloc _)
        have NEW : Hid (OwV w6 w.heap.size 9 1 C6 (n + 1) c6 (txV (tTake :: piecesK x (k + 1)))) := by
          have h : OwV w6 w.heap.size 9 1 C6 (n + 1) c6 (txV (tTake :: piecesK x (k + 1))) := by rw [PE.out, txV_snoc]; exact o6
          exact h
        have NL : Hid ((tTake :: piecesK x (k + 1)).length = n + 1) := by
          have h : (tTake :: piecesK x (k + 1)).length = n + 1 := by rw [PE.out, List.length_append, LN.out]; rfl
          exact h
        have XN : Hid (Ext w w6) := (Y.out.tr X6).modT M6 (Nat.le_refl _)
        clear oV5 x5 x5' o6 g6 M6 X6
        go_wp2_with (fail)
        go_roundw
        case rel => exact ⟨k + 1, n + 1, C6, c6, by go_num, rfl, by omega, by omega, NL, NEW, XN⟩
        case measure => simp [intOf]; omega
      · have PE : Hid (piecesK x (k + 1) = piecesK x k) := by
          have h : piecesK x (k + 1) = piecesK x k := PN.out k (by rw [getD_some ey.out]; exact hy)
          exact h
        have e2 : (y == 1) = false := by simpa using hy
        clear ey
        go_wp2_with (fail)
        go_roundw
        case rel => exact ⟨k + 1, n, C', cc, by go_num, rfl, by omega, by omega, by rw [PE.out]; exact LN, by rw [PE.out]; exact oV, Y⟩
        case measure => simp [intOf]; omega
    · obtain rfl : k = x.length := by omega
      have J := join_own w.heap.size C' cc (tTake :: piecesK x x.length) [32] wo (by rw [LN.out]; exact oV.out) (by simp) (by rw [LN.out]; omega) (by rw [← WE.out]; have := hJ.out; omega)
      rw [LN.out, ← WE.out] at J
      replace J := Lib.hid J
      go_wp2_with (fail)
      refine J.out.mono ?_
      rintro e w7 ⟨rfl, x7⟩
      have X7 := Lib.hid (Y.out.tr x7)
      clear x7 J
      go_wp2_with (fail)
      go_ret
      exact ⟨rfl, X7.out⟩
end Go.Proofs.YtleckhbmciiooaaDoor
namespace Go.Proofs.YtleckhbmciiooaaDoor
open Go.RowKit Go.ChangeShapes Go.WideShapes Go.ChangeAt Go.Deep

set_option maxRecDepth 100000 in
set_option maxHeartbeats 2000000 in
theorem words2_any (i : InstP) (us : List Value) (P : Option Addr) (c : Nat) (x : List Int) (w : World) (H : RInst w us i) (hP : RdI w P x) (hT : Ten w) (hk : i.kind = 2) (hl : x.length ≤ 64) (h0 : x ≠ []) (hx : ∀ y ∈ x, 0 ≤ y ∧ y ≤ 1000) (hJ : (wordsP 2 x).length ≤ 10000) :
    Calls Tryd.prog 45 #[.agg (List.toArray us), .slice P x.length c] w fun e w' => e = .returned (txS (wordsP 2 x)) ∧ Ext w w' := by
  obtain ⟨i0, hi, hz0, hz1, hz2⟩ := info_parts str_info
  have WE : Hid (wordsP 2 x = Lib.join (piecesA x x.length) tSemi) := by
    have h : wordsP 2 x = Lib.join (piecesA x x.length) tSemi := by unfold wordsP; rw [if_neg (by decide), if_pos rfl]
    exact h
  have WD := fun (W : World) (y : Ext w W) (n : Int) (h : 0 ≤ n ∧ n ≤ 1000) => write_any n (by omega) (by omega) W (hT.ext y)
  have PS : Hid (∀ k, piecesA x (k + 1) = piecesA x k ++ [Lib.itoa (k : Int) ++ tTo ++ Lib.itoa (x.getD k 0)]) := fun k => piecesA_succ x k
  have PL : Hid (∀ k, (piecesA x k).length = k) := fun k => by unfold piecesA; rw [List.length_map, List.length_range]
  obtain ⟨kind, nn, cap, xw, xv, co⟩ := i
  obtain ⟨A, a, B, b, D, d, rfl, -, -, -⟩ := H
  simp only at *
  subst hk
  replace hi := Lib.hid hi
  replace hz0 := Lib.hid hz0
  replace hz1 := Lib.hid hz1
  replace hz2 := Lib.hid hz2
  replace WD := Lib.hid WD
  replace hP := Lib.hid hP
  replace hx := Lib.hid hx
  replace hJ := Lib.hid hJ
  clear hT
  have START : Hid (OwV (w.alloc (.cells #[.int .i64 2, .int .i64 nn, .int .i64 cap, .slice A xw.length a, .slice B xv.length b, .slice D co.length d] 25)) w.heap.size 9 1 none 0 0 (txV (piecesA x 0))) := OwV.nil _ _ _ _
  unfold txS at *
  go_enter Tryd.func45, Tryd.ntmps45
  go_wp2_with (fail)
  go_loopw [5, 40] (fun v5 v59 wr => ∃ (k : Nat) (C' : Option Addr) (cc : Nat), v59 = .int .i64 k ∧ v5 = .slice C' k cc ∧ k ≤ x.length ∧ Hid (OwV wr w.heap.size 9 1 C' k cc (txV (piecesA x k))) ∧ Hid (Ext w wr)) (fun _ v _ => x.length - (intOf v).toNat)
  case atStart => exact ⟨0, none, 0, rfl, rfl, by omega, START, by (repeat (first | assumption | exact Ext.rf _ | apply Ext.drew | apply Ext.drewN | apply Ext.alloc))⟩
  case round =>
    obtain ⟨wo, rfl⟩ : ∃ wo : World, wo = wr := ⟨_, rfl⟩
    clear START
    obtain ⟨k, C', cc, rfl, rfl, hk, oV, Y⟩ := hrel
    have hk64 : k ≤ 64 := by omega
    have zw := Y.out.size
    by_cases hlt : k < x.length
    · obtain ⟨pb, po, y, rfl, zy, cy, ey, _⟩ := (hP.out.ext Y.out).at (k := k) hlt
      have q1 : (k : Int) < (x.length : Int) := by omega
      have yb := hx.out y (List.mem_of_getElem? ey.out)
      have li := itoa_le y (by omega)
      have lj := itoa_le (k : Int) (by omega)
      have RK := Lib.hid (fun (W : World) (z : Ext w W) => WD.out W z (k : Int) (by omega))
      have RY := Lib.hid (fun (W : World) (z : Ext w W) => WD.out W z y yb)
      obtain ⟨tk, hek⟩ : ∃ tk, Hid (Lib.itoa (k : Int) = tk) := ⟨_, rfl⟩
      obtain ⟨ty, hey⟩ : ∃ ty, Hid (Lib.itoa y = ty) := ⟨_, rfl⟩
      have PE : Hid (txV (piecesA x (k + 1)) = txV (piecesA x k) ++ [txS (tk ++ tTo ++ ty)]) := by
        have h : txV (piecesA x (k + 1)) = txV (piecesA x k) ++ [txS (tk ++ tTo ++ ty)] := by rw [PS.out, getD_some ey.out, txV_snoc, hek.out, hey.out]
        exact h
      rw [hek.out] at lj RK
      rw [hey.out] at li RY
      have ll4 : ¬ 9223372036854775807 < tk.length + 4 := by omega
      have ll5 : ¬ 9223372036854775807 < tk.length + 4 + ty.length := by omega
      have ES : (⟨tk.toArray⟩ : ByteArray) ++ ⟨#[32, 116, 111, 32]⟩ ++ ⟨ty.toArray⟩ = ⟨(tk ++ tTo ++ ty).toArray⟩ := by
        rw [show (⟨#[32, 116, 111, 32]⟩ : ByteArray) = ⟨(tTo : Txt).toArray⟩ from rfl, bytes_app, bytes_app]
      clear ey yb li lj hek hey
      replace ES := Lib.hid ES
      go_wp2_with (fail)
      refine (RK.out _ (Y.out.tr (by (repeat (first | assumption | exact Ext.rf _ | apply Ext.drew | apply Ext.drewN | apply Ext.alloc))))).mono ?_
      rintro e w4 ⟨rfl, x4⟩
      have x4' := Ext.tr (a := wo) (by (repeat (first | assumption | exact Ext.rf _ | apply Ext.drew | apply Ext.drewN | apply Ext.alloc))) x4
      go_wp2_with (fail)
      refine (RY.out _ (Y.out.tr (x4'.tr (by (repeat (first | assumption | exact Ext.rf _ | apply Ext.drew | apply Ext.drewN | apply Ext.alloc)))))).mono ?_
      rintro e w5 ⟨rfl, x5⟩
      replace x5 := x4'.tr (Ext.tr (by (repeat (first | assumption | exact Ext.rf _ | apply Ext.drew | apply Ext.drewN | apply Ext.alloc))) x5)
      clear x4 x4'
      have oV5 := oV.out.ext x5
      have x5' := x5
      have zw5 := x5'.size
      go_wp2_with (at_builtin; refine wpl_app_v _ (e := 9) Tryd.underlying63 hi.out hz0.out hz1.out hz2.out (by simp [Value.cells]) (by omega) rfl _ _ rfl w.heap.size C' k cc (txV (piecesA x k)) (some ⟨w5.heap.size, 0, none⟩) 1 1 [.string ((⟨tk.toArray⟩ : ByteArray) ++ ⟨#[32, 116, 111, 32]⟩ ++ ⟨ty.toArray⟩)] rfl rfl (oV5.ext ((Ext.rf _).alloc _)) (RdV.blk (.new (by simp))).rdC (by simp) (by simp [Value.oneCell', txS]) (by simp only [maxLen]; omega) (by omega) (by simp; omega) ?_; rintro C6 c6 w6 o6 g6 _)
      have M6 := (oV5.ext ((Ext.rf w5).alloc (.cells #[.string ((⟨tk.toArray⟩ : ByteArray) ++ ⟨#[32, 116, 111, 32]⟩ ++ ⟨ty.toArray⟩)] 9))).grownT g6
      have X6 : Ext wo (w5.alloc (.cells #[.string ((⟨tk.toArray⟩ : ByteArray) ++ ⟨#[32, 116, 111, 32]⟩ ++ ⟨ty.toArray⟩)] 9)) := x5'.tr ((Ext.rf _).alloc _)
      have NEW : Hid (OwV w6 w.heap.size 9 1 C6 (k + 1) c6 (txV (piecesA x (k + 1)))) := by
        have h : OwV w6 w.heap.size 9 1 C6 (k + 1) c6 (txV (piecesA x (k + 1))) := by rw [PE.out, txS, ← ES.out]; exact o6
        exact h
      have XN : Hid (Ext w w6) := (Y.out.tr X6).modT M6 (Nat.le_refl _)
      clear oV5 x5 x5' o6 g6 M6 X6
      go_wp2_with (fail)
      go_roundw
      case rel => exact ⟨k + 1, C6, c6, by go_num, rfl, by omega, NEW, XN⟩
      case measure => simp [intOf]; omega
    · obtain rfl : k = x.length := by omega
      have J := join_own w.heap.size C' cc (piecesA x x.length) tSemi wo (by rw [PL.out]; exact oV.out) (by
        intro e
        have h := PL.out x.length
        rw [e] at h
        exact h0 (List.eq_nil_of_length_eq_zero h.symm)) (by rw [PL.out]; omega) (by rw [← WE.out]; have := hJ.out; omega)
      rw [PL.out, ← WE.out] at J
      replace J := Lib.hid J
      go_wp2_with (fail)
      refine J.out.mono ?_
      rintro e w7 ⟨rfl, x7⟩
      have X7 := Lib.hid (Y.out.tr x7)
      clear x7 J
      go_wp2_with (fail)
      go_ret
      exact ⟨rfl, X7.out⟩
end Go.Proofs.YtleckhbmciiooaaDoor
namespace Go.Proofs.YtleckhbmciiooaaDoor
open Go.RowKit Go.ChangeShapes Go.WideShapes Go.ChangeAt Go.Deep

theorem shown_any (i : InstP) (us : List Value) (P : Option Addr) (c : Nat) (x : List Int) (w : World) (H : RInst w us i) (hP : RdI w P x) (hT : Ten w) (hx : x.length ≤ 1000) (hlw : i.weight.length ≤ maxLen) (hlv : i.value.length ≤ maxLen) (hls : i.weight.length + i.value.length ≤ maxLen) :
    Calls Tryd.prog 15 #[.agg (List.toArray us), .slice P x.length c] w fun e w' => e = .returned (.tuple #[txS (ansG i x).1, .int .i64 (ansG i x).2]) ∧ Ext w w' := by
  have WL : (costG i x).2 = 0 → (wordsP i.kind x).length ≤ 10000 := fun h => by
    have A := ans_is h
    exact wordsP_len (check_kind A.chk) A.n64 A.rng
  refine show_any i us P c x w H hP hT hx hlw hlv hls (fun h W y => ?_) WL
  have A := ans_is h
  have L := WL h
  rcases check_kind A.chk with hk | hk | hk
  · rw [hk] at L ⊢
    exact words1_any i us P c x W (H.ext y) (hP.ext y) (hT.ext y) hk A.n64 A.rng L
  · rw [hk] at L ⊢
    refine words2_any i us P c x W (H.ext y) (hP.ext y) (hT.ext y) hk A.n64 ?_ A.rng L
    intro h0
    have h1 := A.len
    have h2 := (square_ok A.chk (by omega : i.kind ≠ 1)).n1
    rw [h0] at h1
    simp at h1
    omega
  · rw [hk] at L ⊢
    exact words3_any i us P c x W (H.ext y) (hP.ext y) (hT.ext y) hk A.n64 A.rng L
end Go.Proofs.YtleckhbmciiooaaDoor
namespace Go.Proofs.YtleckhbmciiooaaDoor
open Go.RowKit Go.ChangeShapes Go.WideShapes Go.ChangeAt Go.Deep

def exS : InstP := ⟨3, 3, 0, [], [], [[0, 1, 2], [3, 0, 4], [5, 2, 0]]⟩
theorem exS_ans : ansG exS [0, 2, 1] = ([48, 32, 62, 32, 50, 32, 62, 32, 49, 32, 62, 32, 48, 58, 32, 55, 10], 0) := by
  have hd : ∀ k : Nat, k < 10 → Lib.itoa (k : Int) = [UInt8.ofNat (48 + k)] := fun k hk => by
    unfold Lib.itoa
    rw [if_neg (by omega), Lib.decDigits, dif_pos (by omega)]
    rfl
  have h0 : Lib.itoa (0 : Int) = [48] := hd 0 (by omega)
  have h1 : Lib.itoa (1 : Int) = [49] := hd 1 (by omega)
  have h2 : Lib.itoa (2 : Int) = [50] := hd 2 (by omega)
  have h7 : Lib.itoa (7 : Int) = [55] := hd 7 (by omega)
  have hc : costG exS [0, 2, 1] = (7, 0) := by decide +kernel
  unfold ansG
  rw [hc]
  rw [if_pos rfl]
  have ho : ofG exS 7 = 7 := by decide
  simp only [ho]
  unfold wordsE
  rw [if_pos (show exS.kind = 3 from rfl)]
  simp only [wordsR, List.length_cons, List.length_nil, exS, List.getD, Nat.reduceAdd]
  simp [wordsR, List.getD, tWay, tAt, h0, h1, h2, h7]
theorem row_blk3' {w : World} {b : Nat} {x y v : Int} {c : Nat} (h : Blk w b 3 #[.int .i64 x, .int .i64 y, .int .i64 v]) (hb : ∀ z ∈ [x, y, v], -9223372036854775808 ≤ z ∧ z ≤ 9223372036854775807) (hc : 3 ≤ c) (hm : c ≤ maxLen) : RInts w [.slice (some ⟨b, 0, none⟩) 3 c] [x, y, v] :=
  ⟨some ⟨b, 0, none⟩, c, rfl, .blk h rfl, hb, hc, hm⟩
set_option maxRecDepth 100000 in
theorem exS_rinst (w w1 : World) (b0 : Blk w1 w.heap.size 3 #[.int .i64 0, .int .i64 1, .int .i64 2]) (b1 : Blk w1 (w.heap.size + 1) 3 #[.int .i64 3, .int .i64 0, .int .i64 4]) (b2 : Blk w1 (w.heap.size + 1 + 1) 3 #[.int .i64 5, .int .i64 2, .int .i64 0])
    (b3 : Blk w1 (w.heap.size + 1 + 1 + 1) 22 #[.slice (some ⟨w.heap.size, 0, none⟩) 3 3, .slice (some ⟨w.heap.size + 1, 0, none⟩) 3 3, .slice (some ⟨w.heap.size + 1 + 1, 0, none⟩) 3 3]) :
    RInst w1 [.int .i64 3, .int .i64 3, .int .i64 0, .slice none 0 0, .slice none 0 0, .slice (some ⟨w.heap.size + 1 + 1 + 1, 0, none⟩) 3 3] exS := by
  have hz : 3 ≤ maxLen := by simp [maxLen]
  refine ⟨none, 0, none, 0, some ⟨w.heap.size + 1 + 1 + 1, 0, none⟩, 3, rfl, ⟨.inl rfl, Ints.nil, by simp [exS], zero_le_maxLen⟩, ⟨.inl rfl, Ints.nil, by simp [exS], zero_le_maxLen⟩, ⟨.inr ⟨_, 0, rfl, b3.lt, ?_⟩, by simp [exS], hz⟩⟩
  intro i x hi
  match i, hi with
  | 0, hi =>
    simp [exS] at hi
    subst hi
    refine ⟨_, row_blk3' b0 (by intro z hz; simp at hz; omega) (Nat.le_refl 3) hz, rfl, fun j v hj => ?_⟩
    match j, hj with
    | 0, hj => rw [b3.cell]; simp at hj; subst hj; rfl
  | 1, hi =>
    simp [exS] at hi
    subst hi
    refine ⟨_, row_blk3' b1 (by intro z hz; simp at hz; omega) (Nat.le_refl 3) hz, rfl, fun j v hj => ?_⟩
    match j, hj with
    | 0, hj => rw [b3.cell]; simp at hj; subst hj; rfl
  | 2, hi =>
    simp [exS] at hi
    subst hi
    refine ⟨_, row_blk3' b2 (by intro z hz; simp at hz; omega) (Nat.le_refl 3) hz, rfl, fun j v hj => ?_⟩
    match j, hj with
    | 0, hj => rw [b3.cell]; simp at hj; subst hj; rfl
  | i + 3, hi => simp [exS] at hi
set_option maxRecDepth 100000 in
set_option maxHeartbeats 2000000 in
theorem shows_any (w : World) (hT : Ten w) : Calls Tryd.prog 17 #[] w fun e w' => e = .returned (.bool true) ∧ Ext w w' := by
  have AN := fun (us : List Value) (P : Option Addr) (c : Nat) (W : World) (x : Ext w W) (H : RInst W us exS) (hP : RdI W P [0, 2, 1]) => shown_any exS us P c [0, 2, 1] W H hP (hT.ext x) (by decide) (by decide) (by decide) (by decide)
  rw [exS_ans] at AN
  unfold txS at AN
  simp only [List.length_cons, List.length_nil, Nat.reduceAdd] at AN
  replace AN := Lib.hid AN
  clear hT
  go_enter Tryd.func17, Tryd.ntmps17
  have b0 : Blk (((((w.alloc (.cells #[.int .i64 0, .int .i64 1, .int .i64 2] 3)).alloc (.cells #[.int .i64 3, .int .i64 0, .int .i64 4] 3)).alloc (.cells #[.int .i64 5, .int .i64 2, .int .i64 0] 3)).alloc (.cells #[.slice (some ⟨w.heap.size, 0, none⟩) 3 3, .slice (some ⟨w.heap.size + 1, 0, none⟩) 3 3, .slice (some ⟨w.heap.size + 1 + 1, 0, none⟩) 3 3] 22)).alloc (.cells #[.int .i64 3, .int .i64 3, .int .i64 0, .slice none 0 0, .slice none 0 0, .slice (some ⟨w.heap.size + 1 + 1 + 1, 0, none⟩) 3 3] 25)) w.heap.size 3 #[.int .i64 0, .int .i64 1, .int .i64 2] := .alloc (.alloc (.alloc (.alloc (.new rfl) _) _) _) _
  have b1 : Blk (((((w.alloc (.cells #[.int .i64 0, .int .i64 1, .int .i64 2] 3)).alloc (.cells #[.int .i64 3, .int .i64 0, .int .i64 4] 3)).alloc (.cells #[.int .i64 5, .int .i64 2, .int .i64 0] 3)).alloc (.cells #[.slice (some ⟨w.heap.size, 0, none⟩) 3 3, .slice (some ⟨w.heap.size + 1, 0, none⟩) 3 3, .slice (some ⟨w.heap.size + 1 + 1, 0, none⟩) 3 3] 22)).alloc (.cells #[.int .i64 3, .int .i64 3, .int .i64 0, .slice none 0 0, .slice none 0 0, .slice (some ⟨w.heap.size + 1 + 1 + 1, 0, none⟩) 3 3] 25)) (w.heap.size + 1) 3 #[.int .i64 3, .int .i64 0, .int .i64 4] := .alloc (.alloc (.alloc (.new (by simp)) _) _) _
  have b2 : Blk (((((w.alloc (.cells #[.int .i64 0, .int .i64 1, .int .i64 2] 3)).alloc (.cells #[.int .i64 3, .int .i64 0, .int .i64 4] 3)).alloc (.cells #[.int .i64 5, .int .i64 2, .int .i64 0] 3)).alloc (.cells #[.slice (some ⟨w.heap.size, 0, none⟩) 3 3, .slice (some ⟨w.heap.size + 1, 0, none⟩) 3 3, .slice (some ⟨w.heap.size + 1 + 1, 0, none⟩) 3 3] 22)).alloc (.cells #[.int .i64 3, .int .i64 3, .int .i64 0, .slice none 0 0, .slice none 0 0, .slice (some ⟨w.heap.size + 1 + 1 + 1, 0, none⟩) 3 3] 25)) (w.heap.size + 1 + 1) 3 #[.int .i64 5, .int .i64 2, .int .i64 0] := .alloc (.alloc (.new (by simp)) _) _
  have b3 : Blk (((((w.alloc (.cells #[.int .i64 0, .int .i64 1, .int .i64 2] 3)).alloc (.cells #[.int .i64 3, .int .i64 0, .int .i64 4] 3)).alloc (.cells #[.int .i64 5, .int .i64 2, .int .i64 0] 3)).alloc (.cells #[.slice (some ⟨w.heap.size, 0, none⟩) 3 3, .slice (some ⟨w.heap.size + 1, 0, none⟩) 3 3, .slice (some ⟨w.heap.size + 1 + 1, 0, none⟩) 3 3] 22)).alloc (.cells #[.int .i64 3, .int .i64 3, .int .i64 0, .slice none 0 0, .slice none 0 0, .slice (some ⟨w.heap.size + 1 + 1 + 1, 0, none⟩) 3 3] 25)) (w.heap.size + 1 + 1 + 1) 22 #[.slice (some ⟨w.heap.size, 0, none⟩) 3 3, .slice (some ⟨w.heap.size + 1, 0, none⟩) 3 3, .slice (some ⟨w.heap.size + 1 + 1, 0, none⟩) 3 3] := .alloc (.new (by simp)) _
  have b4 : Hid (Blk (((((w.alloc (.cells #[.int .i64 0, .int .i64 1, .int .i64 2] 3)).alloc (.cells #[.int .i64 3, .int .i64 0, .int .i64 4] 3)).alloc (.cells #[.int .i64 5, .int .i64 2, .int .i64 0] 3)).alloc (.cells #[.slice (some ⟨w.heap.size, 0, none⟩) 3 3, .slice (some ⟨w.heap.size + 1, 0, none⟩) 3 3, .slice (some ⟨w.heap.size + 1 + 1, 0, none⟩) 3 3] 22)).alloc (.cells #[.int .i64 3, .int .i64 3, .int .i64 0, .slice none 0 0, .slice none 0 0, .slice (some ⟨w.heap.size + 1 + 1 + 1, 0, none⟩) 3 3] 25)) (w.heap.size + 1 + 1 + 1 + 1) 25 #[.int .i64 3, .int .i64 3, .int .i64 0, .slice none 0 0, .slice none 0 0, .slice (some ⟨w.heap.size + 1 + 1 + 1, 0, none⟩) 3 3]) := .new (by simp)
  have R := Lib.hid (exS_rinst w _ b0 b1 b2 b3)
  have X : Hid (Ext w (((((w.alloc (.cells #[.int .i64 0, .int .i64 1, .int .i64 2] 3)).alloc (.cells #[.int .i64 3, .int .i64 0, .int .i64 4] 3)).alloc (.cells #[.int .i64 5, .int .i64 2, .int .i64 0] 3)).alloc (.cells #[.slice (some ⟨w.heap.size, 0, none⟩) 3 3, .slice (some ⟨w.heap.size + 1, 0, none⟩) 3 3, .slice (some ⟨w.heap.size + 1 + 1, 0, none⟩) 3 3] 22)).alloc (.cells #[.int .i64 3, .int .i64 3, .int .i64 0, .slice none 0 0, .slice none 0 0, .slice (some ⟨w.heap.size + 1 + 1 + 1, 0, none⟩) 3 3] 25))) := by (repeat (first | assumption | exact Ext.rf _ | apply Ext.drew | apply Ext.drewN | apply Ext.alloc))
  clear b0 b1 b2 b3
  go_upto_region 2 with (fail)
  generalize (((((w.alloc (.cells #[.int .i64 0, .int .i64 1, .int .i64 2] 3)).alloc (.cells #[.int .i64 3, .int .i64 0, .int .i64 4] 3)).alloc (.cells #[.int .i64 5, .int .i64 2, .int .i64 0] 3)).alloc (.cells #[.slice (some ⟨w.heap.size, 0, none⟩) 3 3, .slice (some ⟨w.heap.size + 1, 0, none⟩) 3 3, .slice (some ⟨w.heap.size + 1 + 1, 0, none⟩) 3 3] 22)).alloc (.cells #[.int .i64 3, .int .i64 3, .int .i64 0, .slice none 0 0, .slice none 0 0, .slice (some ⟨w.heap.size + 1 + 1 + 1, 0, none⟩) 3 3] 25)) = w1 at *
  have t0 : w1.cell? ⟨w.heap.size + 1 + 1 + 1 + 1, 0, none⟩ = some (.int .i64 3) := b4.out.cell 0
  have t1 : w1.cell? ⟨w.heap.size + 1 + 1 + 1 + 1, 1, none⟩ = some (.int .i64 3) := b4.out.cell 1
  have t2 : w1.cell? ⟨w.heap.size + 1 + 1 + 1 + 1, 2, none⟩ = some (.int .i64 0) := b4.out.cell 2
  have t3 : w1.cell? ⟨w.heap.size + 1 + 1 + 1 + 1, 3, none⟩ = some (.slice none 0 0) := b4.out.cell 3
  have t4 : w1.cell? ⟨w.heap.size + 1 + 1 + 1 + 1, 4, none⟩ = some (.slice none 0 0) := b4.out.cell 4
  have t5 : w1.cell? ⟨w.heap.size + 1 + 1 + 1 + 1, 5, none⟩ = some (.slice (some ⟨w.heap.size + 1 + 1 + 1, 0, none⟩) 3 3) := b4.out.cell 5
  go_wp2_with (fail)
  have y := Ext.alloc (Ext.rf w1) (.cells #[.int .i64 0, .int .i64 2, .int .i64 1] 3)
  refine (AN.out _ _ _ _ (X.out.tr y) (R.out.ext y) (.blk (.new rfl) rfl)).mono ?_
  rintro e w2 ⟨rfl, x2⟩
  have X2 := Lib.hid ((X.out.tr y).tr x2)
  clear x2 y t0 t1 t2 t3 t4 t5 b4 R X AN
  go_wp2_with (fail)
  go_ret
  exact ⟨rfl, X2.out⟩
end Go.Proofs.YtleckhbmciiooaaDoor
namespace Go.Proofs.YtleckhbmciiooaaDoor
open Go.RowKit Go.ChangeShapes Go.WideShapes Go.ChangeAt

/-- the variables that the row lists -/
def tabM : List (String × DataW Unit) := [("math/bits.deBruijn32tab", Rows.laid_math_bits_deBruijn32tab), ("math/bits.deBruijn64tab", Rows.laid_math_bits_deBruijn64tab), ("internal/strconv.uint64pow10", Rows.laid_internal_strconv_uint64pow10)]
theorem tabDataM : (Rows.laid_math_bits_deBruijn64tab : DataW Unit) = Lib.tabData .u8 (Lib.deBruijn64tab.map fun n : Nat => (n : Int)) := by kernel_rfl
theorem tenData : (Rows.laid_internal_strconv_uint64pow10 : DataW Unit) = Lib.tabData .u64 Lib.pow10Tab := by kernel_rfl
theorem tab_of_tabIs {W : World} (h : Lib.TabIs Tryd.prog W "math/bits.deBruijn64tab" .u8 (Lib.deBruijn64tab.map fun n : Nat => (n : Int))) : Tab W := by
  have hlen : Lib.deBruijn64tab.length = 64 := by kernel_rfl
  intro r hr
  rw [hlen] at hr
  have := h.cell (g := 1) (by kernel_rfl) r (by rw [List.length_map]; omega)
  rw [this]
  congr 2
  simp [List.getD, hlen, hr]
theorem tabs_of_laid {W : World} (h : laidMetH Tryd.prog tabM W) : Tab W ∧ Ten W := by
  rw [MakeChecks.laidMetH_plain _ _ _ (by kernel_rfl)] at h
  unfold tabM at h
  have h1 := laidMet.tail h
  have h2 := laidMet.tail h1
  rw [tabDataM] at h1
  rw [tenData] at h2
  refine ⟨tab_of_tabIs ?_, ?_⟩
  · exact Lib.tabIs_of_head (g := 1) (t := 171) (e := 5) (n := 64) (by kernel_rfl) (by kernel_rfl) Tryd.underlying171 Tryd.underlying5 (by kernel_rfl) (by kernel_rfl) h1
  · exact Lib.tabIs_of_head (g := 2) (t := 187) (e := 28) (n := 20) (by kernel_rfl) (by kernel_rfl) Tryd.underlying187 Tryd.underlying28 (by kernel_rfl) (by kernel_rfl) h2
end Go.Proofs.YtleckhbmciiooaaDoor
