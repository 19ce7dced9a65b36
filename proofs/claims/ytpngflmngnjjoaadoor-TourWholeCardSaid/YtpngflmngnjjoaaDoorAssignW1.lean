/-
  An assignment's kernel: New, Depth, free.
  An assignment's kernel: which columns a beginning leaves.
  An assignment's kernel: the least of a row's numbers in some columns.
  An assignment's kernel: what rows cost at least, in some columns.
  A region that draws its order and only reads, walked once inside a round of a loop over a function.
  An assignment's kernel: what rows cost at least, walked.
  An assignment's kernel: what no answer that begins so is below.
-/
import Derived.Test.YtpngflmngnjjoaaDoorAssignP
import Derived.Test.YtpngflmngnjjoaaDoorICopy
import Derived.Test.YtpngflmngnjjoaaDoorSetList
import Derived.Test.YtpngflmngnjjoaaDoorPlainK
import Derived.Sort.BigQuietIn
namespace Go.Proofs.YtpngflmngnjjoaaDoor
open Go.RowKit Go.ChangeShapes Go.WideShapes Go.ChangeAt Go.Deep

/-- the kernel at g: the rows, of its own -/
def KernA (w : World) (base g : Nat) (rows : List (List Int)) : Prop := ∃ C c us, Blk w g 52 #[.slice C rows.length c] ∧ base ≤ g ∧ OwV w base 22 1 C rows.length c us ∧ RowsO w base us rows
theorem KernA.ext {w w' : World} {base g : Nat} {rows : List (List Int)} (h : KernA w base g rows) (x : Ext w w') : KernA w' base g rows := by
  obtain ⟨C, c, us, h1, h2, h3, h4⟩ := h
  exact ⟨C, c, us, h1.ext x, h2, h3.ext x, h4.ext x⟩
def NewAPost (i : InstP) (w : World) (e : Ending) (w' : World) : Prop := ∃ g, e = .returned (.tuple #[.pointer (some ⟨g, 0, none⟩), .int .i64 0]) ∧ KernA w' w.heap.size g i.cost ∧ Ext w w'
set_option maxRecDepth 100000 in
set_option maxHeartbeats 1000000 in
theorem newa_yes (i : InstP) (vs : List Value) (w : World) (H : RInst w vs i) (hc : checkP i = 0) (hk : i.kind = 2) :
    Calls Tryd.prog 15 #[.agg (List.toArray vs)] w (NewAPost i w) := by
  have ok := square_ok hc (by omega)
  have lw : i.weight.length ≤ 1000000000 := by rw [ok.w]; simp
  have lv : i.value.length ≤ 1000000000 := by rw [ok.v]; simp
  have CH := fun (W : World) (x : Ext w W) => check_any i vs W (H.ext x) lw lv
  rw [hc] at CH
  have CP := fun (W : World) (x : Ext w W) => icopy_any i vs W (H.ext x) lw lv (by have := ok.len; have := ok.n2; omega) (fun r hr => by have := ok.row r hr; have := ok.n2; omega)
  clear ok lw lv hc
  obtain ⟨kind, nn, cap, xw, xv, co⟩ := i
  obtain ⟨A, a, B, b, C, c, rfl, -, -, -⟩ := H
  simp only at *
  subst hk
  have B1 : Hid (Blk (w.alloc (.cells #[.int .i64 2, .int .i64 nn, .int .i64 cap, .slice A xw.length a, .slice B xv.length b, .slice C co.length c] 25)) w.heap.size 25 #[.int .i64 2, .int .i64 nn, .int .i64 cap, .slice A xw.length a, .slice B xv.length b, .slice C co.length c]) := .new rfl
  replace CH := Lib.hid CH
  replace CP := Lib.hid CP
  go_enter Tryd.func15, Tryd.ntmps15
  go_wp2_with (fail)
  refine (CH.out _ (by (repeat (first | assumption | exact Ext.rf _ | apply Ext.drew | apply Ext.drewN | apply Ext.alloc)))).mono ?_
  rintro e w1 ⟨rfl, x1⟩
  have X1 := Lib.hid (Ext.tr (a := w) (by (repeat (first | assumption | exact Ext.rf _ | apply Ext.drew | apply Ext.drewN | apply Ext.alloc))) x1)
  have BB := Lib.hid (B1.out.ext x1)
  clear x1
  have c0 : w1.cell? ⟨w.heap.size, 0, none⟩ = some (.int .i64 2) := BB.out.cell 0
  have c1 : w1.cell? ⟨w.heap.size, 1, none⟩ = some (.int .i64 nn) := BB.out.cell 1
  have c2 : w1.cell? ⟨w.heap.size, 2, none⟩ = some (.int .i64 cap) := BB.out.cell 2
  have c3 : w1.cell? ⟨w.heap.size, 3, none⟩ = some (.slice A xw.length a) := BB.out.cell 3
  have c4 : w1.cell? ⟨w.heap.size, 4, none⟩ = some (.slice B xv.length b) := BB.out.cell 4
  have c5 : w1.cell? ⟨w.heap.size, 5, none⟩ = some (.slice C co.length c) := BB.out.cell 5
  go_wp2_with (fail)
  refine (CP.out _ X1.out).mono ?_
  rintro e w2 ⟨A3, c3', B3, d3, C2, e2, us, rfl, oV, oR, x2⟩
  have zx := x2.size
  have z1 := X1.out.size
  have FIN : Hid (KernA (w2.alloc (.cells #[.slice C2 co.length e2] 52)) w.heap.size w2.heap.size co ∧ Ext w (w2.alloc (.cells #[.slice C2 co.length e2] 52))) :=
    ⟨⟨C2, e2, us, .new rfl, by omega, (oV.more z1).ext ((Ext.rf _).alloc _), (oR.more z1).ext ((Ext.rf _).alloc _)⟩, (X1.out.tr x2).alloc _⟩
  have fld : ∀ W, (Instr.field 25 (.agg #[.int .i64 2, .int .i64 nn, .int .i64 cap, .slice A3 xw.length c3', .slice B3 xv.length d3, .slice C2 co.length e2]) 5).run Tryd.prog W = .ok (.slice C2 co.length e2) W := fun _ => by kernel_rfl
  clear oV oR x2 c0 c1 c2 c3 c4 c5
  go_wp2_with (fail)
  go_ret2
  exact ⟨_, rfl, FIN.out.1, FIN.out.2⟩
set_option maxRecDepth 100000 in
theorem newa_bad (i : InstP) (vs : List Value) (w : World) (H : RInst w vs i) (lw : i.weight.length ≤ 1000000000) (lv : i.value.length ≤ 1000000000) (hc : checkP i ≠ 0) :
    Calls Tryd.prog 15 #[.agg (List.toArray vs)] w fun e w' => e = .returned (.tuple #[.pointer none, .int .i64 (checkP i)]) ∧ Ext w w' := by
  have CH := fun (W : World) (x : Ext w W) => check_any i vs W (H.ext x) lw lv
  have hb : (checkP i != 0) = true := by simpa using hc
  generalize checkP i = r at *
  obtain ⟨A, a, B, b, C, c, rfl, -, -, -⟩ := H
  replace CH := Lib.hid CH
  clear hc
  go_enter Tryd.func15, Tryd.ntmps15
  go_wp2_with (fail)
  refine (CH.out _ (by (repeat (first | assumption | exact Ext.rf _ | apply Ext.drew | apply Ext.drewN | apply Ext.alloc)))).mono ?_
  rintro e w1 ⟨rfl, x1⟩
  have X1 := Lib.hid (Ext.tr (a := w) (by (repeat (first | assumption | exact Ext.rf _ | apply Ext.drew | apply Ext.drewN | apply Ext.alloc))) x1)
  clear x1
  go_wp2_with (fail)
  go_ret2
  exact ⟨rfl, X1.out⟩
set_option maxRecDepth 100000 in
theorem newa_kind (i : InstP) (vs : List Value) (w : World) (H : RInst w vs i) (lw : i.weight.length ≤ 1000000000) (lv : i.value.length ≤ 1000000000) (hc : checkP i = 0) (hk : i.kind ≠ 2) :
    Calls Tryd.prog 15 #[.agg (List.toArray vs)] w fun e w' => e = .returned (.tuple #[.pointer none, .int .i64 14]) ∧ Ext w w' := by
  have CH := fun (W : World) (x : Ext w W) => check_any i vs W (H.ext x) lw lv
  rw [hc] at CH
  have hb : (i.kind != 2) = true := by simpa using hk
  clear hc hk
  obtain ⟨kind, nn, cap, xw, xv, co⟩ := i
  obtain ⟨A, a, B, b, C, c, rfl, -, -, -⟩ := H
  simp only at *
  replace CH := Lib.hid CH
  have B1 : Hid (Blk (w.alloc (.cells #[.int .i64 kind, .int .i64 nn, .int .i64 cap, .slice A xw.length a, .slice B xv.length b, .slice C co.length c] 25)) w.heap.size 25 #[.int .i64 kind, .int .i64 nn, .int .i64 cap, .slice A xw.length a, .slice B xv.length b, .slice C co.length c]) := .new rfl
  go_enter Tryd.func15, Tryd.ntmps15
  go_wp2_with (fail)
  refine (CH.out _ (by (repeat (first | assumption | exact Ext.rf _ | apply Ext.drew | apply Ext.drewN | apply Ext.alloc)))).mono ?_
  rintro e w1 ⟨rfl, x1⟩
  have X1 := Lib.hid (Ext.tr (a := w) (by (repeat (first | assumption | exact Ext.rf _ | apply Ext.drew | apply Ext.drewN | apply Ext.alloc))) x1)
  have c0 : w1.cell? ⟨w.heap.size, 0, none⟩ = some (.int .i64 kind) := (B1.out.ext x1).cell 0
  clear x1
  go_wp2_with (fail)
  go_ret2
  exact ⟨rfl, X1.out⟩
theorem deptha_any {base g : Nat} {rows : List (List Int)} (w : World) (H : KernA w base g rows) : Calls Tryd.prog 23 #[.pointer (some ⟨g, 0, none⟩)] w fun e w' => e = .returned (.int .i64 rows.length) ∧ Ext w w' := by
  obtain ⟨C, c, us, h1, -, -, -⟩ := H
  have c0 : w.cell? ⟨g, 0, none⟩ = some (.slice C rows.length c) := h1.cell 0
  go_enter Tryd.func23, Tryd.ntmps23
  go_wp2
  go_ret
  exact ⟨rfl, Ext.rf _⟩
theorem deptha_nil (w : World) : Calls Tryd.prog 23 #[.pointer none] w fun e w' => e = .returned (.int .i64 0) ∧ Ext w w' := by
  go_enter Tryd.func23, Tryd.ntmps23
  go_wp2
  go_ret
  exact ⟨rfl, Ext.rf _⟩
end Go.Proofs.YtpngflmngnjjoaaDoor
namespace Go.Proofs.YtpngflmngnjjoaaDoor
open Go.RowKit Go.ChangeShapes Go.WideShapes Go.ChangeAt Go.Deep

def freeV : Option Nat → Value
  | none => .tuple #[setV 0, .bool false]
  | some m => .tuple #[setV m, .bool true]
theorem freeM_cons (m : Nat) (c : Int) (p : List Int) : freeM m (c :: p) = if 0 ≤ c ∧ c < 64 ∧ m.testBit c.toNat = true then freeM (clrM m c.toNat) p else none := rfl
set_option maxRecDepth 100000 in
set_option maxHeartbeats 2000000 in
theorem free_any {base g : Nat} {rows : List (List Int)} (P : Option Addr) (pc : Nat) (p : List Int) (w : World) (H : KernA w base g rows) (h1 : 1 ≤ rows.length) (h24 : rows.length ≤ 24) (hP : RdI w P p) (lp : p.length ≤ 1000000000) :
    Calls Tryd.prog 49 #[.pointer (some ⟨g, 0, none⟩), .slice P p.length pc] w fun e w' => e = .returned (freeV (freeP rows.length p)) ∧ Ext w w' := by
  have DE := Lib.hid (fun (W : World) (x : Ext w W) => deptha_any W (H.ext x))
  have FU := Lib.hid (fun (W : World) => full_any rows.length (by omega) W)
  have UF := subN_full h24
  obtain ⟨r, hr⟩ : ∃ r, Hid (freeP rows.length p = r) := ⟨_, rfl⟩
  rw [hr.out]
  generalize rows.length = n at *
  clear H
  unfold freeP at hr
  replace hP := Lib.hid hP
  have B1 : Hid (Blk (w.alloc (.cells #[.int .u64 0, .int .u64 0] 55)) w.heap.size 55 #[.int .u64 0, .int .u64 0]) := .new rfl
  have hn0 : ((n : Int) == 0) = false := by rw [beq_eq_false_iff_ne]; omega
  by_cases hlen : n < p.length
  · have hr2 : Hid (r = none) := by
      have h := hr.out
      rw [if_pos hlen] at h
      exact h.symm
    have hlb : decide ((n : Int) < (p.length : Int)) = true := decide_eq_true (by omega)
    rw [hr2.out]
    unfold freeV setV
    go_enter Tryd.func49, Tryd.ntmps49
    go_wp2_with (fail)
    refine (DE.out _ (by (repeat (first | assumption | exact Ext.rf _ | apply Ext.drew | apply Ext.drewN | apply Ext.alloc)))).mono ?_
    rintro e w1 ⟨rfl, x1⟩
    have X1 := Lib.hid (Ext.tr (a := w) (by (repeat (first | assumption | exact Ext.rf _ | apply Ext.drew | apply Ext.drewN | apply Ext.alloc))) x1)
    have b1 := B1.out.ext x1
    have c0 : w1.cell? ⟨w.heap.size, 0, none⟩ = some (.int .u64 0) := b1.cell 0
    have c1 : w1.cell? ⟨w.heap.size, 1, none⟩ = some (.int .u64 0) := b1.cell 1
    have f0 := b1.free 0
    have f1 := b1.free 1
    clear x1 b1
    go_wp2_with (fail)
    refine bodyPost_ret (v := .tuple #[.agg #[.int .u64 0, .int .u64 0], .bool false]) (by simp [results, Tryd.results49, go_sem, *]) rfl ⟨rfl, ?_⟩
    exact (X1.out.setNew (p := ⟨w.heap.size, 0, none⟩) (Nat.le_refl _) _).setNew (p := ⟨w.heap.size, 1, none⟩) (Nat.le_refl _) _
  · have hr2 : Hid (freeM (2 ^ n - 1) p = r) := by
      have h := hr.out
      rw [if_neg hlen] at h
      exact h
    have hlb : decide ((n : Int) < (p.length : Int)) = false := decide_eq_false (by omega)
    generalize 2 ^ n - 1 = m0 at *
    unfold setV at FU
    clear hr
    go_enter Tryd.func49, Tryd.ntmps49
    go_wp2_with (fail)
    refine (DE.out _ (by (repeat (first | assumption | exact Ext.rf _ | apply Ext.drew | apply Ext.drewN | apply Ext.alloc)))).mono ?_
    rintro e w1 ⟨rfl, x1⟩
    have X1 := Lib.hid (Ext.tr (a := w) (by (repeat (first | assumption | exact Ext.rf _ | apply Ext.drew | apply Ext.drewN | apply Ext.alloc))) x1)
    have b1 := Lib.hid (B1.out.ext x1)
    clear x1
    go_wp2_with (fail)
    refine (FU.out _).mono ?_
    rintro e w2 ⟨rfl, x2⟩
    have z12 := x2.size
    have zw1 := b1.out.lt
    have X3 : Ext w (w2.alloc (.cells #[.int .u64 m0, .int .u64 0] 55)) := (X1.out.tr x2).alloc _
    have b3 : Blk (w2.alloc (.cells #[.int .u64 m0, .int .u64 0] 55)) w.heap.size 55 #[.int .u64 0, .int .u64 0] := (b1.out.ext x2).alloc _
    have s3 : Blk (w2.alloc (.cells #[.int .u64 m0, .int .u64 0] 55)) w2.heap.size 55 #[.int .u64 m0, .int .u64 0] := .new rfl
    have START := Lib.hid (And.intro X3 (And.intro b3 s3))
    obtain ⟨sb, hsb⟩ : ∃ sb, Hid (sb = w2.heap.size) := ⟨_, rfl⟩
    have zsb : w.heap.size < sb := by rw [hsb.out]; omega
    clear X3 b3 s3 x2 b1
    go_wp2_with (fail)
    rw [← hsb.out] at START ⊢
    go_loopw [25] (fun v wr => ∃ (k m : Nat), v = .int .i64 k ∧ k ≤ p.length ∧ Hid (freeM m (p.drop k) = r) ∧ Hid (SubN n m) ∧ Hid (Ext w wr ∧ Blk wr w.heap.size 55 #[.int .u64 0, .int .u64 0] ∧ Blk wr sb 55 #[.int .u64 m, .int .u64 0])) (fun v _ => p.length - (intOf v).toNat)
    case atStart => exact ⟨0, m0, rfl, by omega, hr2, UF, START⟩
    case round =>
      obtain ⟨wo, rfl⟩ : ∃ wo : World, wo = wr := ⟨_, rfl⟩
      clear START
      obtain ⟨k, m, rfl, hk, HF, HU, HH⟩ := hrel
      obtain ⟨Y, b1, bs⟩ := HH.out
      have c0 : wo.cell? ⟨sb, 0, none⟩ = some (.int .u64 m) := bs.cell 0
      have c1 : wo.cell? ⟨sb, 1, none⟩ = some (.int .u64 0) := bs.cell 1
      replace Y := Lib.hid Y
      replace b1 := Lib.hid b1
      replace bs := Lib.hid bs
      clear HH
      by_cases hlt : k < p.length
      · obtain ⟨pb, po, c, rfl, zp, cp, ep, dp⟩ := (hP.out.ext Y.out).at hlt
        have HF2 : Hid (r = if 0 ≤ c ∧ c < 64 ∧ m.testBit c.toNat = true then freeM (clrM m c.toNat) (p.drop (k + 1)) else none) := by
          have h := HF.out
          rw [dp.out, freeM_cons] at h
          exact h.symm
        have HA := Lib.hid (fun (W : World) => has_any m c HU.out.1 W)
        unfold setV at HA
        clear HF ep dp
        go_wp2_with (fail)
        refine (HA.out _).mono ?_
        rintro e w3 ⟨rfl, x3⟩
        have Y3 := Lib.hid (Y.out.tr x3)
        have b13 := Lib.hid (b1.out.ext x3)
        have bs3 := Lib.hid (bs.out.ext x3)
        clear x3 c0 c1 cp
        by_cases hin : 0 ≤ c ∧ c < 64 ∧ m.testBit c.toNat = true
        · have e1 : (decide (0 ≤ c ∧ c < 64) && m.testBit c.toNat) = true := by rw [decide_eq_true ⟨hin.1, hin.2.1⟩, hin.2.2]; rfl
          rw [e1]
          have HF3 : Hid (freeM (clrM m c.toNat) (p.drop (k + 1)) = r) := by
            have h := HF2.out
            rw [if_pos hin] at h
            exact h.symm
          obtain ⟨i, rfl⟩ : ∃ i : Nat, c = (i : Int) := ⟨c.toNat, by omega⟩
          rw [Int.toNat_natCast] at HF3
          have WO := Lib.hid (fun (W : World) => without_any m i HU.out.1 (by omega) W)
          have HU2 := Lib.hid (HU.out.clr i)
          generalize clrM m i = m2 at *
          unfold setV at WO
          have c0 : w3.cell? ⟨sb, 0, none⟩ = some (.int .u64 m) := bs3.out.cell 0
          have c1 : w3.cell? ⟨sb, 1, none⟩ = some (.int .u64 0) := bs3.out.cell 1
          clear hin e1 HF2 HA
          go_wp2_with (fail)
          refine (WO.out _).mono ?_
          rintro e w4 ⟨rfl, x4⟩
          have bs4 := bs3.out.ext x4
          have b14 := b13.out.ext x4
          have d0 : w4.cell? ⟨sb, 0, none⟩ = some (.int .u64 m) := bs4.cell 0
          have d1 : w4.cell? ⟨sb, 1, none⟩ = some (.int .u64 0) := bs4.cell 1
          have f0 := bs4.free 0
          have f1 := bs4.free 1
          have NEW : Hid (Ext w ((w4.setCell ⟨sb, 0, none⟩ (.int .u64 m2)).setCell ⟨sb, 1, none⟩ (.int .u64 0)) ∧ Blk ((w4.setCell ⟨sb, 0, none⟩ (.int .u64 m2)).setCell ⟨sb, 1, none⟩ (.int .u64 0)) w.heap.size 55 #[.int .u64 0, .int .u64 0] ∧ Blk ((w4.setCell ⟨sb, 0, none⟩ (.int .u64 m2)).setCell ⟨sb, 1, none⟩ (.int .u64 0)) sb 55 #[.int .u64 m2, .int .u64 0]) :=
            ⟨((Y3.out.tr x4).setNew (p := ⟨sb, 0, none⟩) (Nat.le_of_lt zsb) _).setNew (p := ⟨sb, 1, none⟩) (Nat.le_of_lt zsb) _, (b14.far (p := ⟨sb, 0, none⟩) (Nat.ne_of_lt zsb) _).far (p := ⟨sb, 1, none⟩) (Nat.ne_of_lt zsb) _, (bs4.set 0 (.int .u64 m2)).set 1 (.int .u64 0)⟩
          clear bs4 b14 x4 c0 c1
          go_wp2_with (fail)
          go_roundw
          case rel => exact ⟨k + 1, m2, by go_num, by omega, HF3, HU2, NEW⟩
          case measure => simp [intOf]; omega
        · have e1 : (decide (0 ≤ c ∧ c < 64) && m.testBit c.toNat) = false := by
            by_cases h2 : 0 ≤ c ∧ c < 64
            · cases h3 : m.testBit c.toNat with
              | false => simp
              | true => exact absurd ⟨h2.1, h2.2, h3⟩ hin
            · rw [decide_eq_false h2]; rfl
          rw [e1]
          have HF3 : Hid (r = none) := by
            have h := HF2.out
            rw [if_neg hin] at h
            exact h
          have d0 : w3.cell? ⟨w.heap.size, 0, none⟩ = some (.int .u64 0) := b13.out.cell 0
          have d1 : w3.cell? ⟨w.heap.size, 1, none⟩ = some (.int .u64 0) := b13.out.cell 1
          have f0 := b13.out.free 0
          have f1 := b13.out.free 1
          clear hin e1 HF2 HA
          go_wp2_with (fail)
          refine bodyPost_ret (v := .tuple #[.agg #[.int .u64 0, .int .u64 0], .bool false]) (by simp [results, Tryd.results49, go_sem, *]) rfl ⟨by rw [HF3.out]; rfl, ?_⟩
          exact (Y3.out.setNew (p := ⟨w.heap.size, 0, none⟩) (Nat.le_refl _) _).setNew (p := ⟨w.heap.size, 1, none⟩) (Nat.le_refl _) _
      · obtain rfl : k = p.length := by omega
        have HF3 : Hid (r = some m) := by
          have h := HF.out
          rw [List.drop_length] at h
          exact h.symm
        have d0 : wo.cell? ⟨w.heap.size, 0, none⟩ = some (.int .u64 0) := b1.out.cell 0
        have d1 : wo.cell? ⟨w.heap.size, 1, none⟩ = some (.int .u64 0) := b1.out.cell 1
        have f0 := b1.out.free 0
        have f1 := b1.out.free 1
        go_wp2_with (fail)
        refine bodyPost_ret (v := .tuple #[.agg #[.int .u64 m, .int .u64 0], .bool true]) (by simp [results, Tryd.results49, go_sem, *]) rfl ⟨by rw [HF3.out]; rfl, ?_⟩
        exact (Y.out.setNew (p := ⟨w.heap.size, 0, none⟩) (Nat.le_refl _) _).setNew (p := ⟨w.heap.size, 1, none⟩) (Nat.le_refl _) _
end Go.Proofs.YtpngflmngnjjoaaDoor
namespace Go.Proofs.YtpngflmngnjjoaaDoor
open Go.RowKit Go.ChangeShapes Go.WideShapes Go.ChangeAt Go.Deep Go.Shelf
attribute [local go_sem] Oper.semAt_some

/-- the least one, by the loop's own words -/
def leastN (f : Nat → Int) (b : Int) (l : List Nat) : Int := l.foldl (fun b x => if b < 0 then f x else if f x < b then f x else b) b
theorem leastN_snoc (f : Nat → Int) (b : Int) (l : List Nat) (x : Nat) : leastN f b (l ++ [x]) = if leastN f b l < 0 then f x else if f x < leastN f b l then f x else leastN f b l := by
  unfold leastN
  rw [List.foldl_append]
  rfl
theorem ownFrom_blk {β : Type} {k B : Nat} (hk : k < B) (t : TypeId) (cs : β → Array Value) : OwnFrom B (fun s W => Blk W k t (cs s)) := fun s W W' row hs hg hr =>
  (hg.block k hs.lt (fun e => by obtain ⟨h1, _⟩ := hr _ e.symm; omega)).trans hs
set_option maxRecDepth 100000 in
set_option maxHeartbeats 4000000 in
theorem least_in (A : Option Addr) (rc : Nat) (row : List Int) (m : Nat) (hm : m < 18446744073709551616) (h63 : ∀ x ∈ memsM m, x < 63) (hrow : ∀ x ∈ memsM m, x < row.length) (w : World) (hT : Tab w) (hA : RdI w A row) :
    CallsIn Fence.wide 3 Tryd.prog 75 #[.slice A row.length rc, setV m] w fun e W' => e = .returned (.int .i64 (leastN (fun c => row.getD c 0) (-1) (memsM m))) ∧ Ext w W' := by
  have hg := tab_low hT
  unfold setV
  refine callsIn_of_wp_marks Tryd.func75 rfl trivial ?_ rfl
  simp only [Tryd.ntmps75, List.size_toArray, List.length_cons, List.length_nil, Nat.reduceAdd, Nat.reduceSub, Array.replicate_succ, Array.replicate_zero, List.push_toArray, List.append_toArray, List.nil_append, List.cons_append]
  gi_wp2
  refine ⟨trivial, ?_⟩
  refine (callsIn_wide.2 (all_any m _)).mono ?_
  rintro e w' ⟨rfl, rfl⟩
  gi_wp2
  have bR : Blk ((((w.alloc (.cells #[.slice A row.length rc] 22)).alloc (.cells #[.int .u64 m, .int .u64 0] 55)).alloc (.cells #[.int .i64 (-1)] 3)).alloc (.cells #[.int .u64 m, .int .u64 0] 55)) w.heap.size 22 #[.slice A row.length rc] := .alloc (.alloc (.alloc (.new rfl) _) _) _
  have bO : Blk ((((w.alloc (.cells #[.slice A row.length rc] 22)).alloc (.cells #[.int .u64 m, .int .u64 0] 55)).alloc (.cells #[.int .i64 (-1)] 3)).alloc (.cells #[.int .u64 m, .int .u64 0] 55)) (w.heap.size + 1 + 1) 3 #[.int .i64 (-1)] := .alloc (.new (by simp)) _
  have bB : Blk ((((w.alloc (.cells #[.slice A row.length rc] 22)).alloc (.cells #[.int .u64 m, .int .u64 0] 55)).alloc (.cells #[.int .i64 (-1)] 3)).alloc (.cells #[.int .u64 m, .int .u64 0] 55)) (w.heap.size + 1 + 1 + 1) 55 #[.int .u64 m, .int .u64 0] := .new (by simp)
  have hB0 : Ext w ((((w.alloc (.cells #[.slice A row.length rc] 22)).alloc (.cells #[.int .u64 m, .int .u64 0] 55)).alloc (.cells #[.int .i64 (-1)] 3)).alloc (.cells #[.int .u64 m, .int .u64 0] 55)) := ((((Ext.rf w).alloc _).alloc _).alloc _).alloc _
  refine wpIn_rangeFunc_ownG rfl (by omega) (gf := 85) (lb := #[.pointer (some ⟨w.heap.size + 1 + 1 + 1, 0, none⟩)]) rfl trivial (enters_of Tryd.func85 (by kernel_rfl) rfl)
    (all_stops 2 m hm h63 (w.heap.size + 1 + 1 + 1) w.heap.size _ bB (hT.ext hB0) hB0.size hg) SetKp.tr (setKp_b (cs := #[.int .u64 m, .int .u64 0]) hB0.size bB) (Below.refl _ _) (fun _ => rfl)
    (fun pre W => Blk W (w.heap.size + 1 + 1) 3 #[.int .i64 (leastN (fun c => row.getD c 0) (-1) (inL pre))] ∧ Blk W w.heap.size 22 #[.slice A row.length rc] ∧ Blk W (w.heap.size + 1 + 1 + 1) 55 #[.int .u64 m, .int .u64 0] ∧ Below w.heap.size w W)
    (fun _ _ _ => False)
    (OwnFrom.and (ownFrom_blk (by simp <;> omega) _ _) (OwnFrom.and (ownFrom_blk (by simp <;> omega) _ _) (OwnFrom.and (ownFrom_blk (by simp <;> omega) _ _) (ownFrom_below (Nat.le_refl _) (by simp <;> omega)))))
    (fun _ _ _ _ _ hs _ _ => hs)
    ⟨bO, bR, bB, hB0⟩
    (fun x => { tmps := #[.slice A row.length rc, .agg #[.int .u64 m, .int .u64 0], .pointer (some ⟨w.heap.size, 0, none⟩), .pointer (some ⟨w.heap.size + 1, 0, none⟩), .int .i64 0, .pointer (some ⟨w.heap.size + 1 + 1, 0, none⟩), .int .i64 ((x.1 : Nat) : Int), .agg #[.int .u64 m, .int .u64 0], .func (.func 85) #[] #[.pointer (some ⟨w.heap.size + 1 + 1 + 1, 0, none⟩)], .int .i64 ((x.1 : Nat) : Int), undef, undef, undef, undef, undef, undef, undef, undef, undef, undef, undef, undef, undef, undef, undef], defers := [] }) ?assign ?body ?done ?stop
  case assign =>
    intro l x W K hK
    gi_wp2
    exact hK
  case body =>
    rintro l pre x W ⟨hO, hR, hBn, hB⟩ hlt
    obtain ⟨bb, hbb⟩ : ∃ bb, Hid (bb = leastN (fun c => row.getD c 0) (-1) (inL pre)) := ⟨_, rfl⟩
    rw [← hbb.out] at hO
    have cO : W.cell? ⟨w.heap.size + 1 + 1, 0, none⟩ = some (.int .i64 bb) := hO.cell 0
    have fO := hO.free 0
    have cR : W.cell? ⟨w.heap.size, 0, none⟩ = some (.slice A row.length rc) := hR.cell 0
    have hxr := hrow x.1 x.2
    obtain ⟨ab, ao, y, rfl, zy, cy, ey, _⟩ := (RdI.ext hA hB).at hxr
    have eN : Hid (leastN (fun c => row.getD c 0) (-1) (inL (pre ++ [x])) = if bb < 0 then y else if y < bb then y else bb) := by
      have h : leastN (fun c => row.getD c 0) (-1) (inL (pre ++ [x])) = if bb < 0 then y else if y < bb then y else bb := by
        rw [inL_snoc, leastN_snoc, ← hbb.out, getD_some ey.out]
      exact h
    have qx : ((x.1 : Nat) : Int) < (row.length : Int) := by omega
    have N0 : Hid (Blk (W.setCell ⟨w.heap.size + 1 + 1, 0, none⟩ (.int .i64 y)) (w.heap.size + 1 + 1) 3 #[.int .i64 y]) := hO.set 0 (.int .i64 y)
    have hmx : Tryd.prog.follows .mixedOrders = true := by kernel_rfl
    replace hR := Lib.hid hR
    replace hBn := Lib.hid hBn
    replace hB := Lib.hid hB
    replace hO := Lib.hid hO
    clear ey
    have N1 := Lib.hid (hR.out.far (p := ⟨w.heap.size + 1 + 1, 0, none⟩) (by simp <;> omega) (.int .i64 y))
    have N2 := Lib.hid (hBn.out.far (p := ⟨w.heap.size + 1 + 1, 0, none⟩) (by simp) (.int .i64 y))
    have N3 := Lib.hid ((Below.refl w.heap.size W).setCell (p := ⟨w.heap.size + 1 + 1, 0, none⟩) (by simp <;> omega) (.int .i64 y))
    by_cases hneg : bb < 0
    · rw [if_pos hneg] at eN
      gi_wp2
      gi_region_o
      all_goals gi_wp2
      all_goals exact ⟨((KeepsOthers.setCell _ _ _).trans (KeepsOthers.drew _)).from _, ⟨N3.out.drew, N2.out.drew.trans hBn.out.symm⟩, by rw [eN.out]; exact N0.out.drew, N1.out.drew, N2.out.drew, (hB.out.trans N3.out).drew⟩
    · rw [if_neg hneg] at eN
      by_cases hy : y < bb
      · rw [if_pos hy] at eN
        gi_wp2
        gi_region_o
        all_goals gi_wp2
        all_goals exact ⟨((KeepsOthers.setCell _ _ _).trans (KeepsOthers.drew _)).from _, ⟨N3.out.drew, N2.out.drew.trans hBn.out.symm⟩, by rw [eN.out]; exact N0.out.drew, N1.out.drew, N2.out.drew, (hB.out.trans N3.out).drew⟩
      · rw [if_neg hy] at eN
        gi_wp2
        gi_region_o
        all_goals gi_wp2
        all_goals exact ⟨(KeepsOthers.drew _).from _, ⟨(Below.refl _ W).drew, rfl⟩, by rw [eN.out]; exact hO.out.drew, hR.out.drew, hBn.out.drew, hB.out.drew⟩
  case done =>
    rintro D ys W hD rfl ⟨hO, _, _, hB⟩ hK
    rw [inL_attach] at hO
    have cO := hO.cell 0
    gi_wp2
    refine ⟨by simp, .inl ⟨_, _, rfl, run_takeDeferred hK, ?_⟩⟩
    exact ⟨_, results_tmp rfl _ _ _, rfl, hB.trans (belowK_b (w := w) (Nat.le_refl _) W D _ _ (by simp at hD; omega) hK rfl rfl)⟩
  case stop =>
    rintro D c pre W _ _ h _
    exact h.elim
end Go.Proofs.YtpngflmngnjjoaaDoor
namespace Go.Proofs.YtpngflmngnjjoaaDoor
open Go.RowKit Go.ChangeShapes Go.WideShapes Go.ChangeAt Go.Deep Go.Shelf
attribute [local go_sem] Oper.semAt_some

def offL (rows : List (List Int)) (l : List Nat) : List Int := rows.map fun row => leastN (fun c => row.getD c 0) (-1) l
/-- the least of a column beyond what the rows cost, from row k on -/
def colF (c : Nat) (b : Int) : List (List Int) → List Int → Int
  | row :: rows, o :: off => colF c (if b < 0 then row.getD c 0 - o else if row.getD c 0 - o < b then row.getD c 0 - o else b) rows off
  | _, _ => b
def reduceP (rows : List (List Int)) (l : List Nat) : Int := sumL (offL rows l) + sumL (l.map fun c => colF c (-1) rows (offL rows l))
theorem leastN_bd {f : Nat → Int} {B : Int} : ∀ {l : List Nat} {b : Int}, (∀ c ∈ l, -B ≤ f c ∧ f c ≤ B) → -B ≤ b → b ≤ B → -B ≤ leastN f b l ∧ leastN f b l ≤ B
  | [], b, _, h1, h2 => ⟨h1, h2⟩
  | c :: l, b, h, h1, h2 => by
    have hc := h c (by simp)
    have e : leastN f b (c :: l) = leastN f (if b < 0 then f c else if f c < b then f c else b) l := rfl
    rw [e]
    refine leastN_bd (fun x hx => h x (by simp [hx])) ?_ ?_ <;> split <;> (try split) <;> omega
theorem colF_bd {c : Nat} {B : Int} : ∀ {rows : List (List Int)} {off : List Int} {b : Int}, (∀ row ∈ rows, 0 ≤ row.getD c 0 ∧ row.getD c 0 ≤ B) → (∀ o ∈ off, -B ≤ o ∧ o ≤ B) → 0 ≤ B → -(2 * B) ≤ b → b ≤ 2 * B → -(2 * B) ≤ colF c b rows off ∧ colF c b rows off ≤ 2 * B
  | [], off, b, _, _, _, h1, h2 => by cases off <;> exact ⟨h1, h2⟩
  | _ :: _, [], b, _, _, _, h1, h2 => ⟨h1, h2⟩
  | row :: rows, o :: off, b, hr, ho, h0, h1, h2 => by
    have a1 := hr row (by simp)
    have a2 := ho o (by simp)
    unfold colF
    refine colF_bd (fun x hx => hr x (by simp [hx])) (fun x hx => ho x (by simp [hx])) h0 ?_ ?_ <;> split <;> (try split) <;> omega
theorem least_any (A : Option Addr) (rc : Nat) (row : List Int) (m : Nat) (hm : m < 18446744073709551616) (h63 : ∀ x ∈ memsM m, x < 63) (hrow : ∀ x ∈ memsM m, x < row.length) (w : World) (hT : Tab w) (hA : RdI w A row) :
    Calls Tryd.prog 75 #[.slice A row.length rc, setV m] w fun e W' => e = .returned (.int .i64 (leastN (fun c => row.getD c 0) (-1) (memsM m))) ∧ Ext w W' :=
  callsIn_wide.1 (least_in A rc row m hm h63 hrow w hT hA)
theorem sumA_snoc (a : List Int) (x : Int) : sumL (a ++ [x]) = sumL a + x := by rw [sumL_app]; simp [sumL]
theorem sumA_bd {B : Int} : ∀ {l : List Int}, (∀ x ∈ l, -B ≤ x ∧ x ≤ B) → -(B * l.length) ≤ sumL l ∧ sumL l ≤ B * l.length
  | [], _ => by simp [sumL]
  | x :: l, h => by
    have h1 := h x (by simp)
    have h2 := sumA_bd (l := l) fun y hy => h y (by simp [hy])
    simp only [sumL, List.length_cons, Int.natCast_add, Int.natCast_one, Int.mul_add, Int.mul_one]
    omega
end Go.Proofs.YtpngflmngnjjoaaDoor
namespace Go.Proofs.YtpngflmngnjjoaaDoor
open Go

section
variable {F : Fence} {n : Nat} {P : Program} {ops : Array Oper} {md : Region.Mode} {C : World → Prop}
theorem wpIn_of_quiet_r {o : Oper} {a : Act} {K : Act → Prop} {K' : Act → World → Prop} {Q' : Exit → Act → World → Prop} {w : World} (hd : ∀ c, o.op ≠ .defer c) (hw : C w) (h : ∀ a w', C w' → K a → K' a w')
    (ha : o.askedIn F P a C) (hh : o.quietIn F n P a C K) : o.wpIn F n P a w K' Q' := by
  obtain ⟨v, h1, h2⟩ := hh
  have h3 := h1 w hw
  unfold Oper.quietAtIn at h3
  unfold Oper.wpIn
  refine ⟨ha w hw, ?_⟩
  rw [Oper.semAt_plain F _ _ hd]
  generalize (execOp a.eval o).run P w = r at *
  cases r with
  | ok x w' =>
    cases x <;> simp only [Oper.quietUponIn] at h3 <;> simp only [Oper.uponIn]
    case value u =>
      obtain ⟨e1, e2⟩ := h3
      rw [e1, e2]
      exact h _ _ hw h2
    case skip =>
      obtain ⟨e1, e2⟩ := h3
      rw [e1, ← e2]
      exact h _ _ hw h2
    case enter f args =>
      obtain ⟨e1, hd, hc⟩ := h3
      rw [e1]
      exact ⟨hd, hc.mono fun e w'' ⟨he, hw''⟩ => by subst he; exact h _ _ hw'' h2⟩
  | halt x w' => simp only [Oper.quietUponIn] at h3
theorem wpOpIn_of_q_r (hd : ∀ (i : Nat) (o : Oper), ops[i]? = some o → ∀ c, o.op ≠ .defer c) {i : Nat} {a : Act} {K : Act → Prop} {K' : Act → World → Prop} {Q' : Exit → Act → World → Prop} {w : World} (hC : C w) (h : ∀ a w', C w' → K a → K' a w')
    (hh : qOpIn F n P ops C i K a) : wpOpIn F n P ops Q' i K' a w := by
  unfold qOpIn at hh
  unfold wpOpIn
  split
  · rename_i ho; simp only [ho] at hh; exact h _ _ hC hh
  · rename_i o ho
    simp only [ho] at hh
    obtain ⟨ha, hh⟩ := hh
    split
    · rename_i hw; simp only [hw, if_true] at hh; exact wpIn_of_quiet_r (hd i o ho) hC h ha hh
    · rename_i hw; simp only [hw] at hh; exact ⟨ha w hC, h _ _ hC hh⟩
theorem wpAnyIn_of_q_r {Q : Act → Prop} {Q' : Exit → Act → World → Prop} (hd : ∀ (i : Nat) (o : Oper), ops[i]? = some o → ∀ c, o.op ≠ .defer c) (hQ : ∀ a w, C w → Q a → Q' .normal a w) : ∀ (fuel : Nat) (listed : Array Bool) (a : Act) (w : World), C w →
    wpAnyQIn F n P md ops C Q fuel listed a → wpAnyIn F n P md ops Q' fuel listed a w
  | 0, _, _, _, hw, h => ⟨h.1, hQ _ _ hw h.2⟩
  | fuel + 1, _, _, _, hw, h => ⟨fun h0 => hQ _ _ hw (h.1 h0), fun i hi => wpOpIn_of_q_r hd hw (fun a' w' hw' => wpAnyIn_of_q_r hd hQ fuel _ a' w' hw') (h.2 i hi)⟩
def isDefer : Oper → Bool
  | { op := .defer _, .. } => true
  | _ => false
/-- one walk in the text's order serves every order, in a round too -/
theorem wpIn_region_quiet_r {id : Nat} {Q : Exit → Act → World → Prop} {a : Act} {w : World} {l : List Oper} (hm : P.follows .mixedOrders = true) (hB : Region.lexB .any l.toArray = true) (hd : l.all (fun o => !isDefer o) = true)
    (h : wpQuietIn F n P l.toArray (fun w' => ∃ n, w' = w.drewN n) (fun a' => ∀ w', (∃ n, w' = w.drewN n) → Q .normal a' w') l a) : (Code.region id l.toArray true).wpIn F n P Q a w := by
  simp only [Region.lexB, Bool.and_eq_true] at hB
  have hd' : ∀ (i : Nat) (o : Oper), l.toArray[i]? = some o → ∀ c, o.op ≠ .defer c := by
    intro i o ho c hc
    have h1 : o ∈ l := by
      have h2 : l[i]? = some o := by simpa using ho
      exact List.mem_of_getElem? h2
    have h3 := List.all_eq_true.1 hd o h1
    obtain ⟨dst, op, ty, pos, af, gu⟩ := o
    simp only at hc
    subst hc
    simp [isDefer] at h3
  refine wpIn_region_any hm (wpAnyIn_of_q_r (C := fun w' => ∃ n, w' = w.drewN n) (Q := fun a' => ∀ w', (∃ n, w' = w.drewN n) → Q .normal a' w') hd' (fun _ w' hw' h => h w' hw') _ _ _ _ ⟨1, rfl⟩ ?_)
  have := wpAnyQIn_lex (F := F) (n := n) (C := fun w' => ∃ n, w' = w.drewN n) (md := .any) hB.1 l 0 (Array.replicate l.length false) a (by simp) (by simpa using hB.2) h
  simpa using this
end
end Go.Proofs.YtpngflmngnjjoaaDoor
namespace Go.Proofs.YtpngflmngnjjoaaDoor
open Go.RowKit Go.ChangeShapes Go.WideShapes Go.ChangeAt Go.Deep Go.Shelf
attribute [local go_sem] Oper.semAt_some

theorem owned_ge {W : World} {n₀ k size : Nat} {e : TypeId} {v : Value} {xs : List Value} (hrow : W.ownsRow n₀ e size v k xs) {b : Nat} (hb : b < n₀) : v.ownBlock ≠ some b := by
  rcases hrow.2 with ⟨rfl, _⟩ | ⟨g', cap, cur, rfl, h, _⟩
  · simp [Value.ownBlock]
  · intro e'
    obtain rfl : g' = b := by simpa [Value.ownBlock] using e'
    omega
/-- but for one block, what was there is as it was -/
def Held (w0 : World) (sb : Nat) (w : World) : Prop := w0.heap.size ≤ w.heap.size ∧ ∀ b, b < w0.heap.size → b ≠ sb → w.heap[b]? = w0.heap[b]?
theorem Held.blk {w0 w : World} {sb g : Nat} {t : TypeId} {cs : Array Value} (h : Held w0 sb w) (hb : Blk w0 g t cs) (hne : g ≠ sb) : Blk w g t cs := (h.2 g hb.lt hne).trans hb
theorem Held.set {w0 w : World} {sb : Nat} (h : Held w0 sb w) (u : Value) : Held w0 sb (w.setCell ⟨sb, 0, none⟩ u) := ⟨by simp; exact h.1, fun b h1 h2 => (Below.heap_setCell w ⟨sb, 0, none⟩ u b h2).trans (h.2 b h1 h2)⟩
theorem Held.ext {w0 w w' : World} {sb : Nat} (h : Held w0 sb w) (x : Ext w w') : Held w0 sb w' := ⟨Nat.le_trans h.1 x.size, fun b h1 h2 => (x.block b (Nat.lt_of_lt_of_le h1 h.1)).trans (h.2 b h1 h2)⟩
theorem ownFrom_held {β : Type} {w0 : World} {B sb : Nat} (hB : w0.heap.size ≤ B) : OwnFrom B (fun (_ : β) W => Held w0 sb W) := fun _ W W' row hs hg hr =>
  ⟨Nat.le_trans hs.1 hg.size, fun b h1 h2 => (hg.block b (Nat.lt_of_lt_of_le h1 hs.1) (fun e => by have := (hr b e.symm).1; omega)).trans (hs.2 b h1 h2)⟩
theorem KeepsFrom.of_ext {B : Nat} {W W' : World} (x : Ext W W') : KeepsFrom B W W' := ⟨x.size, fun k _ _ hk _ => (x.block k (Array.getElem?_eq_some_iff.1 hk).1).trans hk⟩
/-- the boxes of reduce -/
def RedS (w wr : World) (A : Option Addr) (n rc m : Nat) (sum : Int) (OA : Option Addr) (k oc : Nat) (offs : List Int) : Prop :=
  Ext w wr ∧ Blk wr w.heap.size 23 #[.slice A n rc] ∧ Blk wr (w.heap.size + 1) 55 #[.int .u64 m, .int .u64 0] ∧ Blk wr (w.heap.size + 1 + 1) 3 #[.int .i64 sum] ∧ Blk wr (w.heap.size + 1 + 1 + 1) 22 #[.slice OA k oc] ∧ wr.ownsRow (w.heap.size + 1 + 1 + 1 + 1) 3 1 (.slice OA k oc) k (offs.map (Value.int .i64)) ∧ w.heap.size + 1 + 1 + 1 + 1 ≤ wr.heap.size
set_option maxRecDepth 100000 in
set_option maxHeartbeats 4000000 in
theorem reduce_in {base : Nat} (A : Option Addr) (rc : Nat) (us : List Value) (rows : List (List Int)) (m : Nat) (hm : m < 18446744073709551616) (h63 : ∀ x ∈ memsM m, x < 63) (hlen : ∀ row ∈ rows, ∀ x ∈ memsM m, x < row.length) (hbd : ∀ row ∈ rows, ∀ x ∈ row, 0 ≤ x ∧ x ≤ 2147483647) (hr64 : rows.length ≤ 64)
    (w : World) (hT : Tab w) (hV : RdV w 22 A us) (hR : RowsO w base us rows) :
    CallsIn Fence.wide 3 Tryd.prog 50 #[.slice A rows.length rc, setV m] w fun e W' => e = .returned (.int .i64 (reduceP rows (memsM m))) ∧ Ext w W' := by
  obtain ⟨i0, hi, hz0, hz1, hz2⟩ := info_parts int_info
  have hg := tab_low hT
  have lus : us.length = rows.length := hR.1
  obtain ⟨offs, hoffs⟩ : ∃ offs, Hid (offs = offL rows (memsM m)) := ⟨_, rfl⟩
  have loff : offs.length = rows.length := by rw [hoffs.out]; simp [offL]
  have eoff : ∀ (k : Nat) (row : List Int), rows[k]? = some row → offs[k]? = some (leastN (fun c => row.getD c 0) (-1) (memsM m)) := fun k row h => by rw [hoffs.out, offL, List.getElem?_map, h]; rfl
  have hget : ∀ row ∈ rows, ∀ c ∈ memsM m, 0 ≤ row.getD c 0 ∧ row.getD c 0 ≤ 2147483647 := fun row hr c hc => by
    have h1 := hlen row hr c hc
    have h2 : row.getD c 0 = row[c] := by simp [List.getD, List.getElem?_eq_getElem h1]
    rw [h2]
    exact hbd row hr _ (List.getElem_mem _)
  have boff : ∀ o ∈ offs, -2147483647 ≤ o ∧ o ≤ 2147483647 := fun o ho => by
    rw [hoffs.out] at ho
    obtain ⟨row, hr, rfl⟩ := List.mem_map.1 ho
    exact leastN_bd (fun c hc => by have := hget row hr c hc; omega) (by omega) (by omega)
  have bsum : ∀ k, -(2147483647 * 64) ≤ sumL (offs.take k) ∧ sumL (offs.take k) ≤ 2147483647 * 64 := fun k => by
    have h1 := sumA_bd (B := 2147483647) (l := offs.take k) fun x hx => boff x (List.mem_of_mem_take hx)
    have h2 : (offs.take k).length ≤ 64 := by rw [List.length_take]; omega
    omega
  have LE := fun (B : Option Addr) (c : Nat) (row : List Int) (hrow : row ∈ rows) (W : World) (x : Ext w W) (h : RdI W B row) => least_any B c row m hm h63 (hlen row hrow) W (hT.ext x) h
  unfold setV at LE ⊢
  replace LE := Lib.hid LE
  replace hV := Lib.hid hV
  replace hR := Lib.hid hR
  replace hget := Lib.hid hget
  replace hbd := Lib.hid hbd
  replace hlen := Lib.hid hlen
  replace boff := Lib.hid boff
  replace bsum := Lib.hid bsum
  replace eoff := Lib.hid eoff
  replace lus := Lib.hid lus
  replace loff := Lib.hid loff
  refine callsIn_of_wp_marks Tryd.func50 rfl trivial ?_ rfl
  simp only [Tryd.ntmps50, List.size_toArray, List.length_cons, List.length_nil, Nat.reduceAdd, Nat.reduceSub, Array.replicate_succ, Array.replicate_zero, List.push_toArray, List.append_toArray, List.nil_append, List.cons_append]
  gi_wp2
  have START : Hid (RedS w ((((w.alloc (.cells #[.slice A rows.length rc] 23)).alloc (.cells #[.int .u64 m, .int .u64 0] 55)).alloc (.cells #[.int .i64 0] 3)).alloc (.cells #[.slice none 0 0] 22)) A rows.length rc m (sumL (offs.take 0)) none 0 0 (offs.take 0)) :=
    ⟨((((Ext.rf w).alloc _).alloc _).alloc _).alloc _, .alloc (.alloc (.alloc (.new rfl) _) _) _, .alloc (.alloc (.new (by simp)) _) _, .alloc (.new (by simp)) _, .new (by simp), World.ownsRow_nil _ _ _ _, by simp⟩
  gi_loopw [17] (fun v wr => ∃ (k : Nat) (OA : Option Addr) (oc : Nat), v = .int .i64 k ∧ k ≤ rows.length ∧ Hid (RedS w wr A rows.length rc m (sumL (offs.take k)) OA k oc (offs.take k))) (fun v _ => rows.length - (intOf v).toNat)
  case atStart => exact ⟨0, none, 0, rfl, by omega, START⟩
  case round =>
    obtain ⟨wo, rfl⟩ : ∃ wo : World, wo = wr := ⟨_, rfl⟩
    clear START
    obtain ⟨k, OA, oc, rfl, hk, HH⟩ := hrel
    obtain ⟨Y, bR, bS, bU, bO, oO, zO⟩ := HH.out
    by_cases hlt : k < rows.length
    · have hlu : k < us.length := by rw [lus.out]; exact hlt
      have er : rows[k]? = some rows[k] := List.getElem?_eq_getElem hlt
      obtain ⟨D, d, hu, oD⟩ := hR.out.2 k _ er
      have hmem : rows[k] ∈ rows := List.getElem_mem hlt
      generalize rows[k] = row at *
      obtain ⟨ab, ao, vv, rfl, zv, cv, ev⟩ := (hV.out.ext Y).at hlu
      obtain rfl : .slice D row.length d = vv := by
        have h := ev.out
        rw [hu] at h
        exact Option.some.inj h
      obtain ⟨ob, hob⟩ : ∃ ob, Hid (ob = leastN (fun c => row.getD c 0) (-1) (memsM m)) := ⟨_, rfl⟩
      have eo := eoff.out k row er
      rw [← hob.out] at eo
      have et : Hid (offs.take (k + 1) = offs.take k ++ [ob]) := by
        have h : offs.take (k + 1) = offs.take k ++ [ob] := by rw [List.take_add_one, eo]; rfl
        exact h
      have es : sumL (offs.take (k + 1)) = sumL (offs.take k) + ob := by rw [et.out, sumA_snoc]
      have b1 := bsum.out k
      have b2 := bsum.out (k + 1)
      have lk : (offs.take k).length = k := by rw [List.length_take, loff.out]; omega
      obtain ⟨su, hsu⟩ : ∃ su, Hid (su = sumL (offs.take k)) := ⟨_, rfl⟩
      rw [← hsu.out] at bU es b1
      rw [es] at b2
      have hw : IntKind.i64.wrap (su + ob) = su + ob := IntWalk.i64_in _ (by omega)
      have L1 := Lib.hid (LE.out D d row hmem wo Y (oD.read.ext Y))
      rw [← hob.out] at L1
      have cS0 : wo.cell? ⟨w.heap.size + 1, 0, none⟩ = some (.int .u64 m) := bS.cell 0
      have cS1 : wo.cell? ⟨w.heap.size + 1, 1, none⟩ = some (.int .u64 0) := bS.cell 1
      have q1 : (k : Int) < (rows.length : Int) := by omega
      replace es := Lib.hid es
      replace Y := Lib.hid Y
      replace bR := Lib.hid bR
      replace bS := Lib.hid bS
      replace bU := Lib.hid bU
      replace bO := Lib.hid bO
      replace oO := Lib.hid oO
      replace lk := Lib.hid lk
      clear HH ev eo hu oD er b1 b2
      gi_wp2
      refine ⟨trivial, ?_⟩
      refine (callsIn_wide.2 L1.out).mono ?_
      rintro e w1 ⟨rfl, x1⟩
      have U1 := bU.out.ext x1
      have O1 := bO.out.ext x1
      have cU : w1.cell? ⟨w.heap.size + 1 + 1, 0, none⟩ = some (.int .i64 su) := U1.cell 0
      have fU := U1.free 0
      have hrow : (w1.setCell ⟨w.heap.size + 1 + 1, 0, none⟩ (.int .i64 (su + ob))).ownsRow (w.heap.size + 1 + 1 + 1 + 1) 3 1 (.slice OA k oc) k ((offs.take k).map (Value.int .i64)) := by
        have h1 : w1.ownsRow (w.heap.size + 1 + 1 + 1 + 1) 3 1 (.slice OA k oc) k ((offs.take k).map (Value.int .i64)) := OwV.ext (n := k) oO.out x1
        exact OwV.keep (n := k) h1 (fun g hg => by
          have := OwV.lt (n := k) h1 g hg
          exact Below.heap_setCell w1 ⟨w.heap.size + 1 + 1, 0, none⟩ _ g (by simp; omega))
      have cO : (w1.setCell ⟨w.heap.size + 1 + 1, 0, none⟩ (.int .i64 (su + ob))).cell? ⟨w.heap.size + 1 + 1 + 1, 0, none⟩ = some (.slice OA k oc) := (O1.far (p := ⟨w.heap.size + 1 + 1, 0, none⟩) (by simp) _).cell 0
      gi_wp2_with (gi_at_builtin; go_loud (refine wpListIn_append_own _ rfl _ _ 22 rfl (w.heap.size + 1 + 1 + 1 + 1) 3 i0 (.int .i64 0) 1 8 Tryd.underlying22 hi hz0 hz1 hz2 rfl (by decide) _ _ _ rfl (hrow.alloc _) ⟨w1.heap.size, 0, none⟩ 1 1 [.int .i64 ob] rfl rfl (by simpa using cell_one_new (w1.setCell ⟨w.heap.size + 1 + 1, 0, none⟩ (.int .i64 (su + ob))) (.int .i64 ob) 3) (by simp [Value.oneCell']) (by simp only [maxLen]; omega) (by omega) (by have := x1.size; simp; omega) ?_; intro v' w3 hown' hgrow _; obtain ⟨g', cap', rfl⟩ := ownsRow_succ hown'; have hO3 := ((O1.far (p := ⟨w.heap.size + 1 + 1, 0, none⟩) (by simp) (.int .i64 (su + ob))).alloc _).grown hgrow (owned_ge hrow (by omega)); have hc3 := hO3.cell 0; have hf3 := hO3.free 0))
      have Y3 : Hid (Ext w w3) := (((Y.out.tr x1).setNew (by simp <;> omega) (.int .i64 (su + ob))).alloc _).grow hgrow (fun b hb => Classical.byContradiction fun hn => owned_ge hrow (b := b) (by omega) hb)
      have hR3 := Lib.hid ((((bR.out.ext x1).far (p := ⟨w.heap.size + 1 + 1, 0, none⟩) (by simp <;> omega) (.int .i64 (su + ob))).alloc _).grown hgrow (owned_ge hrow (by omega)))
      have hS3 : Hid (Blk w3 (w.heap.size + 1) 55 #[.int .u64 m, .int .u64 0]) := (((bS.out.ext x1).far (p := ⟨w.heap.size + 1 + 1, 0, none⟩) (by simp <;> omega) (.int .i64 (su + ob))).alloc _).grown hgrow (owned_ge hrow (by omega))
      have hU3 : Hid (Blk w3 (w.heap.size + 1 + 1) 3 #[.int .i64 (su + ob)]) := (((U1.set 0 (.int .i64 (su + ob))).alloc _).grown hgrow (owned_ge hrow (by omega)))
      have hown3 : Hid (w3.ownsRow (w.heap.size + 1 + 1 + 1 + 1) 3 1 (.slice (some ⟨g', 0, none⟩) (k + 1) cap') (k + 1) ((offs.take (k + 1)).map (Value.int .i64))) := by
        have h : w3.ownsRow (w.heap.size + 1 + 1 + 1 + 1) 3 1 (.slice (some ⟨g', 0, none⟩) (k + 1) cap') (k + 1) ((offs.take (k + 1)).map (Value.int .i64)) := by
          rw [et.out, List.map_append]
          exact hown'
        exact h
      have FIN : Hid (RedS w (w3.setCell ⟨w.heap.size + 1 + 1 + 1, 0, none⟩ (.slice (some ⟨g', 0, none⟩) (k + 1) cap')) (some ⟨ab, ao, none⟩) rows.length rc m (sumL (offs.take (k + 1))) (some ⟨g', 0, none⟩) (k + 1) cap' (offs.take (k + 1))) := by
        refine ⟨Y3.out.setNew (by simp <;> omega) _, hR3.out.far (by simp <;> omega) _, hS3.out.far (by simp <;> omega) _, ?_, hO3.set 0 _, ?_, ?_⟩
        · rw [es.out]
          exact hU3.out.far (by simp <;> omega) _
        · exact OwV.keep (n := k + 1) hown3.out (fun g hg => by
            have := OwV.lt (n := k + 1) hown3.out g hg
            exact Below.heap_setCell w3 ⟨w.heap.size + 1 + 1 + 1, 0, none⟩ _ g (by simp; omega))
        · have h1 := OwV.lt (n := k + 1) hown3.out g' (by simp [bl])
          simp
          omega
      go_roundw
      case rel => exact ⟨k + 1, some ⟨g', 0, none⟩, cap', by go_num, by omega, FIN⟩
      case measure =>
        simp only [intOf]
        omega
    · obtain rfl : k = rows.length := by omega
      have q0 : ¬ ((rows.length : Int) < (rows.length : Int)) := by omega
      have et : offs.take rows.length = offs := List.take_of_length_le (by rw [loff.out]; exact Nat.le_refl _)
      rw [et] at bU oO
      have cS0 : wo.cell? ⟨w.heap.size + 1, 0, none⟩ = some (.int .u64 m) := bS.cell 0
      have cS1 : wo.cell? ⟨w.heap.size + 1, 1, none⟩ = some (.int .u64 0) := bS.cell 1
      replace Y := Lib.hid Y
      replace bR := Lib.hid bR
      replace bS := Lib.hid bS
      replace bU := Lib.hid bU
      replace bO := Lib.hid bO
      replace oO := Lib.hid oO
      clear HH et
      gi_wp2
      refine ⟨trivial, ?_⟩
      refine (callsIn_wide.2 (all_any m _)).mono ?_
      rintro e w' ⟨rfl, rfl⟩
      gi_wp2
      have loO : OwI wo (w.heap.size + 1 + 1 + 1 + 1) OA oc offs := by
        unfold OwI
        rw [loff.out]
        exact oO.out
      have bB : Blk (wo.alloc (.cells #[.int .u64 m, .int .u64 0] 55)) wo.heap.size 55 #[.int .u64 m, .int .u64 0] := .new rfl
      have hB0 : Ext w (wo.alloc (.cells #[.int .u64 m, .int .u64 0] 55)) := Y.out.alloc _
      refine wpIn_rangeFunc_ownG rfl (by omega) (gf := 85) (lb := #[.pointer (some ⟨wo.heap.size, 0, none⟩)]) rfl trivial (enters_of Tryd.func85 (by kernel_rfl) rfl)
        (all_stops 2 m hm h63 wo.heap.size w.heap.size _ bB (hT.ext hB0) hB0.size hg) SetKp.tr (setKp_b (cs := #[.int .u64 m, .int .u64 0]) hB0.size bB) (Below.refl _ _) (fun _ => rfl)
        (fun pre W => Blk W (w.heap.size + 1 + 1) 3 #[.int .i64 (sumL offs + sumL ((inL pre).map fun c => colF c (-1) rows offs))] ∧ Held (wo.alloc (.cells #[.int .u64 m, .int .u64 0] 55)) (w.heap.size + 1 + 1) W ∧ Below w.heap.size w W)
        (fun _ _ _ => False)
        (OwnFrom.and (ownFrom_blk (by simp <;> omega) _ _) (OwnFrom.and (ownFrom_held (Nat.le_refl _)) (ownFrom_below (Nat.le_refl _) (by simp <;> omega))))
        (fun _ _ _ _ _ hs _ _ => hs)
        ⟨by simpa [inL, sumL] using bU.out.alloc _, ⟨Nat.le_refl _, fun _ _ _ => rfl⟩, hB0⟩
        (fun x => { tmps := #[.slice A rows.length rc, .agg #[.int .u64 m, .int .u64 0], .pointer (some ⟨w.heap.size, 0, none⟩), .pointer (some ⟨w.heap.size + 1, 0, none⟩), .int .i64 0, .pointer (some ⟨w.heap.size + 1 + 1, 0, none⟩), .pointer (some ⟨w.heap.size + 1 + 1 + 1, 0, none⟩), undef, u8, u9, .int .i64 ((x.1 : Nat) : Int), undef, undef, undef, undef, .slice A rows.length rc, .int .i64 rows.length, .int .i64 rows.length, .bool false, u19, u20, u21, u22, u23, u24, u25, u26, u27, u28, u29, u30, u31, .agg #[.int .u64 m, .int .u64 0], .func (.func 85) #[] #[.pointer (some ⟨wo.heap.size, 0, none⟩)], .int .i64 ((x.1 : Nat) : Int), undef, undef, undef, undef, undef, undef, undef, undef, undef, undef, undef, undef, undef, undef, undef, undef, undef, undef, undef, undef, undef, undef, undef, undef, undef, undef, undef, undef, undef], defers := [] }) ?assign ?body ?done ?stop
      case assign =>
        intro l x W K hK
        gi_wp2
        exact hK
      case body =>
        rintro l pre x W ⟨hO, hH, hB⟩ hlt
        obtain ⟨su, hsu⟩ : ∃ su, Hid (su = sumL offs + sumL ((inL pre).map fun c => colF c (-1) rows offs)) := ⟨_, rfl⟩
        obtain ⟨cf, hcf⟩ : ∃ cf, Hid (cf = colF x.1 (-1) rows offs) := ⟨_, rfl⟩
        rw [← hsu.out] at hO
        have cO : W.cell? ⟨w.heap.size + 1 + 1, 0, none⟩ = some (.int .i64 su) := hO.cell 0
        have fO := hO.free 0
        have cR : W.cell? ⟨w.heap.size, 0, none⟩ = some (.slice A rows.length rc) := (hH.blk (bR.out.alloc _) (by omega)).cell 0
        have bF := Lib.hid (hH.blk (bO.out.alloc _) (by omega))
        have rO : Hid (RdI W OA offs) := by
          have h : OwI W (w.heap.size + 1 + 1 + 1 + 1) OA oc offs := OwV.keep (n := offs.length) loO (fun g hg => by
            have := OwV.lt (n := offs.length) loO g hg
            exact (hH.2 g (by simp; omega) (by omega)).trans (Below.heap_alloc _ _ g (by omega)))
          exact h.read
        have eN : Hid (sumL offs + sumL ((inL (pre ++ [x])).map fun c => colF c (-1) rows offs) = su + cf) := by
          have h : sumL offs + sumL ((inL (pre ++ [x])).map fun c => colF c (-1) rows offs) = su + cf := by
            rw [inL_snoc, List.map_append, List.map_cons, List.map_nil, sumA_snoc, hsu.out, hcf.out]
            omega
          exact h
        have bdS : Hid (-(2147483647 * 64) + -(2 * 2147483647 * 64) ≤ su ∧ su ≤ 2147483647 * 64 + 2 * 2147483647 * 64) := by
          have h1 := bsum.out rows.length
          rw [List.take_of_length_le (by rw [loff.out]; exact Nat.le_refl _)] at h1
          have h2 := sumA_bd (B := 2 * 2147483647) (l := (inL pre).map fun c => colF c (-1) rows offs) fun z hz => by
            obtain ⟨c, hc, rfl⟩ := List.mem_map.1 hz
            obtain ⟨c', _, rfl⟩ := List.mem_map.1 hc
            exact colF_bd (fun row hr => hget.out row hr c'.1 c'.2) boff.out (by omega) (by omega) (by omega)
          have h3 : ((inL pre).map fun c => colF c (-1) rows offs).length ≤ 64 := by
            have := memsM_le m
            simp [inL]
            omega
          have h : -(2147483647 * 64) + -(2 * 2147483647 * 64) ≤ su ∧ su ≤ 2147483647 * 64 + 2 * 2147483647 * 64 := by
            rw [hsu.out]
            omega
          exact h
        have bdC : Hid (-(2 * 2147483647) ≤ cf ∧ cf ≤ 2 * 2147483647) := by
          have h := colF_bd (c := x.1) (B := 2147483647) (rows := rows) (off := offs) (b := -1) (fun row hr => hget.out row hr x.1 x.2) boff.out (by omega) (by omega) (by omega)
          rw [← hcf.out] at h
          exact h
        have hmx : Tryd.prog.follows .mixedOrders = true := by kernel_rfl
        have x63 := h63 x.1 x.2
        have HH' := Lib.hid hH
        have HB' := Lib.hid hB
        have HO' := Lib.hid hO
        have START2 : Hid (colF x.1 (-1) (rows.drop 0) (offs.drop 0) = cf) := hcf.out.symm
        clear hsu hH hB hO loO bB hB0
        gi_wp2
        gi_loopw [11, 37] (fun b v wr => ∃ (k : Nat) (bb : Int), v = .int .i64 k ∧ b = .int .i64 bb ∧ k ≤ rows.length ∧ Hid (colF x.1 bb (rows.drop k) (offs.drop k) = cf) ∧ Hid (Ext W wr)) (fun _ v _ => rows.length - (intOf v).toNat)
        case atStart => exact ⟨0, -1, rfl, rfl, by omega, START2, Ext.rf W⟩
        case round =>
          obtain ⟨k, bb, rfl, rfl, hk', hcol, xr⟩ := hrel
          by_cases hlt' : k < rows.length
          · have er : rows[k]? = some rows[k] := List.getElem?_eq_getElem hlt'
            obtain ⟨D, d, hu, oD⟩ := hR.out.2 k _ er
            have hmem : rows[k] ∈ rows := List.getElem_mem hlt'
            have edr : rows.drop k = rows[k] :: rows.drop (k + 1) := List.drop_eq_getElem_cons hlt'
            generalize rows[k] = row at *
            have xw : Hid (Ext w wr) := Below.trans HB'.out (xr.out.mono HB'.out.size)
            obtain ⟨ab, ao, vv, rfl, zv, cv, ev⟩ := (hV.out.ext xw.out).at (j := k) (by rw [lus.out]; exact hlt')
            obtain rfl : .slice D row.length d = vv := by
              have h := ev.out
              rw [hu] at h
              exact Option.some.inj h
            have hxr := hlen.out row hmem x.1 x.2
            obtain ⟨cb, co, y, rfl, zy, cy, ey, _⟩ := (oD.read.ext xw.out).at (k := x.1) hxr
            obtain ⟨ob, oo, o, rfl, zo, co', eo, edo⟩ := (rO.out.ext xr.out).at (k := k) (by rw [loff.out]; exact hlt')
            have cOF : wr.cell? ⟨w.heap.size + 1 + 1 + 1, 0, none⟩ = some (.slice (some ⟨ob, oo, none⟩) rows.length oc) := (bF.out.ext xr.out).cell 0
            have yb := hget.out row hmem x.1 x.2
            have ob' := boff.out o (List.mem_of_getElem? eo.out)
            rw [getD_some ey.out] at yb
            have hw : IntKind.i64.wrap (y - o) = y - o := IntWalk.i64_in _ (by omega)
            have hcol2 := hcol.out
            rw [edr, edo.out, colF, getD_some ey.out] at hcol2
            replace hcol2 := Lib.hid hcol2
            have q1 : (k : Int) < (rows.length : Int) := by omega
            have qx : ((x.1 : Nat) : Int) < (row.length : Int) := by omega
            clear hcol ev hu oD edr er eo edo ey yb ob' hcf
            by_cases hneg : bb < 0
            · rw [if_pos hneg] at hcol2
              gi_wp2
              refine wpIn_region_quiet_r (by kernel_rfl) (by kernel_rfl) (by kernel_rfl) ?_
              repeat (gi_big_quiet_step (fail))
              refine wpQuietIn_nil ?_
              rintro _ ⟨nq, rfl⟩
              gi_wp2
              exact ⟨⟨k + 1, y - o, by go_num, rfl, by omega, hcol2, xr.out.drewN nq⟩, by simp only [intOf]; omega⟩
            · rw [if_neg hneg] at hcol2
              by_cases hy : y - o < bb
              · rw [if_pos hy] at hcol2
                gi_wp2
                refine wpIn_region_quiet_r (by kernel_rfl) (by kernel_rfl) (by kernel_rfl) ?_
                repeat (gi_big_quiet_step (fail))
                refine wpQuietIn_nil ?_
                rintro _ ⟨nq, rfl⟩
                gi_wp2
                exact ⟨⟨k + 1, y - o, by go_num, rfl, by omega, hcol2, xr.out.drewN nq⟩, by simp only [intOf]; omega⟩
              · rw [if_neg hy] at hcol2
                gi_wp2
                refine wpIn_region_quiet_r (by kernel_rfl) (by kernel_rfl) (by kernel_rfl) ?_
                repeat (gi_big_quiet_step (fail))
                refine wpQuietIn_nil ?_
                rintro _ ⟨nq, rfl⟩
                gi_wp2
                exact ⟨⟨k + 1, bb, by go_num, rfl, by omega, hcol2, xr.out.drewN nq⟩, by simp only [intOf]; omega⟩
          · obtain rfl : k = rows.length := by omega
            have e1 : rows.drop rows.length = [] := List.drop_length
            have hcol2 := hcol.out
            rw [e1] at hcol2
            obtain rfl : bb = cf := by
              rw [← hcol2]
              cases offs.drop rows.length <;> rfl
            have hw2 : IntKind.i64.wrap (su + bb) = su + bb := IntWalk.i64_in _ (by have := bdS.out; have := bdC.out; omega)
            have zW : wo.heap.size + 1 ≤ W.heap.size := by simpa using HH'.out.1
            have q0 : ¬ ((rows.length : Int) < (rows.length : Int)) := by omega
            have F1 : Hid (KeepsFrom (wo.heap.size + 1) W (wr.setCell ⟨w.heap.size + 1 + 1, 0, none⟩ (.int .i64 (su + bb)))) := (KeepsFrom.of_ext xr.out).trans ((KeepsOthers.setCell _ _ _).from _)
            have F2 : Hid (SetKp w.heap.size wo.heap.size W (wr.setCell ⟨w.heap.size + 1 + 1, 0, none⟩ (.int .i64 (su + bb)))) := ⟨(xr.out.mono (by omega)).setCell (by simp <;> omega) _, (Below.heap_setCell wr ⟨w.heap.size + 1 + 1, 0, none⟩ _ wo.heap.size (by simp; omega)).trans (xr.out.block wo.heap.size (by omega))⟩
            have F3 : Hid (Blk (wr.setCell ⟨w.heap.size + 1 + 1, 0, none⟩ (.int .i64 (su + bb))) (w.heap.size + 1 + 1) 3 #[.int .i64 (su + bb)]) := (HO'.out.ext xr.out).set 0 _
            have F4 := Lib.hid ((HH'.out.ext xr.out).set (.int .i64 (su + bb)))
            have F5 : Hid (Ext w (wr.setCell ⟨w.heap.size + 1 + 1, 0, none⟩ (.int .i64 (su + bb)))) := (Below.trans HB'.out (xr.out.mono HB'.out.size)).setCell (by simp <;> omega) _
            have cO2 : wr.cell? ⟨w.heap.size + 1 + 1, 0, none⟩ = some (.int .i64 su) := (HO'.out.ext xr.out).cell 0
            have fO2 := (HO'.out.ext xr.out).free 0
            clear hcol hcol2 e1 hcf START2
            gi_wp2
            exact ⟨F1.out, F2.out, by rw [eN.out]; exact F3.out, F4.out, F5.out⟩
      case done =>
        rintro D ys W hD rfl ⟨hO, _, hB⟩ hK
        rw [inL_attach] at hO
        have cO := hO.cell 0
        gi_wp2
        refine ⟨by simp, .inl ⟨_, _, rfl, run_takeDeferred hK, ?_⟩⟩
        refine ⟨_, results_tmp rfl _ _ _, ?_, hB.trans (belowK_b (w := w) (Nat.le_refl _) W D _ _ (by simp at hD; omega) hK rfl rfl)⟩
        rw [hoffs.out]
        rfl
      case stop =>
        rintro D c pre W _ _ h _
        exact h.elim
theorem reduce_any {base : Nat} (A : Option Addr) (rc : Nat) (us : List Value) (rows : List (List Int)) (m : Nat) (hm : m < 18446744073709551616) (h63 : ∀ x ∈ memsM m, x < 63) (hlen : ∀ row ∈ rows, ∀ x ∈ memsM m, x < row.length) (hbd : ∀ row ∈ rows, ∀ x ∈ row, 0 ≤ x ∧ x ≤ 2147483647) (hr64 : rows.length ≤ 64)
    (w : World) (hT : Tab w) (hV : RdV w 22 A us) (hR : RowsO w base us rows) :
    Calls Tryd.prog 50 #[.slice A rows.length rc, setV m] w fun e W' => e = .returned (.int .i64 (reduceP rows (memsM m))) ∧ Ext w W' :=
  callsIn_wide.1 (reduce_in A rc us rows m hm h63 hlen hbd hr64 w hT hV hR)
end Go.Proofs.YtpngflmngnjjoaaDoor
namespace Go.Proofs.YtpngflmngnjjoaaDoor
open Go.RowKit Go.ChangeShapes Go.WideShapes Go.ChangeAt Go.Deep Go.Shelf

/-- what a beginning costs -/
def costF : List (List Int) → List Int → Int
  | row :: rows, c :: p => row.getD c.toNat 0 + costF rows p
  | _, _ => 0
def boundA (rows : List (List Int)) (p : List Int) : Int × Int :=
  match freeP rows.length p with
  | none => (0, 1)
  | some m => (costF rows p + (if p.length < rows.length then reduceP (rows.drop p.length) (memsM m) else 0), 0)
theorem freeM_in {n : Nat} : ∀ {p : List Int} {m q : Nat}, SubN n m → freeM m p = some q → ∀ c ∈ p, 0 ≤ c ∧ c < n
  | [], _, _, _, _, c, hc => by cases hc
  | d :: p, m, q, h, e, c, hc => by
    unfold freeM at e
    split at e
    · rename_i hd
      rcases List.mem_cons.1 hc with rfl | hc
      · have := h.2 c.toNat (memsM_mem.2 ⟨by omega, hd.2.2⟩)
        omega
      · exact freeM_in (h.clr _) e c hc
    · cases e
theorem freeP_in {n : Nat} (h24 : n ≤ 24) {p : List Int} {q : Nat} (e : freeP n p = some q) : p.length ≤ n ∧ (∀ c ∈ p, 0 ≤ c ∧ c < n) ∧ SubN n q := by
  unfold freeP at e
  split at e
  · cases e
  · exact ⟨by omega, freeM_in (subN_full h24) e, freeM_sub (subN_full h24) e⟩
theorem costF_snoc : ∀ {rows : List (List Int)} {p : List Int} {k : Nat} {row : List Int} {c : Int}, rows[k]? = some row → p[k]? = some c → costF rows (p.take (k + 1)) = costF rows (p.take k) + row.getD c.toNat 0
  | r :: rows, d :: p, 0, row, c, h1, h2 => by
    simp at h1 h2
    subst h1 h2
    cases rows <;> simp [costF]
  | r :: rows, d :: p, k + 1, row, c, h1, h2 => by
    simp at h1 h2
    simp only [List.take_succ_cons, costF]
    rw [costF_snoc h1 h2]
    omega
  | [], _, _, _, _, h1, _ => by simp at h1
  | _ :: _, [], _, _, _, _, h2 => by simp at h2
theorem costF_bd {B : Int} (hB : 0 ≤ B) : ∀ {rows : List (List Int)} {p : List Int}, (∀ row ∈ rows, ∀ c ∈ p, 0 ≤ row.getD c.toNat 0 ∧ row.getD c.toNat 0 ≤ B) → 0 ≤ costF rows p ∧ costF rows p ≤ B * p.length
  | [], p, _ => by
    have : 0 ≤ B * (p.length : Int) := Int.mul_nonneg hB (by omega)
    simp only [costF]
    omega
  | _ :: _, [], _ => by simp [costF]
  | r :: rows, d :: p, h => by
    have h1 := h r (by simp) d (by simp)
    have h2 := costF_bd hB (rows := rows) (p := p) fun row hr c hc => h row (by simp [hr]) c (by simp [hc])
    simp only [costF, List.length_cons, Int.natCast_add, Int.natCast_one, Int.mul_add, Int.mul_one]
    omega
theorem reduceP_bd {rows : List (List Int)} {m : Nat} (hr : rows.length ≤ 24) (h : ∀ row ∈ rows, ∀ c ∈ memsM m, 0 ≤ row.getD c 0 ∧ row.getD c 0 ≤ 2147483647) : -(2147483647 * 300) ≤ reduceP rows (memsM m) ∧ reduceP rows (memsM m) ≤ 2147483647 * 300 := by
  have h1 : ∀ o ∈ offL rows (memsM m), -2147483647 ≤ o ∧ o ≤ 2147483647 := fun o ho => by
    obtain ⟨row, hr, rfl⟩ := List.mem_map.1 ho
    exact leastN_bd (fun c hc => by have := h row hr c hc; omega) (by omega) (by omega)
  have h2 := sumA_bd (B := 2147483647) h1
  have h3 : (offL rows (memsM m)).length = rows.length := by simp [offL]
  have h4 := sumA_bd (B := 2 * 2147483647) (l := (memsM m).map fun c => colF c (-1) rows (offL rows (memsM m))) fun z hz => by
    obtain ⟨c, hc, rfl⟩ := List.mem_map.1 hz
    exact colF_bd (fun row hr => h row hr c hc) h1 (by omega) (by omega) (by omega)
  have h5 := memsM_le m
  rw [List.length_map] at h4
  unfold reduceP
  omega
theorem RowsO.drop {w : World} {base : Nat} {us : List Value} {rows : List (List Int)} (h : RowsO w base us rows) (k : Nat) : RowsO w base (us.drop k) (rows.drop k) := by
  refine ⟨by rw [List.length_drop, List.length_drop, h.1], fun i r hr => ?_⟩
  rw [List.getElem?_drop] at hr
  obtain ⟨A, c, h1, h2⟩ := h.2 (k + i) r hr
  exact ⟨A, c, by rw [List.getElem?_drop]; exact h1, h2⟩
/-- the kernel's rows, in form -/
structure RowsOk (rows : List (List Int)) : Prop where
  n1 : 1 ≤ rows.length
  n2 : rows.length ≤ 24
  row : ∀ row ∈ rows, row.length = rows.length
  num : ∀ row ∈ rows, ∀ x ∈ row, 0 ≤ x ∧ x ≤ 2147483647
theorem RowsOk.get {rows : List (List Int)} (h : RowsOk rows) {row : List Int} (hr : row ∈ rows) {c : Nat} (hc : c < rows.length) : 0 ≤ row.getD c 0 ∧ row.getD c 0 ≤ 2147483647 := by
  have h1 : c < row.length := by rw [h.row row hr]; exact hc
  have h2 : row.getD c 0 = row[c] := by simp [List.getD, List.getElem?_eq_getElem h1]
  rw [h2]
  exact h.num row hr _ (List.getElem_mem _)
set_option maxRecDepth 100000 in
set_option maxHeartbeats 4000000 in
theorem bounda_any {base g : Nat} {rows : List (List Int)} (P : Option Addr) (pc : Nat) (p : List Int) (w : World) (hT : Tab w) (H : KernA w base g rows) (ok : RowsOk rows) (hP : RdI w P p) (lp : p.length ≤ 1000000000) :
    Calls Tryd.prog 17 #[.pointer (some ⟨g, 0, none⟩), .slice P p.length pc] w fun e w' => e = .returned (.tuple #[.int .i64 (boundA rows p).1, .int .i64 (boundA rows p).2]) ∧ Ext w w' := by
  have FR := fun (W : World) (x : Ext w W) => free_any P pc p W (H.ext x) ok.n1 ok.n2 (hP.ext x) lp
  have l1 := ok.n1
  have l2 := ok.n2
  obtain ⟨C, cc, us, hB, _, hV, hR⟩ := H
  have lus : Hid (us.length = rows.length) := hR.1
  have lcc : rows.length ≤ cc := by
    rcases hV.cases with ⟨_, _, h, _⟩ | ⟨_, _, _, _, _, h, _⟩ <;> omega
  obtain ⟨r, hr⟩ : ∃ r, Hid (freeP rows.length p = r) := ⟨_, rfl⟩
  rw [hr.out] at FR
  cases r with
  | none =>
    have e : boundA rows p = (0, 1) := by unfold boundA; rw [hr.out]
    rw [e]
    unfold freeV setV at FR
    replace FR := Lib.hid FR
    go_enter Tryd.func17, Tryd.ntmps17
    go_wp2_with (fail)
    refine (FR.out _ (Ext.rf w)).mono ?_
    rintro e w1 ⟨rfl, x1⟩
    go_wp2_with (fail)
    go_ret2
    exact ⟨rfl, by (repeat (first | assumption | exact Ext.rf _ | apply Ext.drew | apply Ext.drewN | apply Ext.alloc))⟩
  | some m =>
    obtain ⟨hpl, hin, hS⟩ := freeP_in l2 hr.out
    have e : boundA rows p = (costF rows p + (if p.length < rows.length then reduceP (rows.drop p.length) (memsM m) else 0), 0) := by unfold boundA; rw [hr.out]
    obtain ⟨tot, ht⟩ : ∃ tot, Hid (tot = costF rows p + (if p.length < rows.length then reduceP (rows.drop p.length) (memsM m) else 0)) := ⟨_, rfl⟩
    rw [e, ← ht.out]
    clear e
    unfold freeV setV at FR
    replace FR := Lib.hid FR
    replace hS := Lib.hid hS
    replace hin := Lib.hid hin
    replace ok := Lib.hid ok
    replace hP := Lib.hid hP
    replace hV := Lib.hid hV
    replace hR := Lib.hid hR
    replace hT := Lib.hid hT
    replace hB := Lib.hid hB
    go_enter Tryd.func17, Tryd.ntmps17
    go_wp2_with (fail)
    refine (FR.out _ (Ext.rf w)).mono ?_
    rintro e w1 ⟨rfl, x1⟩
    have z1 := x1.size
    have START := Lib.hid (And.intro (x1.alloc (.cells #[.int .u64 m, .int .u64 0] 55)) (show Blk (w1.alloc (.cells #[.int .u64 m, .int .u64 0] 55)) w1.heap.size 55 #[.int .u64 m, .int .u64 0] from .new rfl))
    obtain ⟨sb, hsb⟩ : ∃ sb, Hid (sb = w1.heap.size) := ⟨_, rfl⟩
    have zsb : w.heap.size ≤ sb := by rw [hsb.out]; exact z1
    clear x1
    go_wp2_with (fail)
    rw [← hsb.out] at START ⊢
    go_loopw [8, 22] (fun s v wr => ∃ (k : Nat) (su : Int), v = .int .i64 k ∧ s = .int .i64 su ∧ k ≤ p.length ∧ Hid (costF rows (p.take k) = su) ∧ Hid (Ext w wr ∧ Blk wr sb 55 #[.int .u64 m, .int .u64 0])) (fun _ v _ => p.length - (intOf v).toNat)
    case atStart => exact ⟨0, 0, rfl, rfl, by omega, (by cases rows <;> rfl : costF rows (p.take 0) = 0), START⟩
    case round =>
      obtain ⟨wo, rfl⟩ : ∃ wo : World, wo = wr := ⟨_, rfl⟩
      clear START
      obtain ⟨k, su, rfl, rfl, hk, HS, HH⟩ := hrel
      obtain ⟨Y, bS⟩ := HH.out
      have bdS : Hid (0 ≤ su ∧ su ≤ 2147483647 * 24) := by
        have h1 := costF_bd (B := 2147483647) (rows := rows) (p := p.take k) (by omega) fun row hr c hc => by
          have := hin.out c (List.mem_of_mem_take hc)
          exact ok.out.get hr (by omega)
        have h2 : (p.take k).length ≤ 24 := by rw [List.length_take]; omega
        have h : 0 ≤ su ∧ su ≤ 2147483647 * 24 := by
          rw [← HS.out]
          omega
        exact h
      replace Y := Lib.hid Y
      replace bS := Lib.hid bS
      clear HH
      have bK : Blk wo g 52 #[.slice C rows.length cc] := hB.out.ext Y.out
      have cK : wo.cell? ⟨g, 0, none⟩ = some (.slice C rows.length cc) := bK.cell 0
      clear bK
      by_cases hlt : k < p.length
      · have hkr : k < rows.length := by omega
        have er : rows[k]? = some rows[k] := List.getElem?_eq_getElem hkr
        obtain ⟨D, d, hu, oD⟩ := hR.out.2 k _ er
        have hmem : rows[k] ∈ rows := List.getElem_mem hkr
        generalize rows[k] = row at *
        obtain ⟨pb, po, c, rfl, zp, cp, ep, _⟩ := (hP.out.ext Y.out).at hlt
        have hc := hin.out c (List.mem_of_getElem? ep.out)
        obtain ⟨ab, ao, vv, rfl, zv, cv, ev⟩ := (hV.out.read.ext Y.out).at (j := k) (by rw [lus.out]; exact hkr)
        obtain rfl : .slice D row.length d = vv := by
          have h := ev.out
          rw [hu] at h
          exact Option.some.inj h
        obtain ⟨i, rfl⟩ : ∃ i : Nat, c = (i : Int) := ⟨c.toNat, by omega⟩
        have lrow := ok.out.row row hmem
        obtain ⟨cb, co, y, rfl, zy, cy, ey, _⟩ := (oD.read.ext Y.out).at (k := i) (by omega)
        have yb := ok.out.get hmem (c := i) (by omega)
        rw [getD_some ey.out] at yb
        have b1 := bdS.out
        have hw : IntKind.i64.wrap (su + y) = su + y := IntWalk.i64_in _ (by omega)
        have HS2 : Hid (costF rows (p.take (k + 1)) = su + y) := by
          have h : costF rows (p.take (k + 1)) = su + y := by
            rw [costF_snoc er ep.out, HS.out, Int.toNat_natCast, getD_some ey.out]
          exact h
        have q1 : (k : Int) < (rows.length : Int) := by omega
        have q2 : (k : Int) < (p.length : Int) := by omega
        have q3 : (i : Int) < (row.length : Int) := by omega
        have FIN : Hid (Ext w wo ∧ Blk wo sb 55 #[.int .u64 m, .int .u64 0]) := ⟨Y.out, bS.out⟩
        clear ev hu oD er ep ey lrow b1 yb HS hc
        go_wp2_with (fail)
        go_roundw
        case rel => exact ⟨k + 1, su + y, by go_num, rfl, by omega, HS2, FIN⟩
        case measure => simp only [intOf]; omega
      · obtain rfl : k = p.length := by omega
        have HS2 : Hid (costF rows p = su) := by
          have h := HS.out
          rw [List.take_length] at h
          exact h
        clear HS
        have cS0 : wo.cell? ⟨sb, 0, none⟩ = some (.int .u64 m) := bS.out.cell 0
        have cS1 : wo.cell? ⟨sb, 1, none⟩ = some (.int .u64 0) := bS.out.cell 1
        by_cases hlr : p.length < rows.length
        · have ht2 := ht.out
          rw [if_pos hlr, HS2.out] at ht2
          replace ht2 := Lib.hid ht2
          have b1 : (0 : Int) ≤ (p.length : Int) := by omega
          have b2 : (p.length : Int) ≤ (cc : Int) := by omega
          have b3 : (p.length : Int) ≤ (rows.length : Int) := by omega
          have q0 : ¬ ((p.length : Int) < (p.length : Int)) := by omega
          have RE := fun (W : World) (x : Ext w W) (A : Option Addr) (rc : Nat) (hA : RdV W 22 A (us.drop p.length)) (hRo : RowsO W base (us.drop p.length) (rows.drop p.length)) => reduce_any (base := base) A rc (us.drop p.length) (rows.drop p.length) m hS.out.1 (fun x hx => by have := hS.out.2 x hx; omega) (fun row hr x hx => by rw [ok.out.row row (List.mem_of_mem_drop hr)]; exact hS.out.2 x hx) (fun row hr => ok.out.num row (List.mem_of_mem_drop hr)) (by rw [List.length_drop]; omega) W (hT.out.ext x) hA hRo
          have RB := reduceP_bd (rows := rows.drop p.length) (m := m) (by rw [List.length_drop]; omega) (fun row hr c hc => ok.out.get (List.mem_of_mem_drop hr) (hS.out.2 c hc))
          rw [List.length_drop] at RE
          unfold setV at RE
          replace RE := Lib.hid RE
          generalize reduceP (rows.drop p.length) (memsM m) = rp at *
          have hw2 : IntKind.i64.wrap (su + rp) = su + rp := IntWalk.i64_in _ (by have := bdS.out; omega)
          clear RB
          go_wp2_with (fail)
          refine (RE.out wo Y.out _ _ ((hV.out.read.ext Y.out).drop p.length) ((hR.out.ext Y.out).drop p.length)).mono ?_
          rintro e w3 ⟨rfl, x3⟩
          go_wp2_with (fail)
          obtain rfl : tot = su + rp := ht2.out
          go_ret2
          exact ⟨rfl, Y.out.tr x3⟩
        · have ht2 := ht.out
          rw [if_neg hlr, HS2.out, Int.add_zero] at ht2
          have b1 : (0 : Int) ≤ (p.length : Int) := by omega
          have b2 : (p.length : Int) ≤ (cc : Int) := by omega
          have b3 : (p.length : Int) ≤ (rows.length : Int) := by omega
          have q0 : ¬ ((p.length : Int) < (p.length : Int)) := by omega
          obtain rfl : tot = su := ht2
          go_wp2_with (fail)
          all_goals go_ret2
          all_goals exact ⟨rfl, Y.out⟩
end Go.Proofs.YtpngflmngnjjoaaDoor
