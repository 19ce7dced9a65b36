/-
  An assignment's kernel: New, Depth, free.
  An assignment's kernel: which columns a beginning leaves.
  An assignment's kernel: the least of a row's numbers in some columns.
  An assignment's kernel: what rows cost at least, in some columns.
-/
import Derived.Test.YtpfdkocelmmllaaDoorAssignP
import Derived.Test.YtpfdkocelmmllaaDoorICopy
import Derived.Test.YtpfdkocelmmllaaDoorSetList
import Derived.Test.YtpfdkocelmmllaaDoorPlainK
namespace Go.Proofs.YtpfdkocelmmllaaDoor
open Go.RowKit Go.ChangeShapes Go.WideShapes Go.ChangeAt Go.Deep

/-- the kernel at g: the rows, of its own -/
def KernA (w : World) (base g : Nat) (rows : List (List Int)) : Prop := ∃ C c us, Blk w g 48 #[.slice C rows.length c] ∧ base ≤ g ∧ OwV w base 22 1 C rows.length c us ∧ RowsO w base us rows
theorem KernA.ext {w w' : World} {base g : Nat} {rows : List (List Int)} (h : KernA w base g rows) (x : Ext w w') : KernA w' base g rows := by
  obtain ⟨C, c, us, h1, h2, h3, h4⟩ := h
  exact ⟨C, c, us, h1.ext x, h2, h3.ext x, h4.ext x⟩
def NewAPost (i : InstP) (w : World) (e : Ending) (w' : World) : Prop := ∃ g, e = .returned (.tuple #[.pointer (some ⟨g, 0, none⟩), .int .i64 0]) ∧ KernA w' w.heap.size g i.cost ∧ Ext w w'
set_option maxRecDepth 100000 in
set_option maxHeartbeats 1000000 in
theorem newa_yes (i : InstP) (vs : List Value) (w : World) (H : RInst w vs i) (hc : checkP i = 0) (hk : i.kind = 2) :
    Calls Tryd.prog 10 #[.agg (List.toArray vs)] w (NewAPost i w) := by
  have ok := square_ok hc (by omega)
  have lw : i.weight.length ≤ 1000000000 := by rw [ok.w]; simp
  have lv : i.value.length ≤ 1000000000 := by rw [ok.v]; simp
  have CH := fun (W : World) (x : Ext w W) => check_any i vs W (H.ext x) lw lv
  rw [hc] at CH
  have CP := fun (W : World) (x : Ext w W) => icopy_any i vs W (H.ext x) lw lv (by have := ok.len; have := ok.n2; omega) (fun r hr => by have := ok.row r hr; have := ok.n2; omega)
  clear ok lw lv hc
  obtain ⟨kind, nn, cap, xw, xv, co⟩ := i
  obtain ⟨A, a, B, b, C, c, rfl, -, -, -⟩ := H
  simp only at *
  subst hk
  have B1 : Hid (Blk (w.alloc (.cells #[.int .i64 2, .int .i64 nn, .int .i64 cap, .slice A xw.length a, .slice B xv.length b, .slice C co.length c] 25)) w.heap.size 25 #[.int .i64 2, .int .i64 nn, .int .i64 cap, .slice A xw.length a, .slice B xv.length b, .slice C co.length c]) := .new rfl
  replace CH := Lib.hid CH
  replace CP := Lib.hid CP
  go_enter Tryd.func10, Tryd.ntmps10
  go_wp2_with (fail)
  refine (CH.out _ (by (repeat (first | assumption | exact Ext.rf _ | apply Ext.drew | apply Ext.drewN | apply Ext.alloc)))).mono ?_
  rintro e w1 ⟨rfl, x1⟩
  have X1 := Lib.hid (Ext.tr (a := w) (by (repeat (first | assumption | exact Ext.rf _ | apply Ext.drew | apply Ext.drewN | apply Ext.alloc))) x1)
  have BB := Lib.hid (B1.out.ext x1)
  clear x1
  have c0 : w1.cell? ⟨w.heap.size, 0, none⟩ = some (.int .i64 2) := BB.out.cell 0
  have c1 : w1.cell? ⟨w.heap.size, 1, none⟩ = some (.int .i64 nn) := BB.out.cell 1
  have c2 : w1.cell? ⟨w.heap.size, 2, none⟩ = some (.int .i64 cap) := BB.out.cell 2
  have c3 : w1.cell? ⟨w.heap.size, 3, none⟩ = some (.slice A xw.length a) := BB.out.cell 3
  have c4 : w1.cell? ⟨w.heap.size, 4, none⟩ = some (.slice B xv.length b) := BB.out.cell 4
  have c5 : w1.cell? ⟨w.heap.size, 5, none⟩ = some (.slice C co.length c) := BB.out.cell 5
  go_wp2_with (fail)
  refine (CP.out _ X1.out).mono ?_
  rintro e w2 ⟨A3, c3', B3, d3, C2, e2, us, rfl, oV, oR, x2⟩
  have zx := x2.size
  have z1 := X1.out.size
  have FIN : Hid (KernA (w2.alloc (.cells #[.slice C2 co.length e2] 48)) w.heap.size w2.heap.size co ∧ Ext w (w2.alloc (.cells #[.slice C2 co.length e2] 48))) :=
    ⟨⟨C2, e2, us, .new rfl, by omega, (oV.more z1).ext ((Ext.rf _).alloc _), (oR.more z1).ext ((Ext.rf _).alloc _)⟩, (X1.out.tr x2).alloc _⟩
  have fld : ∀ W, (Instr.field 25 (.agg #[.int .i64 2, .int .i64 nn, .int .i64 cap, .slice A3 xw.length c3', .slice B3 xv.length d3, .slice C2 co.length e2]) 5).run Tryd.prog W = .ok (.slice C2 co.length e2) W := fun _ => by kernel_rfl
  clear oV oR x2 c0 c1 c2 c3 c4 c5
  go_wp2_with (fail)
  go_ret2
  exact ⟨_, rfl, FIN.out.1, FIN.out.2⟩
set_option maxRecDepth 100000 in
theorem newa_bad (i : InstP) (vs : List Value) (w : World) (H : RInst w vs i) (lw : i.weight.length ≤ 1000000000) (lv : i.value.length ≤ 1000000000) (hc : checkP i ≠ 0) :
    Calls Tryd.prog 10 #[.agg (List.toArray vs)] w fun e w' => e = .returned (.tuple #[.pointer none, .int .i64 (checkP i)]) ∧ Ext w w' := by
  have CH := fun (W : World) (x : Ext w W) => check_any i vs W (H.ext x) lw lv
  have hb : (checkP i != 0) = true := by simpa using hc
  generalize checkP i = r at *
  obtain ⟨A, a, B, b, C, c, rfl, -, -, -⟩ := H
  replace CH := Lib.hid CH
  clear hc
  go_enter Tryd.func10, Tryd.ntmps10
  go_wp2_with (fail)
  refine (CH.out _ (by (repeat (first | assumption | exact Ext.rf _ | apply Ext.drew | apply Ext.drewN | apply Ext.alloc)))).mono ?_
  rintro e w1 ⟨rfl, x1⟩
  have X1 := Lib.hid (Ext.tr (a := w) (by (repeat (first | assumption | exact Ext.rf _ | apply Ext.drew | apply Ext.drewN | apply Ext.alloc))) x1)
  clear x1
  go_wp2_with (fail)
  go_ret2
  exact ⟨rfl, X1.out⟩
set_option maxRecDepth 100000 in
theorem newa_kind (i : InstP) (vs : List Value) (w : World) (H : RInst w vs i) (lw : i.weight.length ≤ 1000000000) (lv : i.value.length ≤ 1000000000) (hc : checkP i = 0) (hk : i.kind ≠ 2) :
    Calls Tryd.prog 10 #[.agg (List.toArray vs)] w fun e w' => e = .returned (.tuple #[.pointer none, .int .i64 14]) ∧ Ext w w' := by
  have CH := fun (W : World) (x : Ext w W) => check_any i vs W (H.ext x) lw lv
  rw [hc] at CH
  have hb : (i.kind != 2) = true := by simpa using hk
  clear hc hk
  obtain ⟨kind, nn, cap, xw, xv, co⟩ := i
  obtain ⟨A, a, B, b, C, c, rfl, -, -, -⟩ := H
  simp only at *
  replace CH := Lib.hid CH
  have B1 : Hid (Blk (w.alloc (.cells #[.int .i64 kind, .int .i64 nn, .int .i64 cap, .slice A xw.length a, .slice B xv.length b, .slice C co.length c] 25)) w.heap.size 25 #[.int .i64 kind, .int .i64 nn, .int .i64 cap, .slice A xw.length a, .slice B xv.length b, .slice C co.length c]) := .new rfl
  go_enter Tryd.func10, Tryd.ntmps10
  go_wp2_with (fail)
  refine (CH.out _ (by (repeat (first | assumption | exact Ext.rf _ | apply Ext.drew | apply Ext.drewN | apply Ext.alloc)))).mono ?_
  rintro e w1 ⟨rfl, x1⟩
  have X1 := Lib.hid (Ext.tr (a := w) (by (repeat (first | assumption | exact Ext.rf _ | apply Ext.drew | apply Ext.drewN | apply Ext.alloc))) x1)
  have c0 : w1.cell? ⟨w.heap.size, 0, none⟩ = some (.int .i64 kind) := (B1.out.ext x1).cell 0
  clear x1
  go_wp2_with (fail)
  go_ret2
  exact ⟨rfl, X1.out⟩
theorem deptha_any {base g : Nat} {rows : List (List Int)} (w : World) (H : KernA w base g rows) : Calls Tryd.prog 18 #[.pointer (some ⟨g, 0, none⟩)] w fun e w' => e = .returned (.int .i64 rows.length) ∧ Ext w w' := by
  obtain ⟨C, c, us, h1, -, -, -⟩ := H
  have c0 : w.cell? ⟨g, 0, none⟩ = some (.slice C rows.length c) := h1.cell 0
  go_enter Tryd.func18, Tryd.ntmps18
  go_wp2
  go_ret
  exact ⟨rfl, Ext.rf _⟩
theorem deptha_nil (w : World) : Calls Tryd.prog 18 #[.pointer none] w fun e w' => e = .returned (.int .i64 0) ∧ Ext w w' := by
  go_enter Tryd.func18, Tryd.ntmps18
  go_wp2
  go_ret
  exact ⟨rfl, Ext.rf _⟩
end Go.Proofs.YtpfdkocelmmllaaDoor
namespace Go.Proofs.YtpfdkocelmmllaaDoor
open Go.RowKit Go.ChangeShapes Go.WideShapes Go.ChangeAt Go.Deep

def freeV : Option Nat → Value
  | none => .tuple #[setV 0, .bool false]
  | some m => .tuple #[setV m, .bool true]
theorem freeM_cons (m : Nat) (c : Int) (p : List Int) : freeM m (c :: p) = if 0 ≤ c ∧ c < 64 ∧ m.testBit c.toNat = true then freeM (clrM m c.toNat) p else none := rfl
set_option maxRecDepth 100000 in
set_option maxHeartbeats 2000000 in
theorem free_any {base g : Nat} {rows : List (List Int)} (P : Option Addr) (pc : Nat) (p : List Int) (w : World) (H : KernA w base g rows) (h1 : 1 ≤ rows.length) (h24 : rows.length ≤ 24) (hP : RdI w P p) (lp : p.length ≤ 1000000000) :
    Calls Tryd.prog 30 #[.pointer (some ⟨g, 0, none⟩), .slice P p.length pc] w fun e w' => e = .returned (freeV (freeP rows.length p)) ∧ Ext w w' := by
  have DE := Lib.hid (fun (W : World) (x : Ext w W) => deptha_any W (H.ext x))
  have FU := Lib.hid (fun (W : World) => full_any rows.length (by omega) W)
  have UF := subN_full h24
  obtain ⟨r, hr⟩ : ∃ r, Hid (freeP rows.length p = r) := ⟨_, rfl⟩
  rw [hr.out]
  generalize rows.length = n at *
  clear H
  unfold freeP at hr
  replace hP := Lib.hid hP
  have B1 : Hid (Blk (w.alloc (.cells #[.int .u64 0, .int .u64 0] 51)) w.heap.size 51 #[.int .u64 0, .int .u64 0]) := .new rfl
  have hn0 : ((n : Int) == 0) = false := by rw [beq_eq_false_iff_ne]; omega
  by_cases hlen : n < p.length
  · have hr2 : Hid (r = none) := by
      have h := hr.out
      rw [if_pos hlen] at h
      exact h.symm
    have hlb : decide ((n : Int) < (p.length : Int)) = true := decide_eq_true (by omega)
    rw [hr2.out]
    unfold freeV setV
    go_enter Tryd.func30, Tryd.ntmps30
    go_wp2_with (fail)
    refine (DE.out _ (by (repeat (first | assumption | exact Ext.rf _ | apply Ext.drew | apply Ext.drewN | apply Ext.alloc)))).mono ?_
    rintro e w1 ⟨rfl, x1⟩
    have X1 := Lib.hid (Ext.tr (a := w) (by (repeat (first | assumption | exact Ext.rf _ | apply Ext.drew | apply Ext.drewN | apply Ext.alloc))) x1)
    have b1 := B1.out.ext x1
    have c0 : w1.cell? ⟨w.heap.size, 0, none⟩ = some (.int .u64 0) := b1.cell 0
    have c1 : w1.cell? ⟨w.heap.size, 1, none⟩ = some (.int .u64 0) := b1.cell 1
    have f0 := b1.free 0
    have f1 := b1.free 1
    clear x1 b1
    go_wp2_with (fail)
    refine bodyPost_ret (v := .tuple #[.agg #[.int .u64 0, .int .u64 0], .bool false]) (by simp [results, Tryd.results30, go_sem, *]) rfl ⟨rfl, ?_⟩
    exact (X1.out.setNew (p := ⟨w.heap.size, 0, none⟩) (Nat.le_refl _) _).setNew (p := ⟨w.heap.size, 1, none⟩) (Nat.le_refl _) _
  · have hr2 : Hid (freeM (2 ^ n - 1) p = r) := by
      have h := hr.out
      rw [if_neg hlen] at h
      exact h
    have hlb : decide ((n : Int) < (p.length : Int)) = false := decide_eq_false (by omega)
    generalize 2 ^ n - 1 = m0 at *
    unfold setV at FU
    clear hr
    go_enter Tryd.func30, Tryd.ntmps30
    go_wp2_with (fail)
    refine (DE.out _ (by (repeat (first | assumption | exact Ext.rf _ | apply Ext.drew | apply Ext.drewN | apply Ext.alloc)))).mono ?_
    rintro e w1 ⟨rfl, x1⟩
    have X1 := Lib.hid (Ext.tr (a := w) (by (repeat (first | assumption | exact Ext.rf _ | apply Ext.drew | apply Ext.drewN | apply Ext.alloc))) x1)
    have b1 := Lib.hid (B1.out.ext x1)
    clear x1
    go_wp2_with (fail)
    refine (FU.out _).mono ?_
    rintro e w2 ⟨rfl, x2⟩
    have z12 := x2.size
    have zw1 := b1.out.lt
    have X3 : Ext w (w2.alloc (.cells #[.int .u64 m0, .int .u64 0] 51)) := (X1.out.tr x2).alloc _
    have b3 : Blk (w2.alloc (.cells #[.int .u64 m0, .int .u64 0] 51)) w.heap.size 51 #[.int .u64 0, .int .u64 0] := (b1.out.ext x2).alloc _
    have s3 : Blk (w2.alloc (.cells #[.int .u64 m0, .int .u64 0] 51)) w2.heap.size 51 #[.int .u64 m0, .int .u64 0] := .new rfl
    have START := Lib.hid (And.intro X3 (And.intro b3 s3))
    obtain ⟨sb, hsb⟩ : ∃ sb, Hid (sb = w2.heap.size) := ⟨_, rfl⟩
    have zsb : w.heap.size < sb := by rw [hsb.out]; omega
    clear X3 b3 s3 x2 b1
    go_wp2_with (fail)
    rw [← hsb.out] at START ⊢
    go_loopw [25] (fun v wr => ∃ (k m : Nat), v = .int .i64 k ∧ k ≤ p.length ∧ Hid (freeM m (p.drop k) = r) ∧ Hid (SubN n m) ∧ Hid (Ext w wr ∧ Blk wr w.heap.size 51 #[.int .u64 0, .int .u64 0] ∧ Blk wr sb 51 #[.int .u64 m, .int .u64 0])) (fun v _ => p.length - (intOf v).toNat)
    case atStart => exact ⟨0, m0, rfl, by omega, hr2, UF, START⟩
    case round =>
      obtain ⟨wo, rfl⟩ : ∃ wo : World, wo = wr := ⟨_, rfl⟩
      clear START
      obtain ⟨k, m, rfl, hk, HF, HU, HH⟩ := hrel
      obtain ⟨Y, b1, bs⟩ := HH.out
      have c0 : wo.cell? ⟨sb, 0, none⟩ = some (.int .u64 m) := bs.cell 0
      have c1 : wo.cell? ⟨sb, 1, none⟩ = some (.int .u64 0) := bs.cell 1
      replace Y := Lib.hid Y
      replace b1 := Lib.hid b1
      replace bs := Lib.hid bs
      clear HH
      by_cases hlt : k < p.length
      · obtain ⟨pb, po, c, rfl, zp, cp, ep, dp⟩ := (hP.out.ext Y.out).at hlt
        have HF2 : Hid (r = if 0 ≤ c ∧ c < 64 ∧ m.testBit c.toNat = true then freeM (clrM m c.toNat) (p.drop (k + 1)) else none) := by
          have h := HF.out
          rw [dp.out, freeM_cons] at h
          exact h.symm
        have HA := Lib.hid (fun (W : World) => has_any m c HU.out.1 W)
        unfold setV at HA
        clear HF ep dp
        go_wp2_with (fail)
        refine (HA.out _).mono ?_
        rintro e w3 ⟨rfl, x3⟩
        have Y3 := Lib.hid (Y.out.tr x3)
        have b13 := Lib.hid (b1.out.ext x3)
        have bs3 := Lib.hid (bs.out.ext x3)
        clear x3 c0 c1 cp
        by_cases hin : 0 ≤ c ∧ c < 64 ∧ m.testBit c.toNat = true
        · have e1 : (decide (0 ≤ c ∧ c < 64) && m.testBit c.toNat) = true := by rw [decide_eq_true ⟨hin.1, hin.2.1⟩, hin.2.2]; rfl
          rw [e1]
          have HF3 : Hid (freeM (clrM m c.toNat) (p.drop (k + 1)) = r) := by
            have h := HF2.out
            rw [if_pos hin] at h
            exact h.symm
          obtain ⟨i, rfl⟩ : ∃ i : Nat, c = (i : Int) := ⟨c.toNat, by omega⟩
          rw [Int.toNat_natCast] at HF3
          have WO := Lib.hid (fun (W : World) => without_any m i HU.out.1 (by omega) W)
          have HU2 := Lib.hid (HU.out.clr i)
          generalize clrM m i = m2 at *
          unfold setV at WO
          have c0 : w3.cell? ⟨sb, 0, none⟩ = some (.int .u64 m) := bs3.out.cell 0
          have c1 : w3.cell? ⟨sb, 1, none⟩ = some (.int .u64 0) := bs3.out.cell 1
          clear hin e1 HF2 HA
          go_wp2_with (fail)
          refine (WO.out _).mono ?_
          rintro e w4 ⟨rfl, x4⟩
          have bs4 := bs3.out.ext x4
          have b14 := b13.out.ext x4
          have d0 : w4.cell? ⟨sb, 0, none⟩ = some (.int .u64 m) := bs4.cell 0
          have d1 : w4.cell? ⟨sb, 1, none⟩ = some (.int .u64 0) := bs4.cell 1
          have f0 := bs4.free 0
          have f1 := bs4.free 1
          have NEW : Hid (Ext w ((w4.setCell ⟨sb, 0, none⟩ (.int .u64 m2)).setCell ⟨sb, 1, none⟩ (.int .u64 0)) ∧ Blk ((w4.setCell ⟨sb, 0, none⟩ (.int .u64 m2)).setCell ⟨sb, 1, none⟩ (.int .u64 0)) w.heap.size 51 #[.int .u64 0, .int .u64 0] ∧ Blk ((w4.setCell ⟨sb, 0, none⟩ (.int .u64 m2)).setCell ⟨sb, 1, none⟩ (.int .u64 0)) sb 51 #[.int .u64 m2, .int .u64 0]) :=
            ⟨((Y3.out.tr x4).setNew (p := ⟨sb, 0, none⟩) (Nat.le_of_lt zsb) _).setNew (p := ⟨sb, 1, none⟩) (Nat.le_of_lt zsb) _, (b14.far (p := ⟨sb, 0, none⟩) (Nat.ne_of_lt zsb) _).far (p := ⟨sb, 1, none⟩) (Nat.ne_of_lt zsb) _, (bs4.set 0 (.int .u64 m2)).set 1 (.int .u64 0)⟩
          clear bs4 b14 x4 c0 c1
          go_wp2_with (fail)
          go_roundw
          case rel => exact ⟨k + 1, m2, by go_num, by omega, HF3, HU2, NEW⟩
          case measure => simp [intOf]; omega
        · have e1 : (decide (0 ≤ c ∧ c < 64) && m.testBit c.toNat) = false := by
            by_cases h2 : 0 ≤ c ∧ c < 64
            · cases h3 : m.testBit c.toNat with
              | false => simp
              | true => exact absurd ⟨h2.1, h2.2, h3⟩ hin
            · rw [decide_eq_false h2]; rfl
          rw [e1]
          have HF3 : Hid (r = none) := by
            have h := HF2.out
            rw [if_neg hin] at h
            exact h
          have d0 : w3.cell? ⟨w.heap.size, 0, none⟩ = some (.int .u64 0) := b13.out.cell 0
          have d1 : w3.cell? ⟨w.heap.size, 1, none⟩ = some (.int .u64 0) := b13.out.cell 1
          have f0 := b13.out.free 0
          have f1 := b13.out.free 1
          clear hin e1 HF2 HA
          go_wp2_with (fail)
          refine bodyPost_ret (v := .tuple #[.agg #[.int .u64 0, .int .u64 0], .bool false]) (by simp [results, Tryd.results30, go_sem, *]) rfl ⟨by rw [HF3.out]; rfl, ?_⟩
          exact (Y3.out.setNew (p := ⟨w.heap.size, 0, none⟩) (Nat.le_refl _) _).setNew (p := ⟨w.heap.size, 1, none⟩) (Nat.le_refl _) _
      · obtain rfl : k = p.length := by omega
        have HF3 : Hid (r = some m) := by
          have h := HF.out
          rw [List.drop_length] at h
          exact h.symm
        have d0 : wo.cell? ⟨w.heap.size, 0, none⟩ = some (.int .u64 0) := b1.out.cell 0
        have d1 : wo.cell? ⟨w.heap.size, 1, none⟩ = some (.int .u64 0) := b1.out.cell 1
        have f0 := b1.out.free 0
        have f1 := b1.out.free 1
        go_wp2_with (fail)
        refine bodyPost_ret (v := .tuple #[.agg #[.int .u64 m, .int .u64 0], .bool true]) (by simp [results, Tryd.results30, go_sem, *]) rfl ⟨by rw [HF3.out]; rfl, ?_⟩
        exact (Y.out.setNew (p := ⟨w.heap.size, 0, none⟩) (Nat.le_refl _) _).setNew (p := ⟨w.heap.size, 1, none⟩) (Nat.le_refl _) _
end Go.Proofs.YtpfdkocelmmllaaDoor
namespace Go.Proofs.YtpfdkocelmmllaaDoor
open Go.RowKit Go.ChangeShapes Go.WideShapes Go.ChangeAt Go.Deep Go.Shelf
attribute [local go_sem] Oper.semAt_some

/-- the least one, by the loop's own words -/
def leastN (f : Nat → Int) (b : Int) (l : List Nat) : Int := l.foldl (fun b x => if b < 0 then f x else if f x < b then f x else b) b
theorem leastN_snoc (f : Nat → Int) (b : Int) (l : List Nat) (x : Nat) : leastN f b (l ++ [x]) = if leastN f b l < 0 then f x else if f x < leastN f b l then f x else leastN f b l := by
  unfold leastN
  rw [List.foldl_append]
  rfl
theorem ownFrom_blk {β : Type} {k B : Nat} (hk : k < B) (t : TypeId) (cs : β → Array Value) : OwnFrom B (fun s W => Blk W k t (cs s)) := fun s W W' row hs hg hr =>
  (hg.block k hs.lt (fun e => by obtain ⟨h1, _⟩ := hr _ e.symm; omega)).trans hs
set_option maxRecDepth 100000 in
set_option maxHeartbeats 4000000 in
theorem least_in (A : Option Addr) (rc : Nat) (row : List Int) (m : Nat) (hm : m < 18446744073709551616) (h63 : ∀ x ∈ memsM m, x < 63) (hrow : ∀ x ∈ memsM m, x < row.length) (w : World) (hT : Tab w) (hA : RdI w A row) :
    CallsIn Fence.wide 3 Tryd.prog 48 #[.slice A row.length rc, setV m] w fun e W' => e = .returned (.int .i64 (leastN (fun c => row.getD c 0) (-1) (memsM m))) ∧ Ext w W' := by
  have hg := tab_low hT
  unfold setV
  refine callsIn_of_wp_marks Tryd.func48 rfl trivial ?_ rfl
  simp only [Tryd.ntmps48, List.size_toArray, List.length_cons, List.length_nil, Nat.reduceAdd, Nat.reduceSub, Array.replicate_succ, Array.replicate_zero, List.push_toArray, List.append_toArray, List.nil_append, List.cons_append]
  gi_wp2
  refine ⟨trivial, ?_⟩
  refine (callsIn_wide.2 (all_any m _)).mono ?_
  rintro e w' ⟨rfl, rfl⟩
  gi_wp2
  have bR : Blk ((((w.alloc (.cells #[.slice A row.length rc] 22)).alloc (.cells #[.int .u64 m, .int .u64 0] 51)).alloc (.cells #[.int .i64 (-1)] 3)).alloc (.cells #[.int .u64 m, .int .u64 0] 51)) w.heap.size 22 #[.slice A row.length rc] := .alloc (.alloc (.alloc (.new rfl) _) _) _
  have bO : Blk ((((w.alloc (.cells #[.slice A row.length rc] 22)).alloc (.cells #[.int .u64 m, .int .u64 0] 51)).alloc (.cells #[.int .i64 (-1)] 3)).alloc (.cells #[.int .u64 m, .int .u64 0] 51)) (w.heap.size + 1 + 1) 3 #[.int .i64 (-1)] := .alloc (.new (by simp)) _
  have bB : Blk ((((w.alloc (.cells #[.slice A row.length rc] 22)).alloc (.cells #[.int .u64 m, .int .u64 0] 51)).alloc (.cells #[.int .i64 (-1)] 3)).alloc (.cells #[.int .u64 m, .int .u64 0] 51)) (w.heap.size + 1 + 1 + 1) 51 #[.int .u64 m, .int .u64 0] := .new (by simp)
  have hB0 : Ext w ((((w.alloc (.cells #[.slice A row.length rc] 22)).alloc (.cells #[.int .u64 m, .int .u64 0] 51)).alloc (.cells #[.int .i64 (-1)] 3)).alloc (.cells #[.int .u64 m, .int .u64 0] 51)) := ((((Ext.rf w).alloc _).alloc _).alloc _).alloc _
  refine wpIn_rangeFunc_ownG rfl (by omega) (gf := 55) (lb := #[.pointer (some ⟨w.heap.size + 1 + 1 + 1, 0, none⟩)]) rfl trivial (enters_of Tryd.func55 (by kernel_rfl) rfl)
    (all_stops 2 m hm h63 (w.heap.size + 1 + 1 + 1) w.heap.size _ bB (hT.ext hB0) hB0.size hg) SetKp.tr (setKp_b (cs := #[.int .u64 m, .int .u64 0]) hB0.size bB) (Below.refl _ _) (fun _ => rfl)
    (fun pre W => Blk W (w.heap.size + 1 + 1) 3 #[.int .i64 (leastN (fun c => row.getD c 0) (-1) (inL pre))] ∧ Blk W w.heap.size 22 #[.slice A row.length rc] ∧ Blk W (w.heap.size + 1 + 1 + 1) 51 #[.int .u64 m, .int .u64 0] ∧ Below w.heap.size w W)
    (fun _ _ _ => False)
    (OwnFrom.and (ownFrom_blk (by simp <;> omega) _ _) (OwnFrom.and (ownFrom_blk (by simp <;> omega) _ _) (OwnFrom.and (ownFrom_blk (by simp <;> omega) _ _) (ownFrom_below (Nat.le_refl _) (by simp <;> omega)))))
    (fun _ _ _ _ _ hs _ _ => hs)
    ⟨bO, bR, bB, hB0⟩
    (fun x => { tmps := #[.slice A row.length rc, .agg #[.int .u64 m, .int .u64 0], .pointer (some ⟨w.heap.size, 0, none⟩), .pointer (some ⟨w.heap.size + 1, 0, none⟩), .int .i64 0, .pointer (some ⟨w.heap.size + 1 + 1, 0, none⟩), .int .i64 ((x.1 : Nat) : Int), .agg #[.int .u64 m, .int .u64 0], .func (.func 55) #[] #[.pointer (some ⟨w.heap.size + 1 + 1 + 1, 0, none⟩)], .int .i64 ((x.1 : Nat) : Int), undef, undef, undef, undef, undef, undef, undef, undef, undef, undef, undef, undef, undef, undef, undef], defers := [] }) ?assign ?body ?done ?stop
  case assign =>
    intro l x W K hK
    gi_wp2
    exact hK
  case body =>
    rintro l pre x W ⟨hO, hR, hBn, hB⟩ hlt
    obtain ⟨bb, hbb⟩ : ∃ bb, Hid (bb = leastN (fun c => row.getD c 0) (-1) (inL pre)) := ⟨_, rfl⟩
    rw [← hbb.out] at hO
    have cO : W.cell? ⟨w.heap.size + 1 + 1, 0, none⟩ = some (.int .i64 bb) := hO.cell 0
    have fO := hO.free 0
    have cR : W.cell? ⟨w.heap.size, 0, none⟩ = some (.slice A row.length rc) := hR.cell 0
    have hxr := hrow x.1 x.2
    obtain ⟨ab, ao, y, rfl, zy, cy, ey, _⟩ := (RdI.ext hA hB).at hxr
    have eN : Hid (leastN (fun c => row.getD c 0) (-1) (inL (pre ++ [x])) = if bb < 0 then y else if y < bb then y else bb) := by
      have h : leastN (fun c => row.getD c 0) (-1) (inL (pre ++ [x])) = if bb < 0 then y else if y < bb then y else bb := by
        rw [inL_snoc, leastN_snoc, ← hbb.out, getD_some ey.out]
      exact h
    have qx : ((x.1 : Nat) : Int) < (row.length : Int) := by omega
    have N0 : Hid (Blk (W.setCell ⟨w.heap.size + 1 + 1, 0, none⟩ (.int .i64 y)) (w.heap.size + 1 + 1) 3 #[.int .i64 y]) := hO.set 0 (.int .i64 y)
    have hmx : Tryd.prog.follows .mixedOrders = true := by kernel_rfl
    replace hR := Lib.hid hR
    replace hBn := Lib.hid hBn
    replace hB := Lib.hid hB
    replace hO := Lib.hid hO
    clear ey
    have N1 := Lib.hid (hR.out.far (p := ⟨w.heap.size + 1 + 1, 0, none⟩) (by simp <;> omega) (.int .i64 y))
    have N2 := Lib.hid (hBn.out.far (p := ⟨w.heap.size + 1 + 1, 0, none⟩) (by simp) (.int .i64 y))
    have N3 := Lib.hid ((Below.refl w.heap.size W).setCell (p := ⟨w.heap.size + 1 + 1, 0, none⟩) (by simp <;> omega) (.int .i64 y))
    by_cases hneg : bb < 0
    · rw [if_pos hneg] at eN
      gi_wp2
      gi_region_o
      all_goals gi_wp2
      all_goals exact ⟨((KeepsOthers.setCell _ _ _).trans (KeepsOthers.drew _)).from _, ⟨N3.out.drew, N2.out.drew.trans hBn.out.symm⟩, by rw [eN.out]; exact N0.out.drew, N1.out.drew, N2.out.drew, (hB.out.trans N3.out).drew⟩
    · rw [if_neg hneg] at eN
      by_cases hy : y < bb
      · rw [if_pos hy] at eN
        gi_wp2
        gi_region_o
        all_goals gi_wp2
        all_goals exact ⟨((KeepsOthers.setCell _ _ _).trans (KeepsOthers.drew _)).from _, ⟨N3.out.drew, N2.out.drew.trans hBn.out.symm⟩, by rw [eN.out]; exact N0.out.drew, N1.out.drew, N2.out.drew, (hB.out.trans N3.out).drew⟩
      · rw [if_neg hy] at eN
        gi_wp2
        gi_region_o
        all_goals gi_wp2
        all_goals exact ⟨(KeepsOthers.drew _).from _, ⟨(Below.refl _ W).drew, rfl⟩, by rw [eN.out]; exact hO.out.drew, hR.out.drew, hBn.out.drew, hB.out.drew⟩
  case done =>
    rintro D ys W hD rfl ⟨hO, _, _, hB⟩ hK
    rw [inL_attach] at hO
    have cO := hO.cell 0
    gi_wp2
    refine ⟨by simp, .inl ⟨_, _, rfl, run_takeDeferred hK, ?_⟩⟩
    exact ⟨_, results_tmp rfl _ _ _, rfl, hB.trans (belowK_b (w := w) (Nat.le_refl _) W D _ _ (by simp at hD; omega) hK rfl rfl)⟩
  case stop =>
    rintro D c pre W _ _ h _
    exact h.elim
end Go.Proofs.YtpfdkocelmmllaaDoor
namespace Go.Proofs.YtpfdkocelmmllaaDoor
open Go.RowKit Go.ChangeShapes Go.WideShapes Go.ChangeAt Go.Deep Go.Shelf
attribute [local go_sem] Oper.semAt_some

def offL (rows : List (List Int)) (l : List Nat) : List Int := rows.map fun row => leastN (fun c => row.getD c 0) (-1) l
/-- the least of a column beyond what the rows cost, from row k on -/
def colF (c : Nat) (b : Int) : List (List Int) → List Int → Int
  | row :: rows, o :: off => colF c (if b < 0 then row.getD c 0 - o else if row.getD c 0 - o < b then row.getD c 0 - o else b) rows off
  | _, _ => b
def reduceP (rows : List (List Int)) (l : List Nat) : Int := sumL (offL rows l) + sumL (l.map fun c => colF c (-1) rows (offL rows l))
theorem leastN_bd {f : Nat → Int} {B : Int} : ∀ {l : List Nat} {b : Int}, (∀ c ∈ l, -B ≤ f c ∧ f c ≤ B) → -B ≤ b → b ≤ B → -B ≤ leastN f b l ∧ leastN f b l ≤ B
  | [], b, _, h1, h2 => ⟨h1, h2⟩
  | c :: l, b, h, h1, h2 => by
    have hc := h c (by simp)
    have e : leastN f b (c :: l) = leastN f (if b < 0 then f c else if f c < b then f c else b) l := rfl
    rw [e]
    refine leastN_bd (fun x hx => h x (by simp [hx])) ?_ ?_ <;> split <;> (try split) <;> omega
theorem colF_bd {c : Nat} {B : Int} : ∀ {rows : List (List Int)} {off : List Int} {b : Int}, (∀ row ∈ rows, 0 ≤ row.getD c 0 ∧ row.getD c 0 ≤ B) → (∀ o ∈ off, -B ≤ o ∧ o ≤ B) → 0 ≤ B → -(2 * B) ≤ b → b ≤ 2 * B → -(2 * B) ≤ colF c b rows off ∧ colF c b rows off ≤ 2 * B
  | [], off, b, _, _, _, h1, h2 => by cases off <;> exact ⟨h1, h2⟩
  | _ :: _, [], b, _, _, _, h1, h2 => ⟨h1, h2⟩
  | row :: rows, o :: off, b, hr, ho, h0, h1, h2 => by
    have a1 := hr row (by simp)
    have a2 := ho o (by simp)
    unfold colF
    refine colF_bd (fun x hx => hr x (by simp [hx])) (fun x hx => ho x (by simp [hx])) h0 ?_ ?_ <;> split <;> (try split) <;> omega
theorem least_any (A : Option Addr) (rc : Nat) (row : List Int) (m : Nat) (hm : m < 18446744073709551616) (h63 : ∀ x ∈ memsM m, x < 63) (hrow : ∀ x ∈ memsM m, x < row.length) (w : World) (hT : Tab w) (hA : RdI w A row) :
    Calls Tryd.prog 48 #[.slice A row.length rc, setV m] w fun e W' => e = .returned (.int .i64 (leastN (fun c => row.getD c 0) (-1) (memsM m))) ∧ Ext w W' :=
  callsIn_wide.1 (least_in A rc row m hm h63 hrow w hT hA)
theorem sumA_snoc (a : List Int) (x : Int) : sumL (a ++ [x]) = sumL a + x := by rw [sumL_app]; simp [sumL]
theorem sumA_bd {B : Int} : ∀ {l : List Int}, (∀ x ∈ l, -B ≤ x ∧ x ≤ B) → -(B * l.length) ≤ sumL l ∧ sumL l ≤ B * l.length
  | [], _ => by simp [sumL]
  | x :: l, h => by
    have h1 := h x (by simp)
    have h2 := sumA_bd (l := l) fun y hy => h y (by simp [hy])
    simp only [sumL, List.length_cons, Int.natCast_add, Int.natCast_one, Int.mul_add, Int.mul_one]
    omega
end Go.Proofs.YtpfdkocelmmllaaDoor
