/-
  TourWhole: who goes down by Kids from the empty beginning comes to each answer just once, and to nothing else.
-/
import Derived.Test.YtpngflmngnjjoaaDoorTourLaw
import Derived.Test.YtpngflmngnjjoaaDoorTourBW
import Derived.Test.YtpngflmngnjjoaaDoorTourM
import Derived.Test.YtpngflmngnjjoaaDoorStack
import Derived.Test.YtpngflmngnjjoaaDoorRows
import Derived.Test.YtpngflmngnjjoaaDoorCards
import Derived.Test.YtpngflmngnjjoaaDoorTie
import Derived.Test.YtpngflmngnjjoaaDoorChecked
namespace Go.Proofs.YtpngflmngnjjoaaDoor.tourWhole
open Go.RowKit Go.ChangeShapes Go.WideShapes Go.ChangeAt Go.Deep

def AnsOwn (x : List Int) (w : World) (e : Ending) (w' : World) : Prop := ∃ A c, e = .returned (.tuple #[.slice A x.length c, .int .i64 0]) ∧ OwI w' w.heap.size A c x ∧ Ext w w'
def BoundVal (b : Int × Int) : Value := .tuple #[.int .i64 b.1, .int .i64 b.2]
set_option maxRecDepth 100000 in
set_option maxHeartbeats 2000000 in
theorem ints_info : (Tryd.prog.info? 22).map (fun i => (i.zero, i.size, i.bytes)) = some (some (.slice none 0 0), 1, 24) := by kernel_rfl
set_option maxRecDepth 100000 in
theorem bsv0_run (u : World) : (Instr.buildSlice 23 0 #[]).run Tryd.prog u = .ok (.slice (some ⟨u.heap.size, 0, none⟩) 0 0) (u.alloc (.cells #[] 22)) := by go_simp
set_option maxRecDepth 100000 in
theorem bsv1_run (u : World) (A : Option Addr) (n c : Nat) : (Instr.buildSlice 23 1 #[(0, .slice A n c)]).run Tryd.prog u = .ok (.slice (some ⟨u.heap.size, 0, none⟩) 1 1) (u.alloc (.cells #[.slice A n c] 22)) := by go_simp
/-- what waits, and what is found, in memory -/
def OutR (w7 w : World) (okT : List Int → Prop) (lv : List Int → List (List Int)) (an : List Int → List Int) (WA FA : Option Addr) (W F : List (List Int)) (fc : Nat) : Prop :=
  ∃ wus fus, Ext w7 w ∧ RdV w 22 WA wus ∧ RowsO w w7.heap.size wus W ∧ OwV w w7.heap.size 22 1 FA F.length fc fus ∧ RowsO w w7.heap.size fus (F.map an) ∧ (∀ k, bl FA = some k → bl WA ≠ some k) ∧ InvT okT lv W F
set_option maxRecDepth 100000 in
set_option maxHeartbeats 4000000 in
theorem walk_gen (i j : InstP) (hj : j = copyP i) (vs : List Value) (w : World) (hT : Tab w) (H : RInst w vs i) (hI : InstInts j) (hk : j.kind = 3)
    (N : Nat) (okT : List Int → Prop) (kd : List Int → List Int) (lv : List Int → List (List Int)) (an : List Int → List Int) (tot : Nat) (sm : Bool) (KK : World → Nat → Nat → Prop)
    (KX : ∀ W W' b g, KK W b g → Ext W W' → KK W' b g)
    (hn : ∀ (us : List Value) (W : World), Tab W → RInst W us j → Calls Tryd.prog 33 #[.agg (List.toArray us)] W fun e w' => ∃ g, e = .returned (.tuple #[.pointer (some ⟨g, 0, none⟩), .int .i64 0]) ∧ KK w' W.heap.size g ∧ Ext W w')
    (SM : ∀ (us : List Value) (W : World), RInst W us j → Calls Tryd.prog 28 #[.agg (List.toArray us)] W fun e w' => e = .returned (.bool sm) ∧ Ext W w')
    (TR : sm = true → j.n ≤ 5 → TreeP N okT kd lv an tot) (NL : N ≤ 64) (KL : ∀ p, (kd p).length ≤ 1000)
    (KI : ∀ (g b : Nat) (A : Option Addr) (c : Nat) (p : List Int) (W : World), KK W b g → RdI W A p → okT p → Calls Tryd.prog 38 #[.pointer (some ⟨g, 0, none⟩), .slice A p.length c] W (KidsPost (kd p) 0 W))
    (DE : ∀ (g b : Nat) (W : World), KK W b g → Calls Tryd.prog 40 #[.pointer (some ⟨g, 0, none⟩)] W fun e w' => e = .returned (.int .i64 N) ∧ Ext W w')
    (AN : ∀ (g b : Nat) (A : Option Addr) (c : Nat) (p : List Int) (W : World), KK W b g → RdI W A p → okT p → p.length = N → Calls Tryd.prog 39 #[.pointer (some ⟨g, 0, none⟩), .slice A p.length c] W (AnsOwn (an p) W))
    (CO : ∀ (us : List Value) (A : Option Addr) (c : Nat) (p : List Int) (W : World), RInst W us j → okT p → p.length = N → RdI W A (an p) → ∃ v : Int, Calls Tryd.prog 30 #[.agg (List.toArray us), .slice A (an p).length c] W fun e w' => e = .returned (BoundVal (v, 0)) ∧ Ext W w')
    (RA : ∀ (us : List Value) (W : World), RInst W us j → sm = true → j.n ≤ 5 → Calls Tryd.prog 45 #[.agg (List.toArray us), .slice none 0 0] W fun e w' => e = .returned (.int .i64 tot) ∧ Ext W w')
    (LV : sm = true → j.n ≤ 5 → ∀ y ∈ lv [], okT y ∧ y.length = N)
    (AL : ∀ p, okT p → p.length = N → (an p).length ≤ 1000) :
    Calls Tryd.prog 12 #[.agg (List.toArray vs)] w fun e w' => e = .returned (.bool true) ∧ Ext w w' := by
  have CP := fun (W : World) (x : Ext w W) => copy_to hj vs W (H.ext x)
  obtain ⟨i0, hi, hz0, hz1, hz2⟩ := info_parts ints_info
  clear hj
  obtain ⟨A, a, B, b, C, c, rfl, -, -, -⟩ := H
  have B1 : Hid (Blk (w.alloc (.cells #[.int .i64 i.kind, .int .i64 i.n, .int .i64 i.cap, .slice A i.weight.length a, .slice B i.value.length b, .slice C i.cost.length c] 25)) w.heap.size 25 #[.int .i64 i.kind, .int .i64 i.n, .int .i64 i.cap, .slice A i.weight.length a, .slice B i.value.length b, .slice C i.cost.length c]) := .new rfl
  replace hk := Lib.hid hk
  replace CP := Lib.hid CP
  replace hT := Lib.hid hT
  replace hn := Lib.hid hn
  replace SM := Lib.hid SM
  replace TR := Lib.hid TR
  replace KI := Lib.hid KI
  replace DE := Lib.hid DE
  replace AN := Lib.hid AN
  replace CO := Lib.hid CO
  replace RA := Lib.hid RA
  replace KX := Lib.hid KX
  replace KL := Lib.hid KL
  replace AL := Lib.hid AL
  replace LV := Lib.hid LV
  replace hi := Lib.hid hi
  replace hz0 := Lib.hid hz0
  replace hz1 := Lib.hid hz1
  replace hz2 := Lib.hid hz2
  go_enter Tryd.func12, Tryd.ntmps12
  go_wp2_with (fail)
  refine (CP.out _ (by (repeat (first | assumption | exact Ext.rf _ | apply Ext.drew | apply Ext.drewN | apply Ext.alloc)))).mono ?_
  rintro e w2 ⟨us, rfl, O1, x1⟩
  obtain ⟨A3, l3, d3, A4, l4, d4, A5, l5, d5, rfl⟩ := O1.six
  have X2 := Ext.tr (a := w) (by (repeat (first | assumption | exact Ext.rf _ | apply Ext.drew | apply Ext.drewN | apply Ext.alloc))) x1
  have B2 := B1.out.ext x1
  have O2 := O1
  obtain ⟨X3, B3, O3⟩ := put_copy B2 X2 O2
  have t0 : w2.cell? ⟨w.heap.size, 0, none⟩ = some (.int .i64 i.kind) := B2.cell 0
  have t1 : w2.cell? ⟨w.heap.size, 1, none⟩ = some (.int .i64 i.n) := B2.cell 1
  have t2 : w2.cell? ⟨w.heap.size, 2, none⟩ = some (.int .i64 i.cap) := B2.cell 2
  have t3 : w2.cell? ⟨w.heap.size, 3, none⟩ = some (.slice A i.weight.length a) := B2.cell 3
  have t4 : w2.cell? ⟨w.heap.size, 4, none⟩ = some (.slice B i.value.length b) := B2.cell 4
  have t5 : w2.cell? ⟨w.heap.size, 5, none⟩ = some (.slice C i.cost.length c) := B2.cell 5
  have f0 := B2.free 0
  have f1 := B2.free 1
  have f2 := B2.free 2
  have f3 := B2.free 3
  have f4 := B2.free 4
  have f5 := B2.free 5
  have X4 := Lib.hid X3
  have B4 := Lib.hid B3
  have O4 := Lib.hid O3
  clear X2 B2 O2 O1 B1 X3 B3 O3 x1
  go_wp2_with (fail)
  refine (hn.out _ _ (hT.out.ext X4.out) (O4.out.rinst hI)).mono ?_
  rintro e w5 ⟨g, rfl, K5, x5⟩
  replace X4 := Lib.hid (X4.out.tr x5)
  replace B4 := Lib.hid (B4.out.ext x5)
  replace O4 := Lib.hid (O4.out.ext x5)
  clear t0 t1 t2 t3 t4 t5 f0 f1 f2 f3 f4 f5 x5
  go_wp2_with (fail)
  refine (tours_any _ (hT.out.ext X4.out)).mono ?_
  rintro e w6 ⟨rfl, x6⟩
  have K6 := Lib.hid (KX.out _ _ _ _ K5 x6)
  have X6 := Lib.hid (X4.out.tr x6)
  have O6 := Lib.hid (O4.out.ext x6)
  have B6 := Lib.hid (B4.out.ext x6)
  clear K5 x6 X4 O4 B4
  have c0 : w6.cell? ⟨w.heap.size, 0, none⟩ = some (.int .i64 j.kind) := B6.out.cell 0
  have c1 : w6.cell? ⟨w.heap.size, 1, none⟩ = some (.int .i64 j.n) := B6.out.cell 1
  have c2 : w6.cell? ⟨w.heap.size, 2, none⟩ = some (.int .i64 j.cap) := B6.out.cell 2
  have c3 : w6.cell? ⟨w.heap.size, 3, none⟩ = some (.slice A3 l3 d3) := B6.out.cell 3
  have c4 : w6.cell? ⟨w.heap.size, 4, none⟩ = some (.slice A4 l4 d4) := B6.out.cell 4
  have c5 : w6.cell? ⟨w.heap.size, 5, none⟩ = some (.slice A5 l5 d5) := B6.out.cell 5
  go_wp2_with (fail)
  refine (SM.out _ _ (O6.out.rinst hI)).mono ?_
  rintro e w7 ⟨rfl, x7⟩
  have K7 := Lib.hid (KX.out _ _ _ _ K6.out x7)
  have X7 := Lib.hid (X6.out.tr x7)
  have O7 := Lib.hid (O6.out.ext x7)
  have B7 := Lib.hid (B6.out.ext x7)
  clear K6 X6 O6 B6 x7 c0 c1 c2 c3 c4 c5
  have c0 : w7.cell? ⟨w.heap.size, 0, none⟩ = some (.int .i64 3) := by rw [← hk.out]; exact B7.out.cell 0
  have c1 : w7.cell? ⟨w.heap.size, 1, none⟩ = some (.int .i64 j.n) := B7.out.cell 1
  cases sm with
  | false =>
    go_wp2_with (fail)
    refine (tours_any _ (hT.out.ext X7.out)).mono ?_
    rintro e w8 ⟨rfl, x8⟩
    have X8 := Lib.hid (X7.out.tr x8)
    clear x8
    go_wp2_with (fail)
    go_ret
    exact ⟨rfl, X8.out⟩
  | true =>
    by_cases hn7 : j.n ≤ 5
    · have hg7 : decide (5 < j.n) = false := decide_eq_false (by omega)
      have TR1 := Lib.hid (TR.out rfl hn7)
      have RA1 := Lib.hid (fun us W h => RA.out us W h rfl hn7)
      have TRW : Hid (∀ y ∈ lv [], okT y ∧ y.length = N) := LV.out rfl hn7
      clear hn7 TR RA LV
      go_wp2_with (at_builtin; refine wpl_app_v _ (e := 22) Tryd.underlying23 hi.out hz0.out hz1.out hz2.out (by simp [Value.cells]) (by omega) rfl _ _ rfl w7.heap.size none 0 0 [] (some ⟨w7.heap.size + 1, 0, none⟩) 1 1 [.slice (some ⟨w7.heap.size, 0, none⟩) 0 0] rfl rfl (OwV.nil _ _ _ _) (RdV.blk (.new (by simp))).rdC (by simp) (by simp [Value.oneCell']) (by simp only [maxLen]; omega) (by omega) (by simp; omega) ?_; rintro WA0 wc0 w8 oW gW _)
      have bE : Blk w8 w7.heap.size 3 #[] := (Blk.alloc (.new rfl) _).grown gW (by simp [bl])
      have X8 : Ext w7 w8 := Ext.grownNone (a := w7) (by (repeat (first | assumption | exact Ext.rf _ | apply Ext.drew | apply Ext.drewN | apply Ext.alloc))) gW
      have R8 : RowsO w8 w7.heap.size [.slice (some ⟨w7.heap.size, 0, none⟩) 0 0] [[]] := (RowsO.nil w8 w7.heap.size).snoc (OwI.empty bE (Nat.le_refl _))
      have wcl := oW.le
      have START : Hid (OutR w7 w8 okT lv an WA0 none [[]] [] 0) := ⟨_, [], X8, oW.read, R8, OwV.nil _ _ _ _, RowsO.nil _ _, (by intro k hk; simp [bl] at hk), InvT.start TR1.out⟩
      clear bE X8 R8 oW gW c0 c1
      go_loopw [5, 6] (fun v5 v6 wr => ∃ (W F : List (List Int)) (WA FA : Option Addr) (wc fc n m : Nat), v5 = .slice WA n wc ∧ v6 = .slice FA m fc ∧ n ≤ wc ∧ Hid (W.length = n) ∧ Hid (F.length = m) ∧ Hid (OutR w7 wr okT lv an WA FA W F fc)) (fun v5 _ wr => stackM N v5 wr)
      case atStart => exact ⟨[[]], [], WA0, none, wc0, 0, 1, 0, rfl, rfl, wcl.1, rfl, rfl, START⟩
      case round =>
        obtain ⟨wo, rfl⟩ : ∃ wo : World, wo = wr := ⟨_, rfl⟩
        clear START wcl
        obtain ⟨W, F, WA, FA, wc, fc, n, m, rfl, rfl, hnc, eW, eF, HO⟩ := hrel
        rcases List.eq_nil_or_concat W with rfl | ⟨q, p, hqp⟩
        · obtain rfl : 0 = n := eW.out
          obtain ⟨wus, fus, Xo, -, -, OF, RF, -, IV⟩ := HO.out
          obtain rfl := IV.done
          have NB := TR1.out.many
          have ND := Lib.hid TR1.out.once
          have CN := TR1.out.cnt
          rw [eF.out] at NB OF
          have em : Hid (m = tot) := by
            have h : m = tot := by rw [← CN]; exact eF.out.symm
            exact h
          have AB : Hid (∀ (k : Nat) (x : List Int), ((lv []).map an)[k]? = some x → x.length ≤ 1000) := fun k x h => by
            obtain ⟨y, hy, rfl⟩ := List.mem_map.1 (List.mem_of_getElem? h)
            obtain ⟨y1, y2⟩ := TRW.out y hy
            exact AL.out y y1 y2
          have LF : Hid (((lv []).map an).length = m) := by
            have h : ((lv []).map an).length = m := by rw [List.length_map]; exact eF.out
            exact h
          have Bo := Lib.hid (B7.out.ext Xo)
          have Oo := Lib.hid (O7.out.ext Xo)
          have RV := Lib.hid OF.read
          have OFl := OF.le
          replace RF := Lib.hid RF
          replace Xo := Lib.hid (X7.out.tr Xo)
          clear HO IV OF CN B7 O7 X7 K7 TR1 TRW
          generalize (lv []).map an = FL at *
          go_wp2_with (fail)
          go_loopw [15] (fun v wr => ∃ ka : Nat, v = .int .i64 ka ∧ ka ≤ m ∧ Ext wo wr) (fun v _ => m - (intOf v).toNat)
          case atStart => exact ⟨0, rfl, by omega, Ext.rf _⟩
          case round =>
            obtain ⟨wa, rfl⟩ : ∃ wa : World, wa = wr := ⟨_, rfl⟩
            obtain ⟨ka, rfl, hka, Ya⟩ := hrel
            by_cases hlt : ka < m
            · go_wp2_with (fail)
              go_loopw [16] (fun v wr => ∃ kb : Nat, v = .int .i64 kb ∧ kb ≤ ka ∧ Ext wo wr) (fun v _ => ka - (intOf v).toNat)
              case atStart => exact ⟨0, rfl, by omega, Ya⟩
              case round =>
                obtain ⟨wb, rfl⟩ : ∃ wb : World, wb = wr := ⟨_, rfl⟩
                obtain ⟨kb, rfl, hkb, Yb⟩ := hrel
                clear Ya
                by_cases hltb : kb < ka
                · have hf1 : ka < FL.length := by rw [LF.out]; exact hlt
                  have hf2 : kb < FL.length := by rw [LF.out]; omega
                  obtain ⟨xa, hxa⟩ : ∃ x, Hid (FL[ka]? = some x) := ⟨FL[ka], List.getElem?_eq_getElem hf1⟩
                  obtain ⟨xb, hxb⟩ : ∃ x, Hid (FL[kb]? = some x) := ⟨FL[kb], List.getElem?_eq_getElem hf2⟩
                  obtain ⟨Aa, ca, ha1, ha2⟩ := RF.out.2 ka xa hxa.out
                  obtain ⟨Ab, cb, hb1, hb2⟩ := RF.out.2 kb xb hxb.out
                  have hne : xa ≠ xb := by
                    intro h
                    have h1 := hxa.out
                    rw [h, ← hxb.out] at h1
                    have := (List.getElem?_inj hf1 ND.out).1 h1
                    omega
                  have la := AB.out ka xa hxa.out
                  have lb := AB.out kb xb hxb.out
                  have hlf : ka < fus.length := by rw [RF.out.1]; exact hf1
                  obtain ⟨fb, fo, va, rfl, zf, fca, efa⟩ := RV.out.at hlf
                  obtain rfl : .slice Aa xa.length ca = va := by
                    have h := efa.out
                    rw [ha1] at h
                    exact Option.some.inj h
                  have fcb := (RV.out.form (by intro h; rw [h] at hlf; simp at hlf))
                  obtain ⟨fb', fo', hfe, _, hfc⟩ := fcb
                  obtain ⟨rfl, rfl⟩ : fb = fb' ∧ fo = fo' := by simpa using hfe
                  have fcb := hfc kb _ hb1
                  have fca' := keepEL Yb zf fca
                  have fcb' := keepEL Yb zf fcb
                  have ra := Lib.hid (ha2.read.ext Yb)
                  have rb := Lib.hid (hb2.read.ext Yb)
                  have q1 : (ka : Int) < (m : Int) := by omega
                  have q2 : (kb : Int) < (m : Int) := by omega
                  have SA := Lib.hid (fun (W : World) (y : Ext wb W) => same_any Aa Ab ca cb xa xb W (ra.out.ext y) (rb.out.ext y) (by simp only [maxLen]; omega) (by simp only [maxLen]; omega))
                  rw [decide_eq_false hne] at SA
                  clear hfc hfe efa hxa hxb ha1 ha2 hb1 hb2 hne ra rb fca fcb hf1 hf2
                  go_upto_region 30 with (fail)
                  refine wp_region_any (by kernel_rfl) ?_
                  change wpAny _ _ _ _ _ _ _ (World.drew _)
                  refine wpAny_T (i := 0) (op := Op.move (Operand.tmp 6)) (t := 23) (d := some 153) (v := ?_) rfl (by decide +kernel) (by decide +kernel) (by decide +kernel) (fun _ _ _ h => h) ?_ ?_
                  case refine_2 => (intro _; unfold exec2; go_simp; try with_reducible rfl)
                  try simp only [Act.put, List.setIfInBounds_toArray, List.set_cons_zero, List.set_cons_succ]
                  refine wpAny_T (i := 1) (op := Op.move (Operand.tmp 15)) (t := 3) (d := some 154) (v := ?_) rfl (by decide +kernel) (by decide +kernel) (by decide +kernel) (fun _ _ _ h => h) ?_ ?_
                  case refine_2 => (intro _; unfold exec2; go_simp; try with_reducible rfl)
                  try simp only [Act.put, List.setIfInBounds_toArray, List.set_cons_zero, List.set_cons_succ]
                  refine wpAny_T (i := 2) (op := Op.indexAddr 23 (Operand.tmp 153) (Operand.tmp 154)) (t := 0) (d := some 155) (v := ?_) rfl (by decide +kernel) (by decide +kernel) (by decide +kernel) (fun _ _ _ h => h) ?_ ?_
                  case refine_2 => (intro _; unfold exec2; go_simp; try with_reducible rfl)
                  try simp only [Act.put, List.setIfInBounds_toArray, List.set_cons_zero, List.set_cons_succ]
                  refine wpAny_T (i := 4) (op := Op.move (Operand.tmp 6)) (t := 23) (d := some 157) (v := ?_) rfl (by decide +kernel) (by decide +kernel) (by decide +kernel) (fun _ _ _ h => h) ?_ ?_
                  case refine_2 => (intro _; unfold exec2; go_simp; try with_reducible rfl)
                  try simp only [Act.put, List.setIfInBounds_toArray, List.set_cons_zero, List.set_cons_succ]
                  refine wpAny_T (i := 5) (op := Op.move (Operand.tmp 16)) (t := 3) (d := some 158) (v := ?_) rfl (by decide +kernel) (by decide +kernel) (by decide +kernel) (fun _ _ _ h => h) ?_ ?_
                  case refine_2 => (intro _; unfold exec2; go_simp; try with_reducible rfl)
                  try simp only [Act.put, List.setIfInBounds_toArray, List.set_cons_zero, List.set_cons_succ]
                  refine wpAny_T (i := 6) (op := Op.indexAddr 23 (Operand.tmp 157) (Operand.tmp 158)) (t := 0) (d := some 159) (v := ?_) rfl (by decide +kernel) (by decide +kernel) (by decide +kernel) (fun _ _ _ h => h) ?_ ?_
                  case refine_2 => (intro _; unfold exec2; go_simp; try with_reducible rfl)
                  try simp only [Act.put, List.setIfInBounds_toArray, List.set_cons_zero, List.set_cons_succ]
                  refine wpAny_reads (n := 1) [(3, some 156), (7, some 160)] (fun | 3 => .slice Aa xa.length ca | 7 => .slice Ab xb.length cb | _ => undef) #[true, true, true, true, true, true, true, true, false] (by decide +kernel) ?_ ?_
                  · intro pS hpm uS hD K hK
                    simp only [List.mem_cons, List.not_mem_nil, or_false] at hpm
                    rcases hpm with rfl | rfl
                    · exact op_ld (T := 22) (x := Operand.tmp 155) (t := 22) (d := some 156) rfl (.pointer (some ⟨fb, fo + ka, none⟩)) (by kernel_rfl) (.slice Aa xa.length ca) (by go_simp) hK
                    · exact op_ld (T := 22) (x := Operand.tmp 159) (t := 22) (d := some 160) rfl (.pointer (some ⟨fb, fo + kb, none⟩)) (by kernel_rfl) (.slice Ab xb.length cb) (by go_simp) hK
                  simp only [putAll, Act.put, List.setIfInBounds_toArray, List.set_cons_zero, List.set_cons_succ]
                  refine wpAny_next 8 (by decide +kernel) (op_call (f := 27) (xs := #[Operand.tmp 156, Operand.tmp 160]) (ts := #[22, 22]) (t := 4) (d := some 161) rfl #[.slice Aa xa.length ca, .slice Ab xb.length cb] (by go_simp) (by kernel_rfl) _ (SA.out _ ((Ext.rf _).drew)) ?_)
                  rintro e wc ⟨rfl, xc⟩
                  refine ⟨_, rfl, ?_⟩
                  try simp only [Act.put, List.setIfInBounds_toArray, List.set_cons_zero, List.set_cons_succ]
                  refine wpAny_done (by kernel_rfl) ?_ _
                  have Yc := Lib.hid (Yb.tr (Ext.tr (a := wb) ((Ext.rf _).drew) xc))
                  clear xc fca' fcb'
                  go_simp
                  go_wp2_with (fail)
                  go_roundw
                  case rel => exact ⟨kb + 1, by go_num, by omega, Yc.out⟩
                  case measure => simp [intOf]; omega
                · obtain rfl : kb = ka := by omega
                  go_wp2_with (fail)
                  go_roundw
                  case rel => exact ⟨kb + 1, by go_num, by omega, Yb⟩
                  case measure => simp [intOf]; omega
            · obtain rfl : ka = m := by omega
              have Ba := Bo.out.ext Ya
              have c0 : wa.cell? ⟨w.heap.size, 0, none⟩ = some (.int .i64 j.kind) := Ba.cell 0
              have c1 : wa.cell? ⟨w.heap.size, 1, none⟩ = some (.int .i64 j.n) := Ba.cell 1
              have c2 : wa.cell? ⟨w.heap.size, 2, none⟩ = some (.int .i64 j.cap) := Ba.cell 2
              have c3 : wa.cell? ⟨w.heap.size, 3, none⟩ = some (.slice A3 l3 d3) := Ba.cell 3
              have c4 : wa.cell? ⟨w.heap.size, 4, none⟩ = some (.slice A4 l4 d4) := Ba.cell 4
              have c5 : wa.cell? ⟨w.heap.size, 5, none⟩ = some (.slice A5 l5 d5) := Ba.cell 5
              go_wp2_with (fail)
              refine (RA1.out _ _ ((Oo.out.ext Ya).rinst hI)).mono ?_
              rintro e wf ⟨rfl, xf⟩
              have Xf := Lib.hid ((Xo.out.tr Ya).tr xf)
              clear xf c0 c1 c2 c3 c4 c5
              go_wp2_with (fail)
              go_ret
              exact ⟨by simp [em.out], Xf.out⟩
        · rw [List.concat_eq_append] at hqp
          subst hqp
          obtain ⟨k0, hk0⟩ : ∃ k0 : Nat, Hid (q.length = k0) := ⟨q.length, rfl⟩
          obtain rfl : k0 + 1 = n := by rw [← eW.out, ← hk0.out]; simp
          obtain ⟨wus, fus, Xo, RW, OW, OF, RF, DD, IV⟩ := HO.out
          have sz := IV.size TR1.out
          have NB := TR1.out.many
          have okp : okT p := IV.1 p (by simp)
          have lpN := TR1.out.len okp
          have lW : wus.length = k0 + 1 := by rw [OW.1]; simp [hk0.out]
          obtain ⟨PA, pc, hp1, hp2⟩ := OW.last
          have OWi := OW.init
          rw [hk0.out] at hp1 OWi
          obtain ⟨wb, wo', vp, rfl, zw, cwp, ewp⟩ := RW.at (j := k0) (by omega)
          obtain rfl : .slice PA p.length pc = vp := by
            have h := ewp.out
            rw [hp1] at h
            exact Option.some.inj h
          have RWi := RW.take k0
          have MS := Lib.hid (stackM_eq (N := N) (c := wc) RW OW)
          have hm9 : k0 + m ≤ 3000 := by
            rw [← hk0.out, ← eF.out]
            simp at sz
            omega
          have OFl := OF.le
          rw [eF.out] at OF OFl
          replace RWi := Lib.hid RWi
          replace OWi := Lib.hid OWi
          replace OF := Lib.hid OF
          replace RF := Lib.hid RF
          replace DD := Lib.hid DD
          replace IV := Lib.hid IV
          have pP := Lib.hid hp2.read
          have Ko := Lib.hid (KX.out _ _ _ _ K7.out Xo)
          have Oo := Lib.hid (O7.out.ext Xo)
          have Bo := Lib.hid (B7.out.ext Xo)
          have zo := Xo.size
          replace Xo := Lib.hid Xo
          have hcp : k0 ≤ wc := by omega
          clear HO ewp hp1 hp2 RW OW sz NB eW
          by_cases hpl : p.length = N
          · have KI1 := fun (W : World) (y : Ext wo W) => KI.out g _ PA pc p W (KX.out _ _ _ _ Ko.out y) (pP.out.ext y) okp
            rw [TR1.out.none okp hpl] at KI1
            replace KI1 := Lib.hid KI1
            have hplb : ((p.length : Int) == (N : Int)) = true := by rw [hpl]; simp
            replace hpl := Lib.hid hpl
            replace okp := Lib.hid okp
            go_wp2_with (fail)
            refine (KI1.out _ (by (repeat (first | assumption | exact Ext.rf _ | apply Ext.drew | apply Ext.drewN | apply Ext.alloc)))).mono ?_
            rintro e wk ⟨LA, lc, rfl, -, -, -, xk⟩
            have Xk := Lib.hid (Ext.tr (a := wo) (by (repeat (first | assumption | exact Ext.rf _ | apply Ext.drew | apply Ext.drewN | apply Ext.alloc))) xk)
            clear xk cwp
            go_wp2_with (fail)
            refine (DE.out g _ _ (KX.out _ _ _ _ Ko.out Xk.out)).mono ?_
            rintro e wd ⟨rfl, xd⟩
            have Xd := Lib.hid (Xk.out.tr xd)
            clear xd
            go_wp2_with (fail)
            refine (AN.out g _ PA pc p _ (KX.out _ _ _ _ Ko.out Xd.out) (pP.out.ext Xd.out) okp.out hpl.out).mono ?_
            rintro e wx ⟨XA, xc, rfl, oX, xx⟩
            have Xx := Lib.hid (Xd.out.tr xx)
            have zx := Xd.out.size
            replace oX := Lib.hid oX
            clear xx
            have Bx := Bo.out.ext Xx.out
            have c0 : wx.cell? ⟨w.heap.size, 0, none⟩ = some (.int .i64 j.kind) := Bx.cell 0
            have c1 : wx.cell? ⟨w.heap.size, 1, none⟩ = some (.int .i64 j.n) := Bx.cell 1
            have c2 : wx.cell? ⟨w.heap.size, 2, none⟩ = some (.int .i64 j.cap) := Bx.cell 2
            have c3 : wx.cell? ⟨w.heap.size, 3, none⟩ = some (.slice A3 l3 d3) := Bx.cell 3
            have c4 : wx.cell? ⟨w.heap.size, 4, none⟩ = some (.slice A4 l4 d4) := Bx.cell 4
            have c5 : wx.cell? ⟨w.heap.size, 5, none⟩ = some (.slice A5 l5 d5) := Bx.cell 5
            obtain ⟨cv, CO1⟩ := CO.out _ XA xc p _ ((Oo.out.ext Xx.out).rinst hI) okp.out hpl.out oX.out.read
            go_wp2_with (fail)
            refine CO1.mono ?_
            rintro e wy ⟨rfl, xy⟩
            have Xy := Lib.hid (Xx.out.tr xy)
            have oY := Lib.hid ((oX.out.more (Nat.le_trans zo zx)).ext xy)
            clear xy c0 c1 c2 c3 c4 c5 oX CO1
            unfold BoundVal
            have OFy := OF.out.ext Xy.out
            have zy := Xy.out.size
            go_wp2_with (at_builtin; refine wpl_app_v _ (e := 22) Tryd.underlying23 hi.out hz0.out hz1.out hz2.out (by simp [Value.cells]) (by omega) rfl _ _ rfl w7.heap.size FA m fc fus (some ⟨wy.heap.size, 0, none⟩) 1 1 [.slice XA (an p).length xc] rfl rfl (OFy.ext ((Ext.rf _).alloc _)) (RdV.blk (.new (by simp))).rdC (by simp) (by simp [Value.oneCell']) (by simp only [maxLen]; omega) (by omega) (by simp; omega) ?_; rintro FA2 fc2 w9 o9 g9 a9)
            have OFz := OFy.ext ((Ext.rf wy).alloc (.cells #[.slice XA (an p).length xc] 22))
            have M9 := OFz.grownT g9
            have Xz : Ext wo (wy.alloc (.cells #[.slice XA (an p).length xc] 22)) := Xy.out.tr ((Ext.rf _).alloc _)
            have REL : Hid (OutR w7 w9 okT lv an (some ⟨wb, wo', none⟩) FA2 q (F ++ [p]) fc2) := by
              refine ⟨wus.take k0, fus ++ [.slice XA (an p).length xc], (Xo.out.tr Xz).modT M9 (Nat.le_refl _), ?_, (OWi.out.ext Xz).modT M9 (by decide), ?_, ?_, ?_, IV.out.found TR1.out hpl.out⟩
              · refine (RWi.out.ext Xz).keep fun z hz => ?_
                refine g9.block z ?_ ?_
                · have : z = wb := by simpa [bl] using hz.symm
                  have := Xz.size
                  omega
                · intro h
                  exact DD.out z h.symm (by simpa [bl] using hz)
              · rw [List.length_append, eF.out]
                exact o9
              · rw [List.map_append]
                exact ((RF.out.ext Xz).modT M9 (by decide)).snoc ((oY.out.ext ((Ext.rf _).alloc _)).modT M9 (by decide))
              · intro z hz hw
                rcases a9 with h | h
                · exact DD.out z (h ▸ hz) hw
                · rw [h] at hz
                  have h1 : z = wb := by simpa [bl] using hw.symm
                  have h2 := Xz.size
                  have h3 : (wy.alloc (.cells #[.slice XA (an p).length xc] 22)).heap.size = z := by simpa using hz
                  omega
            have MS2 : Hid (stackM N (.slice (some ⟨wb, wo', none⟩) k0 wc) w9 < stackM N (.slice (some ⟨wb, wo', none⟩) (k0 + 1) wc) wo) := by
              obtain ⟨wus2, fus2, _, r1, r2, _⟩ := REL.out
              have h1 := stackM_eq (N := N) (c := wc) r1 r2
              have h2 := MS.out
              rw [hk0.out] at h1
              simp only [List.length_append, List.length_cons, List.length_nil, hk0.out] at h2
              have h3 : stackM N (.slice (some ⟨wb, wo', none⟩) k0 wc) w9 < stackM N (.slice (some ⟨wb, wo', none⟩) (k0 + 1) wc) wo := by rw [h1, h2]; exact workT_found
              exact h3
            have eF2 : Hid ((F ++ [p]).length = m + 1) := by
              have h : (F ++ [p]).length = m + 1 := by rw [List.length_append, eF.out]; rfl
              exact h
            clear OFz M9 Xz o9 g9 a9 OFy oY
            go_wp2_with (fail)
            go_roundw
            case rel => exact ⟨q, F ++ [p], _, FA2, wc, fc2, k0, m + 1, rfl, rfl, by omega, hk0, eF2, REL⟩
            case measure => exact MS2.out
          · have hplt : p.length < N := by omega
            have KI1 := fun (W : World) (y : Ext wo W) => KI.out g _ PA pc p W (KX.out _ _ _ _ Ko.out y) (pP.out.ext y) okp
            have kl := KL.out p
            have IV2 := Lib.hid (IV.out.more TR1.out hplt)
            have WK2 := Lib.hid (workT_more (q := q) TR1.out okp hplt)
            obtain ⟨ks, hks⟩ : ∃ ks, Hid (kd p = ks) := ⟨kd p, rfl⟩
            rw [hks.out] at KI1 kl IV2 WK2
            clear hks
            replace KI1 := Lib.hid KI1
            have hplb : ((p.length : Int) == (N : Int)) = false := by rw [beq_eq_false_iff_ne]; omega
            have lp64 : p.length ≤ 64 := by omega
            clear hpl hplt lpN okp
            go_wp2_with (fail)
            refine (KI1.out _ (by (repeat (first | assumption | exact Ext.rf _ | apply Ext.drew | apply Ext.drewN | apply Ext.alloc)))).mono ?_
            rintro e wk ⟨LA, lc, rfl, rK, -, -, xk⟩
            have Xk := Lib.hid (Ext.tr (a := wo) (by (repeat (first | assumption | exact Ext.rf _ | apply Ext.drew | apply Ext.drewN | apply Ext.alloc))) xk)
            replace rK := Lib.hid rK
            clear xk cwp
            go_wp2_with (fail)
            refine (DE.out g _ _ (KX.out _ _ _ _ Ko.out Xk.out)).mono ?_
            rintro e ws ⟨rfl, xd⟩
            have Xs := Lib.hid (Xk.out.tr xd)
            have rS := Lib.hid (rK.out.ext xd)
            have pS := Lib.hid (pP.out.ext Xs.out)
            have zs := Xs.out.size
            have START2 : Hid (Ext ws ws ∧ RdV ws 22 (some ⟨wb, wo', none⟩) (wus.take k0) ∧ RowsO ws w7.heap.size (wus.take k0) (q ++ (ks.take 0).map (fun x => p ++ [x])) ∧ (∀ z, bl FA = some z → bl (some (⟨wb, wo', none⟩ : Addr)) ≠ some z)) :=
              ⟨Ext.rf _, RWi.out.ext Xs.out, by simpa using OWi.out.ext Xs.out, DD.out⟩
            clear xd Xk rK RWi OWi KI1
            go_wp2_with (fail)
            go_loopw [5, 14] (fun v5 v14 wr => ∃ (k : Nat) (WA' : Option Addr) (wc' n' : Nat) (wus' : List Value), v14 = .int .i64 k ∧ v5 = .slice WA' n' wc' ∧ Hid (n' = k0 + k) ∧ k ≤ ks.length ∧ n' ≤ wc' ∧ Hid (Ext ws wr ∧ RdV wr 22 WA' wus' ∧ RowsO wr w7.heap.size wus' (q ++ (ks.take k).map (fun x => p ++ [x])) ∧ (∀ z, bl FA = some z → bl WA' ≠ some z))) (fun _ v14 _ => ks.length - (intOf v14).toNat)
            case atStart => exact ⟨0, _, wc, k0, _, rfl, rfl, rfl, by omega, hcp, START2⟩
            case round =>
              obtain ⟨wi, rfl⟩ : ∃ wi : World, wi = wr := ⟨_, rfl⟩
              clear START2
              obtain ⟨k, WA', wc', n', wus', rfl, rfl, en, hk, hn', HI⟩ := hrel
              have en2 : n' ≤ k0 + 1000 := by have := en.out; omega
              by_cases hlt : k < ks.length
              · obtain ⟨Y, RI, OI, DI⟩ := HI.out
                obtain ⟨lb, lo, x, rfl, zl, cl, el, _⟩ := (rS.out.ext Y).at hlt
                have q1 : (k : Int) < (ks.length : Int) := by omega
                have li : wus'.length = n' := by rw [OI.1]; simp [hk0.out, en.out]; omega
                have etk : Hid (q ++ (ks.take (k + 1)).map (fun x => p ++ [x]) = (q ++ (ks.take k).map (fun x => p ++ [x])) ++ [p ++ [x]]) := by
                  have h : q ++ (ks.take (k + 1)).map (fun x => p ++ [x]) = (q ++ (ks.take k).map (fun x => p ++ [x])) ++ [p ++ [x]] := by
                    rw [List.take_add_one, el.out]
                    simp
                  exact h
                obtain ⟨r, hr⟩ : ∃ r, Hid (r = p ++ [x]) := ⟨p ++ [x], rfl⟩
                have lr : r.length = p.length + 1 := by rw [hr.out]; simp
                have zi := Y.size
                replace RI := Lib.hid RI
                replace OI := Lib.hid OI
                replace Y := Lib.hid Y
                replace DI := Lib.hid DI
                clear HI el
                go_upto_region 23 with (fail)
                refine wp_region_any (by kernel_rfl) ?_
                change wpAny _ _ _ _ _ _ _ (World.drew _)
                refine wpAny_T (i := 1) (op := Op.move (Operand.tmp 5)) (t := 23) (d := some 129) (v := ?_) rfl (by decide +kernel) (by decide +kernel) (by decide +kernel) (fun _ _ _ h => h) ?_ ?_
                case refine_2 => (intro _; unfold exec2; go_simp; try with_reducible rfl)
                try simp only [Act.put, List.setIfInBounds_toArray, List.set_cons_zero, List.set_cons_succ]
                refine wpAny_T (i := 4) (op := Op.move (Operand.tmp 7)) (t := 22) (d := some 132) (v := ?_) rfl (by decide +kernel) (by decide +kernel) (by decide +kernel) (fun _ _ _ h => h) ?_ ?_
                case refine_2 => (intro _; unfold exec2; go_simp; try with_reducible rfl)
                try simp only [Act.put, List.setIfInBounds_toArray, List.set_cons_zero, List.set_cons_succ]
                refine wpAny_T (i := 6) (op := Op.move (Operand.tmp 8)) (t := 22) (d := some 134) (v := ?_) rfl (by decide +kernel) (by decide +kernel) (by decide +kernel) (fun _ _ _ h => h) ?_ ?_
                case refine_2 => (intro _; unfold exec2; go_simp; try with_reducible rfl)
                try simp only [Act.put, List.setIfInBounds_toArray, List.set_cons_zero, List.set_cons_succ]
                refine wpAny_T (i := 7) (op := Op.move (Operand.tmp 14)) (t := 3) (d := some 135) (v := ?_) rfl (by decide +kernel) (by decide +kernel) (by decide +kernel) (fun _ _ _ h => h) ?_ ?_
                case refine_2 => (intro _; unfold exec2; go_simp; try with_reducible rfl)
                try simp only [Act.put, List.setIfInBounds_toArray, List.set_cons_zero, List.set_cons_succ]
                refine wpAny_T (i := 8) (op := Op.indexAddr 22 (Operand.tmp 134) (Operand.tmp 135)) (t := 0) (d := some 136) (v := ?_) rfl (by decide +kernel) (by decide +kernel) (by decide +kernel) (fun _ _ _ h => h) ?_ ?_
                case refine_2 => (intro _; unfold exec2; go_simp; try with_reducible rfl)
                try simp only [Act.put, List.setIfInBounds_toArray, List.set_cons_zero, List.set_cons_succ]
                refine wpAny_core3 (n := 2) [(0, some 128), (2, some 130), (3, some 131), (5, some 133), (9, some 137), (10, some 138), (11, some 139), (12, some 140)] (fun | 0 => [2] | 3 => [5] | 5 => [11] | 10 => [11] | 11 => [12] | _ => []) (Ext wi)
                  (VF (fun | 9 => some (.int .i64 x) | _ => none)
                    (fun j v W => (j = 0 → ∃ g, v = .slice (some ⟨g, 0, none⟩) 0 0 ∧ wi.heap.size ≤ g ∧ Blk W g 22 #[]) ∧ (j = 2 → ∃ A c, v = .slice A n' c ∧ OwV W wi.heap.size 22 1 A n' c wus') ∧ (j = 3 → ∃ g, v = .slice (some ⟨g, 0, none⟩) 0 0 ∧ wi.heap.size ≤ g ∧ Blk W g 3 #[]) ∧ (j = 5 → ∃ A c, v = .slice A p.length c ∧ OwI W wi.heap.size A c p) ∧ (j = 10 → ∃ h, v = .slice (some ⟨h, 0, none⟩) 1 1 ∧ Blk W h 3 #[.int .i64 x]) ∧ (j = 11 → ∃ A c, v = .slice A r.length c ∧ OwI W wi.heap.size A c r) ∧ (j = 12 → ∃ h A c, v = .slice (some ⟨h, 0, none⟩) 1 1 ∧ Blk W h 22 #[.slice A r.length c] ∧ OwI W wi.heap.size A c r)))
                  (fun i W W' => if i = 11 then ModT wi.heap.size [3] W W' else Ext W W') #[true, true, true, true, true, true, true, true, true, true, true, true, true, false, false] (by kernel_rfl) (by kernel_rfl) ?_ ?_ ?_ ((Ext.rf _).drew)
                · intro i j v W W' hkp hv hs
                  refine VF.stab1 (fun _ ⟨g0, g2, g3, g5, g10, g11, g12⟩ => ?_) hv
                  by_cases hi : i = 11
                  · subst hi
                    rw [if_pos rfl] at hs
                    refine ⟨fun h => ?_, fun h => ?_, fun h => ?_, fun h => ?_, fun h => ?_, fun h => ?_, fun h => ?_⟩
                    · subst h; exact absurd hkp (by decide +kernel)
                    · obtain ⟨A', c', q1, q2⟩ := g2 h
                      exact ⟨A', c', q1, q2.modT hs (by decide)⟩
                    all_goals (subst h; exact absurd hkp (by decide +kernel))
                  · rw [if_neg hi] at hs
                    refine ⟨fun h => ?_, fun h => ?_, fun h => ?_, fun h => ?_, fun h => ?_, fun h => ?_, fun h => ?_⟩
                    · obtain ⟨g, q1, q2, q3⟩ := g0 h
                      exact ⟨g, q1, q2, q3.ext hs⟩
                    · obtain ⟨A', c', q1, q2⟩ := g2 h
                      exact ⟨A', c', q1, q2.ext hs⟩
                    · obtain ⟨g, q1, q2, q3⟩ := g3 h
                      exact ⟨g, q1, q2, q3.ext hs⟩
                    · obtain ⟨A', c', q1, q2⟩ := g5 h
                      exact ⟨A', c', q1, q2.ext hs⟩
                    · obtain ⟨h', q1, q2⟩ := g10 h
                      exact ⟨h', q1, q2.ext hs⟩
                    · obtain ⟨A', c', q1, q2⟩ := g11 h
                      exact ⟨A', c', q1, q2.ext hs⟩
                    · obtain ⟨h', A', c', q1, q2, q3⟩ := g12 h
                      exact ⟨h', A', c', q1, q2.ext hs, q3.ext hs⟩
                · intro pq hpm u W hRW hD K hK
                  have z2 := hRW.size
                  simp only [List.mem_cons, List.not_mem_nil, or_false] at hpm
                  rcases hpm with rfl | rfl | rfl | rfl | rfl | rfl | rfl | rfl
                  · exact op_bs0 rfl _ (bsv0_run _) (hK _ _ (VF.mg rfl ⟨fun _ => ⟨_, rfl, z2, .new rfl⟩, (fun h => by cases h), (fun h => by cases h), (fun h => by cases h), (fun h => by cases h), (fun h => by cases h), (fun h => by cases h)⟩) (hRW.alloc _) (by rw [if_neg (by decide)]; exact (Ext.rf _).alloc _))
                  · obtain ⟨g0, h0, zg, bg⟩ := ((hD 0 (depIn (by kernel_rfl))).g rfl).1 rfl
                    obtain ⟨A3, c3, w3, hr3, o3, x3⟩ := run_fresh_v W (e := 22) Tryd.underlying23 hi.out hz0.out hz1.out hz2.out (by simp [Value.cells]) (by omega) wi.heap.size 23 g0 0 #[] WA' n' wc' wus' bg zg (by simp) ((RI.out.ext hRW).rdC) (by rw [li]; simp) (fun u hu => by
                      obtain ⟨z, hz⟩ := List.getElem?_of_mem hu
                      have hz2 := (List.getElem?_eq_some_iff.1 hz).1
                      rw [OI.out.1] at hz2
                      obtain ⟨A9, c9, e9, _⟩ := OI.out.2 z _ (List.getElem?_eq_getElem hz2)
                      rw [hz] at e9
                      obtain rfl := Option.some.inj e9
                      rfl) (by simp only [maxLen]; omega) (by omega)
                    rw [Nat.zero_add] at hr3 o3
                    exact op_app rfl (.slice (some ⟨g0, 0, none⟩) 0 0) (.slice WA' n' wc') (Eq.trans (b := u 0) (by kernel_rfl) h0) (by kernel_rfl) _ hr3 (hK _ _ (VF.mg rfl ⟨(fun h => by cases h), fun _ => ⟨A3, c3, rfl, o3⟩, (fun h => by cases h), (fun h => by cases h), (fun h => by cases h), (fun h => by cases h), (fun h => by cases h)⟩) (hRW.tr x3) (by rw [if_neg (by decide)]; exact x3))
                  · exact op_bs0 rfl _ (ibs0_run _) (hK _ _ (VF.mg rfl ⟨(fun h => by cases h), (fun h => by cases h), fun _ => ⟨_, rfl, z2, .new rfl⟩, (fun h => by cases h), (fun h => by cases h), (fun h => by cases h), (fun h => by cases h)⟩) (hRW.alloc _) (by rw [if_neg (by decide)]; exact (Ext.rf _).alloc _))
                  · obtain ⟨g, h1, zg, bg⟩ := ((hD 3 (depIn (by kernel_rfl))).g rfl).2.2.1 rfl
                    obtain ⟨A3, c3, w3, hr3, o3, x3⟩ := run_copy_i W wi.heap.size 22 g p PA pc bg zg (pS.out.ext (Y.out.tr hRW)) (by omega)
                    exact op_app rfl (.slice (some ⟨g, 0, none⟩) 0 0) (.slice PA p.length pc) (Eq.trans (b := u 3) (by kernel_rfl) h1) (by kernel_rfl) _ hr3 (hK _ _ (VF.mg rfl ⟨(fun h => by cases h), (fun h => by cases h), (fun h => by cases h), fun _ => ⟨A3, c3, rfl, o3⟩, (fun h => by cases h), (fun h => by cases h), (fun h => by cases h)⟩) (hRW.tr x3) (by rw [if_neg (by decide)]; exact x3))
                  · have r1 := keepEL hRW zl cl
                    exact op_ld (T := 3) rfl (.pointer (some ⟨lb, lo + k, none⟩)) (by kernel_rfl) (.int .i64 x) (by go_simp) (hK _ _ (VF.mk rfl) hRW (by rw [if_neg (by decide)]; exact Ext.rf _))
                  · have h7 := (hD 9 (depIn (by kernel_rfl))).k rfl
                    exact op_bs1 rfl _ (Eq.trans (b := u 9) (by kernel_rfl) h7) _ (ibs1_run _ _) (hK _ _ (VF.mg rfl ⟨(fun h => by cases h), (fun h => by cases h), (fun h => by cases h), (fun h => by cases h), fun _ => ⟨_, rfl, .new rfl⟩, (fun h => by cases h), (fun h => by cases h)⟩) (hRW.alloc _) (by rw [if_neg (by decide)]; exact (Ext.rf _).alloc _))
                  · obtain ⟨A3, c3', h3, o3⟩ := ((hD 5 (depIn (by kernel_rfl))).g rfl).2.2.2.1 rfl
                    obtain ⟨g8, h8, b8⟩ := ((hD 10 (depIn (by kernel_rfl))).g rfl).2.2.2.2.1 rfl
                    obtain ⟨A7, c7, w7', hrun, o7, g7, -⟩ := run_app_i W wi.heap.size 22 A3 p.length c3' p [x] (some ⟨g8, 0, none⟩) 1 rfl o3 (.blk b8 rfl) (by simp; omega) hRW.size
                    have x7 : Ext wi w7' := hRW.grow g7 (fun k hk => (o3.lt k hk).1)
                    have M7 : ModT wi.heap.size [3] W w7' := OwV.grownT (n := p.length) (show OwV W wi.heap.size 3 1 A3 p.length c3' (p.map (Value.int .i64)) from o3) g7
                    rw [← hr.out] at hrun o7
                    exact op_app rfl (.slice A3 p.length c3') (.slice (some ⟨g8, 0, none⟩) 1 1) (Eq.trans (b := u 5) (by kernel_rfl) h3) (Eq.trans (b := u 10) (by kernel_rfl) h8) _ hrun (hK _ _ (VF.mg rfl ⟨(fun h => by cases h), (fun h => by cases h), (fun h => by cases h), (fun h => by cases h), (fun h => by cases h), fun _ => ⟨A7, c7, rfl, o7⟩, (fun h => by cases h)⟩) x7 (by rw [if_pos rfl]; exact M7))
                  · obtain ⟨A7, c7, h7, o7⟩ := ((hD 11 (depIn (by kernel_rfl))).g rfl).2.2.2.2.2.1 rfl
                    exact op_bs1 rfl _ (Eq.trans (b := u 11) (by kernel_rfl) h7) _ (bsv1_run _ _ _ _) (hK _ _ (VF.mg rfl ⟨(fun h => by cases h), (fun h => by cases h), (fun h => by cases h), (fun h => by cases h), (fun h => by cases h), (fun h => by cases h), fun _ => ⟨_, A7, c7, rfl, .new rfl, o7.ext ((Ext.rf _).alloc _)⟩⟩) (hRW.alloc _) (by rw [if_neg (by decide)]; exact (Ext.rf _).alloc _))
                · intro u w8' hRW hV
                  obtain ⟨A2, c2, h2, o2⟩ := ((hV (2, some 130) (by simp) rfl).g rfl).2.1 rfl
                  obtain ⟨h12, A7, c7, h12e, b12, o7⟩ := ((hV (12, some 140) (by simp) rfl).g rfl).2.2.2.2.2.2 rfl
                  simp only [putAll, h2, h12e]
                  obtain ⟨A4, c4, w4, hrun, o4, g4, a4⟩ := run_app_v w8' (e := 22) Tryd.underlying23 hi.out hz0.out hz1.out hz2.out (by simp [Value.cells]) (by omega) wi.heap.size 23 A2 n' c2 wus' (some ⟨h12, 0, none⟩) 1 1 [.slice A7 r.length c7] o2 ((RdV.blk b12).rdC) (by simp) (by simp [Value.oneCell']) (by simp only [maxLen]; omega) (by omega) hRW.size
                  have M4 := o2.grownT g4
                  have X4 : Ext wi w4 := hRW.grow g4 (fun z hz => (o2.lt z hz).1)
                  have HI2 : Hid (Ext ws w4 ∧ RdV w4 22 A4 (wus' ++ [.slice A7 r.length c7]) ∧ RowsO w4 w7.heap.size (wus' ++ [.slice A7 r.length c7]) (q ++ (ks.take (k + 1)).map (fun x => p ++ [x])) ∧ (∀ z, bl FA = some z → bl A4 ≠ some z)) := by
                    refine ⟨Y.out.tr X4, o4.read, ?_, fun z hz hw => ?_⟩
                    · rw [etk.out, ← hr.out]
                      exact (OI.out.ext X4).snoc ((o7.modT M4 (by decide)).more (by omega))
                    · have h1 := (o4.lt z hw).1
                      have h2 := (OF.out.lt z hz).2
                      omega
                  have l4 := o4.le
                  clear h2 h12e hV o7 b12 o2 g4 a4 o4 M4 X4 hRW RI OI DI
                  refine wpAny_next 13 (by kernel_rfl) (op_app rfl (.slice A2 n' c2) (.slice (some ⟨h12, 0, none⟩) 1 1) (by kernel_rfl) (by kernel_rfl) _ hrun ?_)
                  clear hrun
                  try simp only [Act.put, List.setIfInBounds_toArray, List.set_cons_zero, List.set_cons_succ]
                  refine wpAny_T (i := 14) (op := Op.assign (Operand.tmp 141)) (t := 23) (d := some 5) (v := ?_) rfl (by decide +kernel) (by decide +kernel) (by decide +kernel) (fun _ _ _ h => h) ?_ ?_
                  case refine_2 => (intro _; unfold exec2; go_simp; try with_reducible rfl)
                  try simp only [Act.put, List.setIfInBounds_toArray, List.set_cons_zero, List.set_cons_succ]
                  refine wpAny_done (by kernel_rfl) ?_ _
                  clear cl
                  go_simp
                  go_wp2_with (fail)
                  go_roundw
                  case rel => exact ⟨k + 1, A4, c4, n' + 1, _, by go_num, rfl, by rw [en.out]; exact Nat.add_assoc _ _ _, by omega, l4.1, HI2⟩
                  case measure => simp [intOf]; omega
              · obtain rfl : k = ks.length := by omega
                obtain ⟨Y, RI, OI, DI⟩ := HI.out
                rw [List.take_length] at OI
                have REL : Hid (OutR w7 wi okT lv an WA' FA (q ++ ks.map (fun x => p ++ [x])) F fc) := by
                  have XX := Xs.out.tr Y
                  refine ⟨wus', fus, Xo.out.tr XX, RI, OI, ?_, RF.out.ext XX, DI, IV2.out⟩
                  rw [eF.out]
                  exact OF.out.ext XX
                have ln : Hid ((q ++ ks.map (fun x => p ++ [x])).length = n') := by
                  have h : (q ++ ks.map (fun x => p ++ [x])).length = n' := by rw [List.length_append, List.length_map, hk0.out, en.out]
                  exact h
                have MS2 : Hid (stackM N (.slice WA' n' wc') wi < stackM N (.slice (some ⟨wb, wo', none⟩) (k0 + 1) wc) wo) := by
                  have h1 := stackM_eq (N := N) (c := wc') RI OI
                  have h2 := MS.out
                  rw [ln.out] at h1
                  simp only [List.length_append, List.length_cons, List.length_nil, hk0.out] at h2
                  have h3 : stackM N (.slice WA' n' wc') wi < stackM N (.slice (some ⟨wb, wo', none⟩) (k0 + 1) wc) wo := by rw [h1, h2]; exact WK2.out
                  exact h3
                clear Y RI OI DI HI
                go_wp2_with (fail)
                go_roundw
                case rel => exact ⟨_, F, WA', FA, wc', fc, n', m, rfl, rfl, hn', ln, eF, REL⟩
                case measure => exact MS2.out
    · have hg7 : decide (5 < j.n) = true := decide_eq_true (by omega)
      clear hn7
      go_wp2_with (fail)
      refine (tours_any _ (hT.out.ext X7.out)).mono ?_
      rintro e w8 ⟨rfl, x8⟩
      have X8 := Lib.hid (X7.out.tr x8)
      clear x8
      go_wp2_with (fail)
      go_ret
      exact ⟨rfl, X8.out⟩
set_option maxRecDepth 100000 in
theorem walk_yes (i j : InstP) (hj : j = copyP i) (vs : List Value) (w : World) (hT : Tab w) (H : RInst w vs i) (hc : checkP j = 0) (hk : j.kind = 3) :
    Calls Tryd.prog 12 #[.agg (List.toArray vs)] w fun e w' => e = .returned (.bool true) ∧ Ext w w' := by
  have sq := square_ok hc (by omega)
  have rok := rows_ok sq
  have h24 := rok.n2
  have h1 := rok.n1
  have hnn := sq.len
  have eN : (j.cost.length : Int) - 1 = ((j.cost.length - 1 : Nat) : Int) := by omega
  have ke : ∀ {p : List Int}, (∃ s, walkP j.cost p = some s) → (kidsT j.cost p).2 = 0 := fun ⟨s, h⟩ => by
    obtain ⟨l, _, _, h3⟩ := kidsT_of (m := s.1) (last := s.2.1) (cost := s.2.2) h
    exact h3
  have hle : ∀ {p : List Int}, (∃ s, walkP j.cost p = some s) → p.length ≤ j.cost.length := fun ⟨s, h⟩ => by
    have := walkP_len (m := s.1) (last := s.2.1) (cost := s.2.2) h1 h24 h
    omega
  refine walk_gen i j hj vs w hT H (hj ▸ H.ints.copy) hk (j.cost.length - 1) (fun p => ∃ s, walkP j.cost p = some s) (fun p => (kidsT j.cost p).1) (fun p => lvT j.cost (j.cost.length - 1 - p.length) p) (fun p => 0 :: p) (factN (j.cost.length - 1)) (decide (j.n ≤ 6))
    (fun W b g => KernT W b g j.cost (mirP j.cost) ∧ Tab W) (fun W W' b g h x => ⟨h.1.ext x, h.2.ext x⟩) (fun us W hW h => (newt_yes j us W h hc hk).mono fun e w' ⟨g, h1, h2, h3⟩ => ⟨g, h1, ⟨h2, hW.ext h3⟩, h3⟩) (fun us W h => small3_any j us W h hc hk) ?_ (by omega) ?_ ?_ ?_ ?_ ?_ ?_ ?_ ?_
  · intro _ h5
    exact tree_tour h1 (by omega)
  · intro p
    unfold kidsT
    cases hw : walkP j.cost p with
    | none => simp
    | some s =>
      have := memsM_le s.1
      simp only [intsN_len, sortP_len]
      omega
  · intro g b A c p W h hp ho
    have h1 := (kidst_any A c p W h.2 h.1 rok hp (by have := hle ho; omega)).mono fun _ _ h => own_kids h
    rw [ke ho] at h1
    exact h1
  · intro g b W h
    have h1 := deptht_any W h.1 rok.n1 rok.n2
    rw [eN] at h1
    exact h1
  · intro g b A c p W h hp ho hpl
    have h1 := answert_any A c p W h.1 rok hp (by omega)
    obtain ⟨s, hm⟩ := ho
    have e : answerT j.cost p = (0 :: p, 0) := by unfold answerT; rw [hm]; simp only [hpl, if_true]
    rw [e] at h1
    exact h1
  · intro us A c p W h ho hpl hx
    obtain ⟨s, hm⟩ := ho
    obtain ⟨l, WO⟩ := walk_ok (m := s.1) (last := s.2.1) (cost := s.2.2) h1 h24 hm
    have hll : l.length = j.cost.length - 1 := by rw [← hpl, WO.eq, intsN_len]
    have e2 : intsN (0 :: l) = 0 :: p := by rw [WO.eq]; rfl
    have h1 := cost3_any j us A c l W h hc hk (by rw [e2]; exact hx) (whole_perm h1 WO hll)
    refine ⟨pathT j.cost 0 l, ?_⟩
    rw [show (0 :: p).length = j.cost.length by simp; omega]
    exact h1
  · intro us W h _ h5
    exact ranswers13_any j us (.slice none 0 0) W h j.cost.length hnn.symm rok.n1 (by omega)
  · intro _ _ y hy
    obtain ⟨a, b⟩ := (lvT_ok h1 h24 _ [] _ _ _ walkP_root rfl).2.2 y hy
    exact ⟨a, b⟩
  · intro p _ hl
    simp only [List.length_cons]
    omega
set_option maxRecDepth 100000 in
set_option maxHeartbeats 4000000 in
theorem walk_no (i j : InstP) (hj : j = copyP i) (vs : List Value) (w : World) (hT : Tab w) (H : RInst w vs i) (err : Int) (he : err ≠ 0) (hn : ∀ (us : List Value) (W : World), RInst W us j → Calls Tryd.prog 33 #[.agg (List.toArray us)] W fun e w' => e = .returned (.tuple #[.pointer none, .int .i64 err]) ∧ Ext W w') :
    Calls Tryd.prog 12 #[.agg (List.toArray vs)] w fun e w' => e = .returned (.bool true) ∧ Ext w w' := by
  have CP := fun (W : World) (x : Ext w W) => copy_to hj vs W (H.ext x)
  have hI : InstInts j := hj ▸ H.ints.copy
  have eb : (err != 0) = true := by simpa using he
  clear hj he
  obtain ⟨A, a, B, b, C, c, rfl, -, -, -⟩ := H
  have B1 : Hid (Blk (w.alloc (.cells #[.int .i64 i.kind, .int .i64 i.n, .int .i64 i.cap, .slice A i.weight.length a, .slice B i.value.length b, .slice C i.cost.length c] 25)) w.heap.size 25 #[.int .i64 i.kind, .int .i64 i.n, .int .i64 i.cap, .slice A i.weight.length a, .slice B i.value.length b, .slice C i.cost.length c]) := .new rfl
  replace CP := Lib.hid CP
  replace hT := Lib.hid hT
  replace hn := Lib.hid hn
  go_enter Tryd.func12, Tryd.ntmps12
  go_wp2_with (fail)
  refine (CP.out _ (by (repeat (first | assumption | exact Ext.rf _ | apply Ext.drew | apply Ext.drewN | apply Ext.alloc)))).mono ?_
  rintro e w2 ⟨us, rfl, O1, x1⟩
  obtain ⟨A3, l3, d3, A4, l4, d4, A5, l5, d5, rfl⟩ := O1.six
  have X2 := Ext.tr (a := w) (by (repeat (first | assumption | exact Ext.rf _ | apply Ext.drew | apply Ext.drewN | apply Ext.alloc))) x1
  have B2 := B1.out.ext x1
  have O2 := O1
  obtain ⟨X3, B3, O3⟩ := put_copy B2 X2 O2
  have t0 : w2.cell? ⟨w.heap.size, 0, none⟩ = some (.int .i64 i.kind) := B2.cell 0
  have t1 : w2.cell? ⟨w.heap.size, 1, none⟩ = some (.int .i64 i.n) := B2.cell 1
  have t2 : w2.cell? ⟨w.heap.size, 2, none⟩ = some (.int .i64 i.cap) := B2.cell 2
  have t3 : w2.cell? ⟨w.heap.size, 3, none⟩ = some (.slice A i.weight.length a) := B2.cell 3
  have t4 : w2.cell? ⟨w.heap.size, 4, none⟩ = some (.slice B i.value.length b) := B2.cell 4
  have t5 : w2.cell? ⟨w.heap.size, 5, none⟩ = some (.slice C i.cost.length c) := B2.cell 5
  have f0 := B2.free 0
  have f1 := B2.free 1
  have f2 := B2.free 2
  have f3 := B2.free 3
  have f4 := B2.free 4
  have f5 := B2.free 5
  have X4 := Lib.hid X3
  have B4 := Lib.hid B3
  have O4 := Lib.hid O3
  clear X2 B2 O2 O1 B1 X3 B3 O3 x1
  go_wp2_with (fail)
  refine (hn.out _ _ (O4.out.rinst hI)).mono ?_
  rintro e w5 ⟨rfl, x5⟩
  replace X4 := Lib.hid (X4.out.tr x5)
  clear t0 t1 t2 t3 t4 t5 f0 f1 f2 f3 f4 f5 x5
  go_wp2_with (fail)
  refine (tours_any _ (hT.out.ext X4.out)).mono ?_
  rintro e w6 ⟨rfl, x6⟩
  go_wp2_with (fail)
  refine (tours_any _ (hT.out.ext (X4.out.tr x6))).mono ?_
  rintro e w7 ⟨rfl, x7⟩
  have Xd := Lib.hid (X4.out.tr (Ext.tr x6 x7))
  clear x6 x7
  go_wp2_with (fail)
  go_ret
  exact ⟨rfl, Xd.out⟩
theorem walk (vs : List Value) (i : InstP) (w : World) (hT : Tab w) (H : RInst w vs i) (_ : InstOk i) :
    Calls Tryd.prog 12 #[.agg (List.toArray vs)] w fun e w' => e = .returned (.bool true) ∧ Ext w w' := by
  obtain ⟨l1, l2, _⟩ := copyP_lens i
  by_cases hc : checkP (copyP i) = 0
  · by_cases hk : (copyP i).kind = 3
    · exact walk_yes i (copyP i) rfl vs w hT H hc hk
    · exact walk_no i (copyP i) rfl vs w hT H 14 (by omega) (fun us W h => newt_kind (copyP i) us W h (by omega) (by omega) hc hk)
  · exact walk_no i (copyP i) rfl vs w hT H (checkP (copyP i)) hc (fun us W h => newt_bad (copyP i) us W h (by omega) (by omega) hc)

set_option maxRecDepth 100000 in
theorem lifted (os : Os) (started : os.Started) (H : Type) (enc : TypeId × Value → H) :
    ReturnsInHanded {} Tryd.checked os 12 .any (fun w args => (Rows.tourWholeSpec.pre enc Tryd.prog Tryd.f12 Rows.tourWholeRow.domain false w args ∧ laidMetH Tryd.prog tabL w) ∧ sizedMet enc Tryd.prog Tryd.f12 (OpenSpec.ofChange Rows.tourWholeSpec) false w args) (Rows.tourWholeSpec.post enc Tryd.prog Tryd.f12 false true false false) := by
  refine returnsInHanded_of_change_and (C := Tryd.checked) (X := fun w _ => laidMetH Tryd.prog tabL w) (fun _ _ _ hh h => h.of_heap hh) own started (by kernel_rfl) Tryd.func12
    (ChangeSpec.witness_shaped (enc := enc) (C := Tryd.checked) (os := os) (X := fun w _ => laidMetH Tryd.prog tabL w) false (World.laidAll Tryd.prog os tabL) #[.agg #[.int .i64 0, .int .i64 0, .int .i64 0, .slice none 0 0, .slice none 0 0, .slice none 0 0]] 8 (World.laidAll_os _ _ _)
      (World.shaped_of_ZipB (by kernel_rfl) (by kernel_rfl)) (by kernel_rfl) (by kernel_rfl) (by kernel_rfl)
      (by rw [MakeChecks.laidMetH_plain _ _ _ (by kernel_rfl)]; exact laidMet_laidAll _ (by kernel_rfl) (by kernel_rfl))) ?_
  intro W base args ds gs before hval0 hW _ _ hL _
  have hval : ∀ (j : Nat) t v, Tryd.f12.params[j]? = some t → args[j]? = some v → Value.okWide Tryd.prog W .any base t v := hval0
  have hW' := hW
  obtain ⟨p, q, hA0, hV, rfl, hfz, hnd⟩ := hW
  have hA : DataW.TrodAll enc Tryd.prog W 0 (fun _ => true) true Tryd.f12.params.toList args.toList ds p := hA0
  rw [Tryd.params12] at hA hval
  obtain ⟨v0, vs0, d0, ds0, p0, q0, hargs, rfl, rfl, h0, r0⟩ := trodAll_cons hA
  obtain ⟨rfl, rfl, rfl⟩ := trodAll_nil r0
  obtain rfl : args = #[v0] := by cases args; simp_all
  obtain ⟨rfl, rfl⟩ := trodVars_none hV
  obtain ⟨y0, x0, rfl, hx0, ix0⟩ := open_Inst h0 (hval 0 _ v0 rfl rfl)
  refine (walk y0 x0 W (tab_of_laid hL) hx0 ix0).mono fun e W' ⟨he, hg⟩ => ?_
  subst he
  exact ⟨_, rfl, post_law hW' rfl rfl rfl rfl rfl (readable_of (by kernel_rfl)) hg⟩

theorem row : Rows.TourWholeSaid :=
  OpenClaim.holds_of_wide 12 Tryd.f12 rfl rfl rfl rfl rfl rfl rfl ⟨rfl, rfl, rfl, rfl, rfl⟩ rfl rfl rfl rfl rfl (by kernel_rfl) Tryd.func12 (by kernel_rfl)
    (of_decide_eq_true (by kernel_rfl)) (by unfold Func.isWrapper; first | (rw [if_pos (by decide +kernel)]; kernel_rfl) | (rw [if_neg (by decide +kernel)]; exact ⟨rfl, rfl⟩))
    (fun os started H enc _ => lifted os started H enc)
theorem proved : Rows.TourWholeCardSaid :=
  Claim7.holds_tied_plain_at .later [] [.data] true Rows.tourWholeCard.stood.harness false row (fun _ h => by cases h) (by kernel_rfl) (fun _ h => by cases h) tourWhole_row_tie rfl ⟨rfl, rfl⟩ (by kernel_rfl) rfl
    (fun f fn hf hfn => by
      obtain rfl : f = 12 := Option.some.inj ((show Tryd.prog.funcNamed "kurgan/kurganlaw13.TourWhole" = some 12 by kernel_rfl).symm.trans hf) |>.symm
      obtain rfl : fn = Tryd.f12 := (Option.some.inj (Tryd.func12.symm.trans hfn)).symm
      exact ⟨by kernel_rfl, fun j t ht => by
        rw [Tryd.params12] at ht
        have hm : t ∈ [25] := by simpa using Array.mem_of_getElem? ht
        have hall : ([25].all fun u => !Tryd.prog.wantsStandIn u) = true := by kernel_rfl
        exact (show Tryd.prog.wantsStandIn t = false by simpa using List.all_eq_true.1 hall t hm)⟩)
    (by kernel_rfl)
end Go.Proofs.YtpngflmngnjjoaaDoor.tourWhole
