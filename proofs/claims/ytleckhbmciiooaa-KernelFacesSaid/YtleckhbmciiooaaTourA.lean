/-
  A tour's kernel: Mirror, New, Depth.
-/
import Derived.Test.YtleckhbmciiooaaCostP
import Derived.Test.YtleckhbmciiooaaICopy
import Derived.Test.YtleckhbmciiooaaAssignP
namespace Go.Proofs.Ytleckhbmciiooaa
open Go.RowKit Go.ChangeShapes Go.WideShapes Go.ChangeAt Go.Deep

/-- does each way cost what the way back does? -/
def mirP (rows : List (List Int)) : Bool := decide (∀ x, x < rows.length → ∀ y, y < x → costAt rows x y = costAt rows y x)
theorem mirP_true {rows : List (List Int)} (h : ∀ x, x < rows.length → ∀ y, y < x → costAt rows x y = costAt rows y x) : mirP rows = true := decide_eq_true h
theorem mirP_false {rows : List (List Int)} {x y : Nat} (hx : x < rows.length) (hy : y < x) (h : costAt rows x y ≠ costAt rows y x) : mirP rows = false := decide_eq_false fun k => h (k x hx y hy)
theorem mirP_sym {rows : List (List Int)} (h : mirP rows = true) (a b : Nat) (ha : a < rows.length) (hb : b < rows.length) : costAt rows a b = costAt rows b a := by
  have k := of_decide_eq_true h
  rcases Nat.lt_trichotomy a b with hc | hc | hc
  · exact (k b hb a hc).symm
  · subst hc; rfl
  · exact k a ha b hc
set_option maxRecDepth 100000 in
set_option maxHeartbeats 4000000 in
theorem mirror_any (i : InstP) (us : List Value) (w : World) (H : RInst w us i) (hc : checkP i = 0) (hk : i.kind = 3) :
    Calls Try.prog 135 #[.agg (List.toArray us)] w fun e w' => e = .returned (.bool (mirP i.cost)) ∧ Ext w w' := by
  have ok := square_ok hc (by omega)
  have lw : i.weight.length ≤ 1000000000 := by rw [ok.w]; simp
  have lv : i.value.length ≤ 1000000000 := by rw [ok.v]; simp
  have CH := fun (W : World) (x : Ext w W) => check_any i us W (H.ext x) lw lv
  rw [hc] at CH
  have rok := rows_ok ok
  have n24 := rok.n2
  clear ok lw lv hc
  obtain ⟨kind, nn, cap, xw, xv, co⟩ := i
  obtain ⟨A, a, B, b, D, d, rfl, -, -, ⟨hC, -, -⟩⟩ := H
  simp only at *
  subst hk
  have B1 : Hid (Blk (w.alloc (.cells #[.int .i64 3, .int .i64 nn, .int .i64 cap, .slice A xw.length a, .slice B xv.length b, .slice D co.length d] 25)) w.heap.size 25 #[.int .i64 3, .int .i64 nn, .int .i64 cap, .slice A xw.length a, .slice B xv.length b, .slice D co.length d]) := .new rfl
  replace CH := Lib.hid CH
  replace hC := Lib.hid hC
  replace rok := Lib.hid rok
  obtain ⟨mm, hmm⟩ : ∃ mm, Hid (mirP co = mm) := ⟨_, rfl⟩
  rw [hmm.out]
  go_enter Try.func135, Try.ntmps135
  go_wp2_with (fail)
  refine (CH.out _ (by (repeat (first | assumption | exact Ext.rf _ | apply Ext.drew | apply Ext.drewN | apply Ext.alloc)))).mono ?_
  rintro e w1 ⟨rfl, x1⟩
  have X1 := Lib.hid (Ext.tr (a := w) (by (repeat (first | assumption | exact Ext.rf _ | apply Ext.drew | apply Ext.drewN | apply Ext.alloc))) x1)
  have BB := Lib.hid (B1.out.ext x1)
  have d5 : w1.cell? ⟨w.heap.size, 5, none⟩ = some (.slice D co.length d) := BB.out.cell 5
  clear x1
  go_wp2_with (fail)
  go_loopw [17] (fun v wr => ∃ k : Nat, v = .int .i64 k ∧ k ≤ co.length ∧ Hid (∀ x, x < k → ∀ y, y < x → costAt co x y = costAt co y x) ∧ Hid (Ext w1 wr)) (fun v _ => co.length - (intOf v).toNat)
  case atStart => exact ⟨0, rfl, by omega, fun x hx => absurd hx (Nat.not_lt_zero _), Ext.rf _⟩
  case round =>
    obtain ⟨wo, rfl⟩ : ∃ wo : World, wo = wr := ⟨_, rfl⟩
    obtain ⟨k, rfl, hk, HS, Y⟩ := hrel
    by_cases hlt : k < co.length
    · have XW : Hid (Ext w wo) := X1.out.tr Y.out
      obtain ⟨cb, cof, D', row, d', rfl, zb, cD, er, _, rD, iD, ld, md⟩ := (hC.out.ext XW.out fun _ _ h => h.ext XW.out).ints hlt
      have lrow := rok.out.row row (List.mem_of_getElem? er.out)
      have q1 : (k : Int) < (co.length : Int) := by omega
      replace er := Lib.hid er.out
      replace rD := Lib.hid rD
      go_wp2_with (fail)
      go_loopw [23] (fun v wr => ∃ j : Nat, v = .int .i64 j ∧ j ≤ k ∧ Hid (∀ y, y < j → costAt co k y = costAt co y k) ∧ Hid (Ext wo wr)) (fun v _ => k - (intOf v).toNat)
      case atStart => exact ⟨0, rfl, by omega, fun y hy => absurd hy (Nat.not_lt_zero _), Ext.rf _⟩
      case round =>
        obtain ⟨wi, rfl⟩ : ∃ wi : World, wi = wr := ⟨_, rfl⟩
        obtain ⟨j, rfl, hj, HJ, Z⟩ := hrel
        have XZ := Lib.hid (Ext.tr (a := w) (XW.out) Z.out)
        by_cases hlj : j < k
        · obtain ⟨cb', cof', D2, row2, d2, hq, zb2, cD2, er2, _, rD2, iD2, ld2, md2⟩ := (hC.out.ext XZ.out fun _ _ h => h.ext XZ.out).ints (r := j) (by omega)
          obtain ⟨rfl, rfl⟩ : cb = cb' ∧ cof = cof' := by simpa using hq
          have lrow2 := rok.out.row row2 (List.mem_of_getElem? er2.out)
          obtain ⟨rb, ro, x, rfl, zx, cx, ex, _⟩ := (rD.out.ext Z.out).at (k := j) (by omega)
          obtain ⟨rb2, ro2, y, rfl, zy, cy, ey, _⟩ := rD2.at (k := k) (by omega)
          have d5' : wi.cell? ⟨w.heap.size, 5, none⟩ = some (.slice (some ⟨cb, cof, none⟩) co.length d) := ((BB.out.ext Y.out).ext Z.out).cell 5
          have exy : Hid (costAt co k j = x ∧ costAt co j k = y) := by
            refine ⟨?_, ?_⟩
            · unfold costAt; rw [getD_some er.out, getD_some ex.out]
            · unfold costAt; rw [getD_some er2.out, getD_some ey.out]
          have q2 : (j : Int) < (co.length : Int) := by omega
          have q3 : (j : Int) < (row.length : Int) := by omega
          have q4 : (k : Int) < (row2.length : Int) := by omega
          replace ex := Lib.hid ex.out
          replace ey := Lib.hid ey.out
          replace er2 := Lib.hid er2.out
          replace rD2 := Lib.hid rD2
          clear hq
          by_cases hxy : x = y
          · subst hxy
            have t0 : (x != x) = false := by simp
            have NX : Hid (∀ yy, yy < j + 1 → costAt co k yy = costAt co yy k) := fun yy hy => by
              by_cases e : yy = j
              · subst e; rw [exy.out.1, exy.out.2]
              · exact HJ.out yy (by omega)
            go_wp2_with (fail)
            go_quiet (fail)
            go_wp2_with (fail)
            go_roundw
            case rel => exact ⟨j + 1, by go_num, by omega, NX, Z.out.drewN _⟩
            case measure => simp [intOf]; omega
          · have t0 : (x != y) = true := by simpa using hxy
            have HM : Hid (mm = false) := by
              have h : mm = false := by
                rw [← hmm.out]
                exact mirP_false hlt hlj (by rw [exy.out.1, exy.out.2]; exact hxy)
              exact h
            go_wp2_with (fail)
            go_quiet (fail)
            go_wp2_with (fail)
            go_ret
            rw [HM.out]
            exact ⟨rfl, XZ.out.drewN _⟩
        · obtain rfl : j = k := by omega
          have q2 : ¬ (j : Int) < (j : Int) := by omega
          have HS3 : Hid (∀ x, x < j + 1 → ∀ y, y < x → costAt co x y = costAt co y x) := fun x hx => by
            by_cases e : x = j
            · subst e; exact HJ.out
            · exact HS.out x (by omega)
          have YZ := Lib.hid (Y.out.tr Z.out)
          go_wp2_with (fail)
          go_roundw
          case rel => exact ⟨j + 1, by go_num, by omega, HS3, YZ.out⟩
          case measure => simp [intOf]; omega
    · obtain rfl : k = co.length := by omega
      have HM : Hid (mm = true) := by
        have h : mm = true := by
          rw [← hmm.out]
          exact mirP_true HS.out
        exact h
      have q2 : ¬ (co.length : Int) < (co.length : Int) := by omega
      have XW := Lib.hid (X1.out.tr Y.out)
      go_wp2_with (fail)
      go_ret
      rw [HM.out]
      exact ⟨rfl, XW.out⟩
/-- the kernel at g: the rows, of its own -/
def KernT (w : World) (base g : Nat) (rows : List (List Int)) (mi : Bool) : Prop := ∃ C c us, Blk w g 161 #[.slice C rows.length c, .bool mi] ∧ base ≤ g ∧ OwV w base 22 1 C rows.length c us ∧ RowsO w base us rows
theorem KernT.ext {w w' : World} {base g : Nat} {rows : List (List Int)} {mi : Bool} (h : KernT w base g rows mi) (x : Ext w w') : KernT w' base g rows mi := by
  obtain ⟨C, c, us, h1, h2, h3, h4⟩ := h
  exact ⟨C, c, us, h1.ext x, h2, h3.ext x, h4.ext x⟩
def NewTPost (i : InstP) (w : World) (e : Ending) (w' : World) : Prop := ∃ g, e = .returned (.tuple #[.pointer (some ⟨g, 0, none⟩), .int .i64 0]) ∧ KernT w' w.heap.size g i.cost (mirP i.cost) ∧ Ext w w'
set_option maxRecDepth 100000 in
set_option maxHeartbeats 1000000 in
theorem newt_yes (i : InstP) (vs : List Value) (w : World) (H : RInst w vs i) (hc : checkP i = 0) (hk : i.kind = 3) :
    Calls Try.prog 93 #[.agg (List.toArray vs)] w (NewTPost i w) := by
  have ok := square_ok hc (by omega)
  have lw : i.weight.length ≤ 1000000000 := by rw [ok.w]; simp
  have lv : i.value.length ≤ 1000000000 := by rw [ok.v]; simp
  have CH := fun (W : World) (x : Ext w W) => check_any i vs W (H.ext x) lw lv
  rw [hc] at CH
  have CP := fun (W : World) (x : Ext w W) => icopy_any i vs W (H.ext x) lw lv (by have := ok.len; have := ok.n2; omega) (fun r hr => by have := ok.row r hr; have := ok.n2; omega)
  have MI := fun (W : World) (x : Ext w W) => mirror_any i vs W (H.ext x) hc hk
  clear ok lw lv hc
  obtain ⟨mm, hmm⟩ : ∃ mm, Hid (mirP i.cost = mm) := ⟨_, rfl⟩
  unfold NewTPost
  rw [hmm.out] at MI ⊢
  obtain ⟨kind, nn, cap, xw, xv, co⟩ := i
  obtain ⟨A, a, B, b, C, c, rfl, -, -, -⟩ := H
  simp only at *
  subst hk
  have B1 : Hid (Blk (w.alloc (.cells #[.int .i64 3, .int .i64 nn, .int .i64 cap, .slice A xw.length a, .slice B xv.length b, .slice C co.length c] 25)) w.heap.size 25 #[.int .i64 3, .int .i64 nn, .int .i64 cap, .slice A xw.length a, .slice B xv.length b, .slice C co.length c]) := .new rfl
  replace CH := Lib.hid CH
  replace CP := Lib.hid CP
  replace MI := Lib.hid MI
  go_enter Try.func93, Try.ntmps93
  go_wp2_with (fail)
  refine (CH.out _ (by (repeat (first | assumption | exact Ext.rf _ | apply Ext.drew | apply Ext.drewN | apply Ext.alloc)))).mono ?_
  rintro e w1 ⟨rfl, x1⟩
  have X1 := Lib.hid (Ext.tr (a := w) (by (repeat (first | assumption | exact Ext.rf _ | apply Ext.drew | apply Ext.drewN | apply Ext.alloc))) x1)
  have BB := Lib.hid (B1.out.ext x1)
  clear x1
  have c0 : w1.cell? ⟨w.heap.size, 0, none⟩ = some (.int .i64 3) := BB.out.cell 0
  have c1 : w1.cell? ⟨w.heap.size, 1, none⟩ = some (.int .i64 nn) := BB.out.cell 1
  have c2 : w1.cell? ⟨w.heap.size, 2, none⟩ = some (.int .i64 cap) := BB.out.cell 2
  have c3 : w1.cell? ⟨w.heap.size, 3, none⟩ = some (.slice A xw.length a) := BB.out.cell 3
  have c4 : w1.cell? ⟨w.heap.size, 4, none⟩ = some (.slice B xv.length b) := BB.out.cell 4
  have c5 : w1.cell? ⟨w.heap.size, 5, none⟩ = some (.slice C co.length c) := BB.out.cell 5
  have zb := BB.out.lt
  have fld : ∀ W (A3 : Option Addr) (c3 : Nat) (B3 : Option Addr) (d3 : Nat) (C2 : Option Addr) (e2 : Nat), (Instr.field 25 (.agg #[.int .i64 3, .int .i64 nn, .int .i64 cap, .slice A3 xw.length c3, .slice B3 xv.length d3, .slice C2 co.length e2]) 5).run Try.prog W = .ok (.slice C2 co.length e2) W := fun _ _ _ _ _ _ _ => by kernel_rfl
  go_wp2_with (fail)
  go_region_held3 (fun w' => w'.cell? ⟨w.heap.size, 0, none⟩ = some (.int .i64 3) ∧ w'.cell? ⟨w.heap.size, 1, none⟩ = some (.int .i64 nn) ∧ w'.cell? ⟨w.heap.size, 2, none⟩ = some (.int .i64 cap) ∧ w'.cell? ⟨w.heap.size, 3, none⟩ = some (.slice A xw.length a) ∧ w'.cell? ⟨w.heap.size, 4, none⟩ = some (.slice B xv.length b) ∧ w'.cell? ⟨w.heap.size, 5, none⟩ = some (.slice C co.length c)) (go_keep)
    (first
      | (go_at_call 134; refine (CP.out _ (X1.out.tr (by (repeat (first | assumption | exact Ext.rf _ | apply Ext.drew | apply Ext.drewN | apply Ext.alloc))))).mono ?_; rintro e w2 ⟨A3, c3', B3, d3, C2, e2, us, rfl, oV, oR, x2⟩; have y2 := Ext.tr (a := w1) (by (repeat (first | assumption | exact Ext.rf _ | apply Ext.drew | apply Ext.drewN | apply Ext.alloc))) x2; have z2 := y2.size; have oV2 := Lib.hid oV; have oR2 := Lib.hid oR; clear oV oR; have s0 := keepEL y2 zb c0; have s1 := keepEL y2 zb c1; have s2 := keepEL y2 zb c2; have s3 := keepEL y2 zb c3; have s4 := keepEL y2 zb c4; have s5 := keepEL y2 zb c5)
      | (go_at_call 135; refine (MI.out _ (X1.out.tr (by (repeat (first | assumption | exact Ext.rf _ | apply Ext.drew | apply Ext.drewN | apply Ext.alloc))))).mono ?_; rintro e w3 ⟨rfl, x3⟩; have y3 := Ext.tr (a := w1) (by (repeat (first | assumption | exact Ext.rf _ | apply Ext.drew | apply Ext.drewN | apply Ext.alloc))) x3; have s0 := keepEL y3 zb c0; have s1 := keepEL y3 zb c1; have s2 := keepEL y3 zb c2; have s3 := keepEL y3 zb c3; have s4 := keepEL y3 zb c4; have s5 := keepEL y3 zb c5))
  all_goals go_wp2
  all_goals go_ret2
  all_goals refine ⟨_, rfl, ⟨_, _, us, .new rfl, ?_, ?_, ?_⟩, ?_⟩
  · exact (X1.out.tr y3).size
  · exact OwV.ext (n := co.length) (OwV.more (n := co.length) oV2.out X1.out.size) (x3.alloc _)
  · exact (oR2.out.more X1.out.size).ext (x3.alloc _)
  · exact (X1.out.tr y3).alloc _
set_option maxRecDepth 100000 in
theorem newt_bad (i : InstP) (vs : List Value) (w : World) (H : RInst w vs i) (lw : i.weight.length ≤ 1000000000) (lv : i.value.length ≤ 1000000000) (hc : checkP i ≠ 0) :
    Calls Try.prog 93 #[.agg (List.toArray vs)] w fun e w' => e = .returned (.tuple #[.pointer none, .int .i64 (checkP i)]) ∧ Ext w w' := by
  have CH := fun (W : World) (x : Ext w W) => check_any i vs W (H.ext x) lw lv
  have hb : (checkP i != 0) = true := by simpa using hc
  generalize checkP i = r at *
  obtain ⟨A, a, B, b, C, c, rfl, -, -, -⟩ := H
  replace CH := Lib.hid CH
  clear hc
  go_enter Try.func93, Try.ntmps93
  go_wp2_with (fail)
  refine (CH.out _ (by (repeat (first | assumption | exact Ext.rf _ | apply Ext.drew | apply Ext.drewN | apply Ext.alloc)))).mono ?_
  rintro e w1 ⟨rfl, x1⟩
  have X1 := Lib.hid (Ext.tr (a := w) (by (repeat (first | assumption | exact Ext.rf _ | apply Ext.drew | apply Ext.drewN | apply Ext.alloc))) x1)
  clear x1
  go_wp2_with (fail)
  go_ret2
  exact ⟨rfl, X1.out⟩
set_option maxRecDepth 100000 in
theorem newt_kind (i : InstP) (vs : List Value) (w : World) (H : RInst w vs i) (lw : i.weight.length ≤ 1000000000) (lv : i.value.length ≤ 1000000000) (hc : checkP i = 0) (hk : i.kind ≠ 3) :
    Calls Try.prog 93 #[.agg (List.toArray vs)] w fun e w' => e = .returned (.tuple #[.pointer none, .int .i64 14]) ∧ Ext w w' := by
  have CH := fun (W : World) (x : Ext w W) => check_any i vs W (H.ext x) lw lv
  rw [hc] at CH
  have hb : (i.kind != 3) = true := by simpa using hk
  clear hc hk
  obtain ⟨kind, nn, cap, xw, xv, co⟩ := i
  obtain ⟨A, a, B, b, C, c, rfl, -, -, -⟩ := H
  simp only at *
  replace CH := Lib.hid CH
  have B1 : Hid (Blk (w.alloc (.cells #[.int .i64 kind, .int .i64 nn, .int .i64 cap, .slice A xw.length a, .slice B xv.length b, .slice C co.length c] 25)) w.heap.size 25 #[.int .i64 kind, .int .i64 nn, .int .i64 cap, .slice A xw.length a, .slice B xv.length b, .slice C co.length c]) := .new rfl
  go_enter Try.func93, Try.ntmps93
  go_wp2_with (fail)
  refine (CH.out _ (by (repeat (first | assumption | exact Ext.rf _ | apply Ext.drew | apply Ext.drewN | apply Ext.alloc)))).mono ?_
  rintro e w1 ⟨rfl, x1⟩
  have X1 := Lib.hid (Ext.tr (a := w) (by (repeat (first | assumption | exact Ext.rf _ | apply Ext.drew | apply Ext.drewN | apply Ext.alloc))) x1)
  have c0 : w1.cell? ⟨w.heap.size, 0, none⟩ = some (.int .i64 kind) := (B1.out.ext x1).cell 0
  clear x1
  go_wp2_with (fail)
  go_ret2
  exact ⟨rfl, X1.out⟩
theorem deptht_any {base g : Nat} {rows : List (List Int)} {mi : Bool} (w : World) (H : KernT w base g rows mi) (hn : 1 ≤ rows.length) (hl : rows.length ≤ 24) : Calls Try.prog 222 #[.pointer (some ⟨g, 0, none⟩)] w fun e w' => e = .returned (.int .i64 (rows.length - 1)) ∧ Ext w w' := by
  obtain ⟨C, c, us, h1, -, -, -⟩ := H
  have c0 : w.cell? ⟨g, 0, none⟩ = some (.slice C rows.length c) := h1.cell 0
  have hw : IntKind.i64.wrap ((rows.length : Int) - 1) = (rows.length : Int) - 1 := IntWalk.i64_in _ (by omega)
  go_enter Try.func222, Try.ntmps222
  go_wp2
  go_ret
  exact ⟨rfl, Ext.rf _⟩
theorem deptht_nil (w : World) : Calls Try.prog 222 #[.pointer none] w fun e w' => e = .returned (.int .i64 0) ∧ Ext w w' := by
  go_enter Try.func222, Try.ntmps222
  go_wp2
  go_ret
  exact ⟨rfl, Ext.rf _⟩
end Go.Proofs.Ytleckhbmciiooaa
