/-
  A tour's kernel: Mirror, New, Depth.
  A tour's kernel: where a beginning has come to.
-/
import Derived.Test.YtpngflmngnjjoaaDoorTourM
import Derived.Test.YtpngflmngnjjoaaDoorSetW
import Derived.Test.YtpngflmngnjjoaaDoorICopy
namespace Go.Proofs.YtpngflmngnjjoaaDoor
open Go.RowKit Go.ChangeShapes Go.WideShapes Go.ChangeAt Go.Deep

/-- does each way cost what the way back does? -/
def mirP (rows : List (List Int)) : Bool := decide (∀ x, x < rows.length → ∀ y, y < x → costAt rows x y = costAt rows y x)
theorem mirP_true {rows : List (List Int)} (h : ∀ x, x < rows.length → ∀ y, y < x → costAt rows x y = costAt rows y x) : mirP rows = true := decide_eq_true h
theorem mirP_false {rows : List (List Int)} {x y : Nat} (hx : x < rows.length) (hy : y < x) (h : costAt rows x y ≠ costAt rows y x) : mirP rows = false := decide_eq_false fun k => h (k x hx y hy)
theorem mirP_sym {rows : List (List Int)} (h : mirP rows = true) (a b : Nat) (ha : a < rows.length) (hb : b < rows.length) : costAt rows a b = costAt rows b a := by
  have k := of_decide_eq_true h
  rcases Nat.lt_trichotomy a b with hc | hc | hc
  · exact (k b hb a hc).symm
  · subst hc; rfl
  · exact k a ha b hc
set_option maxRecDepth 100000 in
set_option maxHeartbeats 4000000 in
theorem mirror_any (i : InstP) (us : List Value) (w : World) (H : RInst w us i) (hc : checkP i = 0) (hk : i.kind = 3) :
    Calls Tryd.prog 60 #[.agg (List.toArray us)] w fun e w' => e = .returned (.bool (mirP i.cost)) ∧ Ext w w' := by
  have ok := square_ok hc (by omega)
  have lw : i.weight.length ≤ 1000000000 := by rw [ok.w]; simp
  have lv : i.value.length ≤ 1000000000 := by rw [ok.v]; simp
  have CH := fun (W : World) (x : Ext w W) => check_any i us W (H.ext x) lw lv
  rw [hc] at CH
  have rok := rows_ok ok
  have n24 := rok.n2
  clear ok lw lv hc
  obtain ⟨kind, nn, cap, xw, xv, co⟩ := i
  obtain ⟨A, a, B, b, D, d, rfl, -, -, ⟨hC, -, -⟩⟩ := H
  simp only at *
  subst hk
  have B1 : Hid (Blk (w.alloc (.cells #[.int .i64 3, .int .i64 nn, .int .i64 cap, .slice A xw.length a, .slice B xv.length b, .slice D co.length d] 25)) w.heap.size 25 #[.int .i64 3, .int .i64 nn, .int .i64 cap, .slice A xw.length a, .slice B xv.length b, .slice D co.length d]) := .new rfl
  replace CH := Lib.hid CH
  replace hC := Lib.hid hC
  replace rok := Lib.hid rok
  obtain ⟨mm, hmm⟩ : ∃ mm, Hid (mirP co = mm) := ⟨_, rfl⟩
  rw [hmm.out]
  go_enter Tryd.func60, Tryd.ntmps60
  go_wp2_with (fail)
  refine (CH.out _ (by (repeat (first | assumption | exact Ext.rf _ | apply Ext.drew | apply Ext.drewN | apply Ext.alloc)))).mono ?_
  rintro e w1 ⟨rfl, x1⟩
  have X1 := Lib.hid (Ext.tr (a := w) (by (repeat (first | assumption | exact Ext.rf _ | apply Ext.drew | apply Ext.drewN | apply Ext.alloc))) x1)
  have BB := Lib.hid (B1.out.ext x1)
  have d5 : w1.cell? ⟨w.heap.size, 5, none⟩ = some (.slice D co.length d) := BB.out.cell 5
  clear x1
  go_wp2_with (fail)
  go_loopw [17] (fun v wr => ∃ k : Nat, v = .int .i64 k ∧ k ≤ co.length ∧ Hid (∀ x, x < k → ∀ y, y < x → costAt co x y = costAt co y x) ∧ Hid (Ext w1 wr)) (fun v _ => co.length - (intOf v).toNat)
  case atStart => exact ⟨0, rfl, by omega, fun x hx => absurd hx (Nat.not_lt_zero _), Ext.rf _⟩
  case round =>
    obtain ⟨wo, rfl⟩ : ∃ wo : World, wo = wr := ⟨_, rfl⟩
    obtain ⟨k, rfl, hk, HS, Y⟩ := hrel
    by_cases hlt : k < co.length
    · have XW : Hid (Ext w wo) := X1.out.tr Y.out
      obtain ⟨cb, cof, D', row, d', rfl, zb, cD, er, _, rD, iD, ld, md⟩ := (hC.out.ext XW.out fun _ _ h => h.ext XW.out).ints hlt
      have lrow := rok.out.row row (List.mem_of_getElem? er.out)
      have q1 : (k : Int) < (co.length : Int) := by omega
      replace er := Lib.hid er.out
      replace rD := Lib.hid rD
      go_wp2_with (fail)
      go_loopw [23] (fun v wr => ∃ j : Nat, v = .int .i64 j ∧ j ≤ k ∧ Hid (∀ y, y < j → costAt co k y = costAt co y k) ∧ Hid (Ext wo wr)) (fun v _ => k - (intOf v).toNat)
      case atStart => exact ⟨0, rfl, by omega, fun y hy => absurd hy (Nat.not_lt_zero _), Ext.rf _⟩
      case round =>
        obtain ⟨wi, rfl⟩ : ∃ wi : World, wi = wr := ⟨_, rfl⟩
        obtain ⟨j, rfl, hj, HJ, Z⟩ := hrel
        have XZ := Lib.hid (Ext.tr (a := w) (XW.out) Z.out)
        by_cases hlj : j < k
        · obtain ⟨cb', cof', D2, row2, d2, hq, zb2, cD2, er2, _, rD2, iD2, ld2, md2⟩ := (hC.out.ext XZ.out fun _ _ h => h.ext XZ.out).ints (r := j) (by omega)
          obtain ⟨rfl, rfl⟩ : cb = cb' ∧ cof = cof' := by simpa using hq
          have lrow2 := rok.out.row row2 (List.mem_of_getElem? er2.out)
          obtain ⟨rb, ro, x, rfl, zx, cx, ex, _⟩ := (rD.out.ext Z.out).at (k := j) (by omega)
          obtain ⟨rb2, ro2, y, rfl, zy, cy, ey, _⟩ := rD2.at (k := k) (by omega)
          have d5' : wi.cell? ⟨w.heap.size, 5, none⟩ = some (.slice (some ⟨cb, cof, none⟩) co.length d) := ((BB.out.ext Y.out).ext Z.out).cell 5
          have exy : Hid (costAt co k j = x ∧ costAt co j k = y) := by
            refine ⟨?_, ?_⟩
            · unfold costAt; rw [getD_some er.out, getD_some ex.out]
            · unfold costAt; rw [getD_some er2.out, getD_some ey.out]
          have q2 : (j : Int) < (co.length : Int) := by omega
          have q3 : (j : Int) < (row.length : Int) := by omega
          have q4 : (k : Int) < (row2.length : Int) := by omega
          replace ex := Lib.hid ex.out
          replace ey := Lib.hid ey.out
          replace er2 := Lib.hid er2.out
          replace rD2 := Lib.hid rD2
          clear hq
          by_cases hxy : x = y
          · subst hxy
            have t0 : (x != x) = false := by simp
            have NX : Hid (∀ yy, yy < j + 1 → costAt co k yy = costAt co yy k) := fun yy hy => by
              by_cases e : yy = j
              · subst e; rw [exy.out.1, exy.out.2]
              · exact HJ.out yy (by omega)
            go_wp2_with (fail)
            go_quiet (fail)
            go_wp2_with (fail)
            go_roundw
            case rel => exact ⟨j + 1, by go_num, by omega, NX, Z.out.drewN _⟩
            case measure => simp [intOf]; omega
          · have t0 : (x != y) = true := by simpa using hxy
            have HM : Hid (mm = false) := by
              have h : mm = false := by
                rw [← hmm.out]
                exact mirP_false hlt hlj (by rw [exy.out.1, exy.out.2]; exact hxy)
              exact h
            go_wp2_with (fail)
            go_quiet (fail)
            go_wp2_with (fail)
            go_ret
            rw [HM.out]
            exact ⟨rfl, XZ.out.drewN _⟩
        · obtain rfl : j = k := by omega
          have q2 : ¬ (j : Int) < (j : Int) := by omega
          have HS3 : Hid (∀ x, x < j + 1 → ∀ y, y < x → costAt co x y = costAt co y x) := fun x hx => by
            by_cases e : x = j
            · subst e; exact HJ.out
            · exact HS.out x (by omega)
          have YZ := Lib.hid (Y.out.tr Z.out)
          go_wp2_with (fail)
          go_roundw
          case rel => exact ⟨j + 1, by go_num, by omega, HS3, YZ.out⟩
          case measure => simp [intOf]; omega
    · obtain rfl : k = co.length := by omega
      have HM : Hid (mm = true) := by
        have h : mm = true := by
          rw [← hmm.out]
          exact mirP_true HS.out
        exact h
      have q2 : ¬ (co.length : Int) < (co.length : Int) := by omega
      have XW := Lib.hid (X1.out.tr Y.out)
      go_wp2_with (fail)
      go_ret
      rw [HM.out]
      exact ⟨rfl, XW.out⟩
/-- the kernel at g: the rows, of its own -/
def KernT (w : World) (base g : Nat) (rows : List (List Int)) (mi : Bool) : Prop := ∃ C c us, Blk w g 68 #[.slice C rows.length c, .bool mi] ∧ base ≤ g ∧ OwV w base 22 1 C rows.length c us ∧ RowsO w base us rows
theorem KernT.ext {w w' : World} {base g : Nat} {rows : List (List Int)} {mi : Bool} (h : KernT w base g rows mi) (x : Ext w w') : KernT w' base g rows mi := by
  obtain ⟨C, c, us, h1, h2, h3, h4⟩ := h
  exact ⟨C, c, us, h1.ext x, h2, h3.ext x, h4.ext x⟩
def NewTPost (i : InstP) (w : World) (e : Ending) (w' : World) : Prop := ∃ g, e = .returned (.tuple #[.pointer (some ⟨g, 0, none⟩), .int .i64 0]) ∧ KernT w' w.heap.size g i.cost (mirP i.cost) ∧ Ext w w'
set_option maxRecDepth 100000 in
set_option maxHeartbeats 1000000 in
theorem newt_yes (i : InstP) (vs : List Value) (w : World) (H : RInst w vs i) (hc : checkP i = 0) (hk : i.kind = 3) :
    Calls Tryd.prog 33 #[.agg (List.toArray vs)] w (NewTPost i w) := by
  have ok := square_ok hc (by omega)
  have lw : i.weight.length ≤ 1000000000 := by rw [ok.w]; simp
  have lv : i.value.length ≤ 1000000000 := by rw [ok.v]; simp
  have CH := fun (W : World) (x : Ext w W) => check_any i vs W (H.ext x) lw lv
  rw [hc] at CH
  have CP := fun (W : World) (x : Ext w W) => icopy_any i vs W (H.ext x) lw lv (by have := ok.len; have := ok.n2; omega) (fun r hr => by have := ok.row r hr; have := ok.n2; omega)
  have MI := fun (W : World) (x : Ext w W) => mirror_any i vs W (H.ext x) hc hk
  clear ok lw lv hc
  obtain ⟨mm, hmm⟩ : ∃ mm, Hid (mirP i.cost = mm) := ⟨_, rfl⟩
  unfold NewTPost
  rw [hmm.out] at MI ⊢
  obtain ⟨kind, nn, cap, xw, xv, co⟩ := i
  obtain ⟨A, a, B, b, C, c, rfl, -, -, -⟩ := H
  simp only at *
  subst hk
  have B1 : Hid (Blk (w.alloc (.cells #[.int .i64 3, .int .i64 nn, .int .i64 cap, .slice A xw.length a, .slice B xv.length b, .slice C co.length c] 25)) w.heap.size 25 #[.int .i64 3, .int .i64 nn, .int .i64 cap, .slice A xw.length a, .slice B xv.length b, .slice C co.length c]) := .new rfl
  replace CH := Lib.hid CH
  replace CP := Lib.hid CP
  replace MI := Lib.hid MI
  go_enter Tryd.func33, Tryd.ntmps33
  go_wp2_with (fail)
  refine (CH.out _ (by (repeat (first | assumption | exact Ext.rf _ | apply Ext.drew | apply Ext.drewN | apply Ext.alloc)))).mono ?_
  rintro e w1 ⟨rfl, x1⟩
  have X1 := Lib.hid (Ext.tr (a := w) (by (repeat (first | assumption | exact Ext.rf _ | apply Ext.drew | apply Ext.drewN | apply Ext.alloc))) x1)
  have BB := Lib.hid (B1.out.ext x1)
  clear x1
  have c0 : w1.cell? ⟨w.heap.size, 0, none⟩ = some (.int .i64 3) := BB.out.cell 0
  have c1 : w1.cell? ⟨w.heap.size, 1, none⟩ = some (.int .i64 nn) := BB.out.cell 1
  have c2 : w1.cell? ⟨w.heap.size, 2, none⟩ = some (.int .i64 cap) := BB.out.cell 2
  have c3 : w1.cell? ⟨w.heap.size, 3, none⟩ = some (.slice A xw.length a) := BB.out.cell 3
  have c4 : w1.cell? ⟨w.heap.size, 4, none⟩ = some (.slice B xv.length b) := BB.out.cell 4
  have c5 : w1.cell? ⟨w.heap.size, 5, none⟩ = some (.slice C co.length c) := BB.out.cell 5
  have zb := BB.out.lt
  have fld : ∀ W (A3 : Option Addr) (c3 : Nat) (B3 : Option Addr) (d3 : Nat) (C2 : Option Addr) (e2 : Nat), (Instr.field 25 (.agg #[.int .i64 3, .int .i64 nn, .int .i64 cap, .slice A3 xw.length c3, .slice B3 xv.length d3, .slice C2 co.length e2]) 5).run Tryd.prog W = .ok (.slice C2 co.length e2) W := fun _ _ _ _ _ _ _ => by kernel_rfl
  go_wp2_with (fail)
  go_region_held3 (fun w' => w'.cell? ⟨w.heap.size, 0, none⟩ = some (.int .i64 3) ∧ w'.cell? ⟨w.heap.size, 1, none⟩ = some (.int .i64 nn) ∧ w'.cell? ⟨w.heap.size, 2, none⟩ = some (.int .i64 cap) ∧ w'.cell? ⟨w.heap.size, 3, none⟩ = some (.slice A xw.length a) ∧ w'.cell? ⟨w.heap.size, 4, none⟩ = some (.slice B xv.length b) ∧ w'.cell? ⟨w.heap.size, 5, none⟩ = some (.slice C co.length c)) (go_keep)
    (first
      | (go_at_call 48; refine (CP.out _ (X1.out.tr (by (repeat (first | assumption | exact Ext.rf _ | apply Ext.drew | apply Ext.drewN | apply Ext.alloc))))).mono ?_; rintro e w2 ⟨A3, c3', B3, d3, C2, e2, us, rfl, oV, oR, x2⟩; have y2 := Ext.tr (a := w1) (by (repeat (first | assumption | exact Ext.rf _ | apply Ext.drew | apply Ext.drewN | apply Ext.alloc))) x2; have z2 := y2.size; have oV2 := Lib.hid oV; have oR2 := Lib.hid oR; clear oV oR; have s0 := keepEL y2 zb c0; have s1 := keepEL y2 zb c1; have s2 := keepEL y2 zb c2; have s3 := keepEL y2 zb c3; have s4 := keepEL y2 zb c4; have s5 := keepEL y2 zb c5)
      | (go_at_call 60; refine (MI.out _ (X1.out.tr (by (repeat (first | assumption | exact Ext.rf _ | apply Ext.drew | apply Ext.drewN | apply Ext.alloc))))).mono ?_; rintro e w3 ⟨rfl, x3⟩; have y3 := Ext.tr (a := w1) (by (repeat (first | assumption | exact Ext.rf _ | apply Ext.drew | apply Ext.drewN | apply Ext.alloc))) x3; have s0 := keepEL y3 zb c0; have s1 := keepEL y3 zb c1; have s2 := keepEL y3 zb c2; have s3 := keepEL y3 zb c3; have s4 := keepEL y3 zb c4; have s5 := keepEL y3 zb c5))
  all_goals go_wp2
  all_goals go_ret2
  all_goals refine ⟨_, rfl, ⟨_, _, us, .new rfl, ?_, ?_, ?_⟩, ?_⟩
  · exact (X1.out.tr y3).size
  · exact OwV.ext (n := co.length) (OwV.more (n := co.length) oV2.out X1.out.size) (x3.alloc _)
  · exact (oR2.out.more X1.out.size).ext (x3.alloc _)
  · exact (X1.out.tr y3).alloc _
set_option maxRecDepth 100000 in
theorem newt_bad (i : InstP) (vs : List Value) (w : World) (H : RInst w vs i) (lw : i.weight.length ≤ 1000000000) (lv : i.value.length ≤ 1000000000) (hc : checkP i ≠ 0) :
    Calls Tryd.prog 33 #[.agg (List.toArray vs)] w fun e w' => e = .returned (.tuple #[.pointer none, .int .i64 (checkP i)]) ∧ Ext w w' := by
  have CH := fun (W : World) (x : Ext w W) => check_any i vs W (H.ext x) lw lv
  have hb : (checkP i != 0) = true := by simpa using hc
  generalize checkP i = r at *
  obtain ⟨A, a, B, b, C, c, rfl, -, -, -⟩ := H
  replace CH := Lib.hid CH
  clear hc
  go_enter Tryd.func33, Tryd.ntmps33
  go_wp2_with (fail)
  refine (CH.out _ (by (repeat (first | assumption | exact Ext.rf _ | apply Ext.drew | apply Ext.drewN | apply Ext.alloc)))).mono ?_
  rintro e w1 ⟨rfl, x1⟩
  have X1 := Lib.hid (Ext.tr (a := w) (by (repeat (first | assumption | exact Ext.rf _ | apply Ext.drew | apply Ext.drewN | apply Ext.alloc))) x1)
  clear x1
  go_wp2_with (fail)
  go_ret2
  exact ⟨rfl, X1.out⟩
set_option maxRecDepth 100000 in
theorem newt_kind (i : InstP) (vs : List Value) (w : World) (H : RInst w vs i) (lw : i.weight.length ≤ 1000000000) (lv : i.value.length ≤ 1000000000) (hc : checkP i = 0) (hk : i.kind ≠ 3) :
    Calls Tryd.prog 33 #[.agg (List.toArray vs)] w fun e w' => e = .returned (.tuple #[.pointer none, .int .i64 14]) ∧ Ext w w' := by
  have CH := fun (W : World) (x : Ext w W) => check_any i vs W (H.ext x) lw lv
  rw [hc] at CH
  have hb : (i.kind != 3) = true := by simpa using hk
  clear hc hk
  obtain ⟨kind, nn, cap, xw, xv, co⟩ := i
  obtain ⟨A, a, B, b, C, c, rfl, -, -, -⟩ := H
  simp only at *
  replace CH := Lib.hid CH
  have B1 : Hid (Blk (w.alloc (.cells #[.int .i64 kind, .int .i64 nn, .int .i64 cap, .slice A xw.length a, .slice B xv.length b, .slice C co.length c] 25)) w.heap.size 25 #[.int .i64 kind, .int .i64 nn, .int .i64 cap, .slice A xw.length a, .slice B xv.length b, .slice C co.length c]) := .new rfl
  go_enter Tryd.func33, Tryd.ntmps33
  go_wp2_with (fail)
  refine (CH.out _ (by (repeat (first | assumption | exact Ext.rf _ | apply Ext.drew | apply Ext.drewN | apply Ext.alloc)))).mono ?_
  rintro e w1 ⟨rfl, x1⟩
  have X1 := Lib.hid (Ext.tr (a := w) (by (repeat (first | assumption | exact Ext.rf _ | apply Ext.drew | apply Ext.drewN | apply Ext.alloc))) x1)
  have c0 : w1.cell? ⟨w.heap.size, 0, none⟩ = some (.int .i64 kind) := (B1.out.ext x1).cell 0
  clear x1
  go_wp2_with (fail)
  go_ret2
  exact ⟨rfl, X1.out⟩
theorem deptht_any {base g : Nat} {rows : List (List Int)} {mi : Bool} (w : World) (H : KernT w base g rows mi) (hn : 1 ≤ rows.length) (hl : rows.length ≤ 24) : Calls Tryd.prog 40 #[.pointer (some ⟨g, 0, none⟩)] w fun e w' => e = .returned (.int .i64 (rows.length - 1)) ∧ Ext w w' := by
  obtain ⟨C, c, us, h1, -, -, -⟩ := H
  have c0 : w.cell? ⟨g, 0, none⟩ = some (.slice C rows.length c) := h1.cell 0
  have hw : IntKind.i64.wrap ((rows.length : Int) - 1) = (rows.length : Int) - 1 := IntWalk.i64_in _ (by omega)
  go_enter Tryd.func40, Tryd.ntmps40
  go_wp2
  go_ret
  exact ⟨rfl, Ext.rf _⟩
theorem deptht_nil (w : World) : Calls Tryd.prog 40 #[.pointer none] w fun e w' => e = .returned (.int .i64 0) ∧ Ext w w' := by
  go_enter Tryd.func40, Tryd.ntmps40
  go_wp2
  go_ret
  exact ⟨rfl, Ext.rf _⟩
end Go.Proofs.YtpngflmngnjjoaaDoor
namespace Go.Proofs.YtpngflmngnjjoaaDoor
open Go.RowKit Go.ChangeShapes Go.WideShapes Go.ChangeAt Go.Deep

abbrev wayT (m last : Nat) (cost : Int) : Value := .agg #[.int .u64 m, .int .u64 0, .int .i64 last, .int .i64 cost]
def wayV : Option (Nat × Nat × Int) → Value
  | none => .tuple #[wayT 0 0 0, .bool false]
  | some (m, last, cost) => .tuple #[wayT m last cost, .bool true]
theorem walkT_cons (rows : List (List Int)) (m last : Nat) (cost c : Int) (p : List Int) : walkT rows m last cost (c :: p) = if 0 ≤ c ∧ c < 64 ∧ m.testBit c.toNat = true then walkT rows (clrM m c.toNat) c.toNat (cost + costAt rows last c.toNat) p else none := rfl
set_option maxRecDepth 100000 in
set_option maxHeartbeats 4000000 in
theorem walkt_any {base g : Nat} {rows : List (List Int)} {mi : Bool} (P : Option Addr) (pc : Nat) (p : List Int) (w : World) (H : KernT w base g rows mi) (ok : RowsOk rows) (hP : RdI w P p) (lp : p.length ≤ 1000000000) :
    Calls Tryd.prog 61 #[.pointer (some ⟨g, 0, none⟩), .slice P p.length pc] w fun e w' => e = .returned (wayV (walkP rows p)) ∧ Ext w w' := by
  have h1 := ok.n1
  have h24 := ok.n2
  have DE := Lib.hid (fun (W : World) (x : Ext w W) => deptht_any W (H.ext x) h1 h24)
  have FU := Lib.hid (fun (W : World) => full_any rows.length (by omega) W)
  have UF := restM_sub h24
  have WO0 := fun (W : World) => without_any (2 ^ rows.length - 1) 0 (subN_full h24).1 (by omega) W
  obtain ⟨r, hr⟩ : ∃ r, Hid (walkP rows p = r) := ⟨_, rfl⟩
  rw [hr.out]
  obtain ⟨C, cc, us, hB, _, hV, hR⟩ := H
  have lus : Hid (us.length = rows.length) := hR.1
  replace hV := Lib.hid hV
  replace hR := Lib.hid hR
  replace hB := Lib.hid hB
  unfold walkP at hr
  replace hP := Lib.hid hP
  have B1 : Hid (Blk (w.alloc (.cells #[.int .u64 0, .int .u64 0, .int .i64 0, .int .i64 0] 70)) w.heap.size 70 #[.int .u64 0, .int .u64 0, .int .i64 0, .int .i64 0]) := .new rfl
  by_cases hlen : rows.length - 1 < p.length
  · have hr2 : Hid (r = none) := by
      have h := hr.out
      rw [if_pos hlen] at h
      exact h.symm
    have hlb : decide ((rows.length : Int) - 1 < (p.length : Int)) = true := decide_eq_true (by omega)
    rw [hr2.out]
    unfold wayV
    clear hr hr2 FU WO0 UF
    go_enter Tryd.func61, Tryd.ntmps61
    go_wp2_with (fail)
    refine (DE.out _ (by (repeat (first | assumption | exact Ext.rf _ | apply Ext.drew | apply Ext.drewN | apply Ext.alloc)))).mono ?_
    rintro e w1 ⟨rfl, x1⟩
    have X1 := Lib.hid (Ext.tr (a := w) (by (repeat (first | assumption | exact Ext.rf _ | apply Ext.drew | apply Ext.drewN | apply Ext.alloc))) x1)
    have b1 := B1.out.ext x1
    have c0 : w1.cell? ⟨w.heap.size, 0, none⟩ = some (.int .u64 0) := b1.cell 0
    have c1 : w1.cell? ⟨w.heap.size, 1, none⟩ = some (.int .u64 0) := b1.cell 1
    have c2 : w1.cell? ⟨w.heap.size, 2, none⟩ = some (.int .i64 0) := b1.cell 2
    have c3 : w1.cell? ⟨w.heap.size, 3, none⟩ = some (.int .i64 0) := b1.cell 3
    have f0 := b1.free 0
    have f1 := b1.free 1
    have f2 := b1.free 2
    have f3 := b1.free 3
    clear x1 b1
    go_wp2_with (fail)
    refine bodyPost_ret (v := .tuple #[wayT 0 0 0, .bool false]) (by simp [results, Tryd.results61, go_sem, *]) rfl ⟨rfl, ?_⟩
    exact (((X1.out.setNew (p := ⟨w.heap.size, 0, none⟩) (Nat.le_refl _) _).setNew (p := ⟨w.heap.size, 1, none⟩) (Nat.le_refl _) _).setNew (p := ⟨w.heap.size, 2, none⟩) (Nat.le_refl _) _).setNew (p := ⟨w.heap.size, 3, none⟩) (Nat.le_refl _) _
  · have hr2 : Hid (walkT rows (restM rows.length) 0 0 p = r) := by
      have h := hr.out
      rw [if_neg hlen] at h
      exact h
    have hlb : decide ((rows.length : Int) - 1 < (p.length : Int)) = false := decide_eq_false (by omega)
    have hpl : p.length ≤ 24 := by omega
    replace WO0 := fun (W : World) => (show Calls Tryd.prog 74 #[setV (2 ^ rows.length - 1), .int .i64 ((0 : Nat) : Int)] W fun e w' => e = .returned (setV (restM rows.length)) ∧ Ext W w' from WO0 W)
    generalize restM rows.length = m0 at *
    generalize 2 ^ rows.length - 1 = mf at *
    unfold setV at FU WO0
    replace WO0 := Lib.hid WO0
    clear hr
    go_enter Tryd.func61, Tryd.ntmps61
    go_wp2_with (fail)
    refine (DE.out _ (by (repeat (first | assumption | exact Ext.rf _ | apply Ext.drew | apply Ext.drewN | apply Ext.alloc)))).mono ?_
    rintro e w1 ⟨rfl, x1⟩
    have X1 := Lib.hid (Ext.tr (a := w) (by (repeat (first | assumption | exact Ext.rf _ | apply Ext.drew | apply Ext.drewN | apply Ext.alloc))) x1)
    have b1 := Lib.hid (B1.out.ext x1)
    have cK : w1.cell? ⟨g, 0, none⟩ = some (.slice C rows.length cc) := (hB.out.ext X1.out).cell 0
    clear x1
    go_wp2_with (fail)
    refine (FU.out _).mono ?_
    rintro e w2 ⟨rfl, x2⟩
    have X2 := Lib.hid (X1.out.tr x2)
    have b2 := Lib.hid (b1.out.ext x2)
    clear x2 b1 cK
    go_wp2_with (fail)
    refine (WO0.out _).mono ?_
    rintro e w3 ⟨rfl, x3⟩
    have z12 := x3.size
    have zw1 := b2.out.lt
    have X3 : Ext w (w3.alloc (.cells #[.int .u64 m0, .int .u64 0, .int .i64 0, .int .i64 0] 70)) := (X2.out.tr x3).alloc _
    have b3 : Blk (w3.alloc (.cells #[.int .u64 m0, .int .u64 0, .int .i64 0, .int .i64 0] 70)) w.heap.size 70 #[.int .u64 0, .int .u64 0, .int .i64 0, .int .i64 0] := (b2.out.ext x3).alloc _
    have s3 : Blk (w3.alloc (.cells #[.int .u64 m0, .int .u64 0, .int .i64 0, .int .i64 0] 70)) w3.heap.size 70 #[.int .u64 m0, .int .u64 0, .int .i64 0, .int .i64 0] := .new rfl
    have START := Lib.hid (And.intro X3 (And.intro b3 s3))
    obtain ⟨sb, hsb⟩ : ∃ sb, Hid (sb = w3.heap.size) := ⟨_, rfl⟩
    have zsb : w.heap.size < sb := by rw [hsb.out]; omega
    clear X3 b3 s3 x3 b2 FU WO0
    go_wp2_with (fail)
    rw [← hsb.out] at START ⊢
    go_loopw [29] (fun v wr => ∃ (k m last : Nat) (cost : Int), v = .int .i64 k ∧ k ≤ p.length ∧ Hid (walkT rows m last cost (p.drop k) = r) ∧ Hid (SubN rows.length m) ∧ Hid (last < rows.length ∧ 0 ≤ cost ∧ cost ≤ 2147483647 * (k : Int)) ∧ Hid (Ext w wr ∧ Blk wr w.heap.size 70 #[.int .u64 0, .int .u64 0, .int .i64 0, .int .i64 0] ∧ Blk wr sb 70 #[.int .u64 m, .int .u64 0, .int .i64 last, .int .i64 cost])) (fun v _ => p.length - (intOf v).toNat)
    case atStart => exact ⟨0, m0, 0, 0, rfl, by omega, hr2, UF, by exact (show 0 < rows.length ∧ (0 : Int) ≤ 0 ∧ (0 : Int) ≤ 2147483647 * ((0 : Nat) : Int) from ⟨by omega, by omega, by omega⟩), START⟩
    case round =>
      obtain ⟨wo, rfl⟩ : ∃ wo : World, wo = wr := ⟨_, rfl⟩
      clear START
      obtain ⟨k, m, last, cost, rfl, hk, HF, HU, HL, HH⟩ := hrel
      obtain ⟨Y, b1, bs⟩ := HH.out
      have c0 : wo.cell? ⟨sb, 0, none⟩ = some (.int .u64 m) := bs.cell 0
      have c1 : wo.cell? ⟨sb, 1, none⟩ = some (.int .u64 0) := bs.cell 1
      have c2 : wo.cell? ⟨sb, 2, none⟩ = some (.int .i64 last) := bs.cell 2
      have c3 : wo.cell? ⟨sb, 3, none⟩ = some (.int .i64 cost) := bs.cell 3
      replace Y := Lib.hid Y
      replace b1 := Lib.hid b1
      replace bs := Lib.hid bs
      clear HH
      by_cases hlt : k < p.length
      · obtain ⟨pb, po, c, rfl, zp, cp, ep, dp⟩ := (hP.out.ext Y.out).at hlt
        have HF2 : Hid (r = if 0 ≤ c ∧ c < 64 ∧ m.testBit c.toNat = true then walkT rows (clrM m c.toNat) c.toNat (cost + costAt rows last c.toNat) (p.drop (k + 1)) else none) := by
          have h := HF.out
          rw [dp.out, walkT_cons] at h
          exact h.symm
        have HA := Lib.hid (fun (W : World) => has_any m c HU.out.1 W)
        unfold setV at HA
        clear HF ep dp
        go_wp2_with (fail)
        refine (HA.out _).mono ?_
        rintro e w3 ⟨rfl, x3⟩
        have Y3 := Lib.hid (Y.out.tr x3)
        have b13 := Lib.hid (b1.out.ext x3)
        have bs3 := Lib.hid (bs.out.ext x3)
        clear x3 c0 c1 c2 c3 cp
        by_cases hin : 0 ≤ c ∧ c < 64 ∧ m.testBit c.toNat = true
        · have e1 : (decide (0 ≤ c ∧ c < 64) && m.testBit c.toNat) = true := by rw [decide_eq_true ⟨hin.1, hin.2.1⟩, hin.2.2]; rfl
          rw [e1]
          have HF3 : Hid (walkT rows (clrM m c.toNat) c.toNat (cost + costAt rows last c.toNat) (p.drop (k + 1)) = r) := by
            have h := HF2.out
            rw [if_pos hin] at h
            exact h.symm
          obtain ⟨i, rfl⟩ : ∃ i : Nat, c = (i : Int) := ⟨c.toNat, by omega⟩
          rw [Int.toNat_natCast] at HF3 hin
          have hic : i < rows.length := HU.out.2 i (memsM_mem.2 ⟨by omega, hin.2.2⟩)
          have WO := Lib.hid (fun (W : World) => without_any m i HU.out.1 (by omega) W)
          have HU2 := Lib.hid (HU.out.clr i)
          generalize clrM m i = m2 at *
          unfold setV at WO
          have hla := HL.out.1
          have er : rows[last]? = some rows[last] := List.getElem?_eq_getElem hla
          obtain ⟨D, d, hu, oD⟩ := hR.out.2 _ _ er
          have hmem : rows[last] ∈ rows := List.getElem_mem hla
          have lrow := ok.row _ hmem
          have nrow := ok.num _ hmem
          have ecost : costAt rows last i = (rows[last]).getD i 0 := by unfold costAt; rw [getD_some er]
          generalize rows[last] = row at *
          obtain ⟨ab, ao, vv, hC, zv, cv, ev⟩ := (hV.out.read.ext Y3.out).at (j := last) (by rw [lus.out]; exact hla)
          subst hC
          obtain rfl : .slice D row.length d = vv := by
            have h := ev.out
            rw [hu] at h
            exact Option.some.inj h
          obtain ⟨rb, ro, x, rfl, zx, cx, ex, _⟩ := (oD.read.ext Y3.out).at (k := i) (by omega)
          rw [getD_some ex.out] at ecost
          rw [ecost] at HF3
          have nx := nrow x (List.mem_of_getElem? ex.out)
          have HL2 : Hid (i < rows.length ∧ 0 ≤ cost + x ∧ cost + x ≤ 2147483647 * ((k + 1 : Nat) : Int)) := by
            have h := HL.out
            have : i < rows.length ∧ 0 ≤ cost + x ∧ cost + x ≤ 2147483647 * ((k + 1 : Nat) : Int) := ⟨hic, by omega, by omega⟩
            exact this
          have hw : IntKind.i64.wrap (cost + x) = cost + x := IntWalk.i64_in _ (by have := HL2.out; omega)
          have cK : w3.cell? ⟨g, 0, none⟩ = some (.slice (some ⟨ab, ao, none⟩) rows.length cc) := (hB.out.ext Y3.out).cell 0
          have c2 : w3.cell? ⟨sb, 2, none⟩ = some (.int .i64 last) := bs3.out.cell 2
          have c3 : w3.cell? ⟨sb, 3, none⟩ = some (.int .i64 cost) := bs3.out.cell 3
          have f3 : w3.frozen? ⟨sb, 3, none⟩ = false := bs3.out.free 3
          have q1 : (last : Int) < (rows.length : Int) := by omega
          have q2 : (i : Int) < (row.length : Int) := by omega
          have NB : Hid (Blk (w3.setCell ⟨sb, 3, none⟩ (.int .i64 (cost + x))) sb 70 #[.int .u64 m, .int .u64 0, .int .i64 last, .int .i64 (cost + x)]) := bs3.out.set 3 (.int .i64 (cost + x))
          have NY : Hid (Ext w (w3.setCell ⟨sb, 3, none⟩ (.int .i64 (cost + x)))) := Y3.out.setNew (p := ⟨sb, 3, none⟩) (Nat.le_of_lt zsb) _
          have NZ : Hid (Blk (w3.setCell ⟨sb, 3, none⟩ (.int .i64 (cost + x))) w.heap.size 70 #[.int .u64 0, .int .u64 0, .int .i64 0, .int .i64 0]) := b13.out.far (p := ⟨sb, 3, none⟩) (Nat.ne_of_lt zsb) _
          clear hin e1 HF2 HA er hu oD hmem lrow nrow ecost ev ex nx hla
          go_upto_region 9 with (fail)
          refine wp_region_any (by kernel_rfl) ?_
          change wpAny _ _ _ _ _ _ _ (World.drew _)
          refine wpAny_T (i := 0) (op := Op.fieldAddr 70 (Operand.tmp 6) 2) (t := 0) (d := some 39) (v := ?_) rfl (by decide +kernel) (by decide +kernel) (by decide +kernel) (fun _ _ _ h => h) ?_ ?_
          case refine_2 => (intro _; unfold exec2; go_simp; try with_reducible rfl)
          try simp only [Act.put, List.setIfInBounds_toArray, List.set_cons_zero, List.set_cons_succ]
          refine wpAny_T (i := 2) (op := Op.move (Operand.tmp 0)) (t := 47) (d := some 41) (v := ?_) rfl (by decide +kernel) (by decide +kernel) (by decide +kernel) (fun _ _ _ h => h) ?_ ?_
          case refine_2 => (intro _; unfold exec2; go_simp; try with_reducible rfl)
          try simp only [Act.put, List.setIfInBounds_toArray, List.set_cons_zero, List.set_cons_succ]
          refine wpAny_T (i := 3) (op := Op.nilCheck (Operand.tmp 41)) (t := 0) (d := some 42) (v := ?_) rfl (by decide +kernel) (by decide +kernel) (by decide +kernel) (fun _ _ _ h => h) ?_ ?_
          case refine_2 => (intro _; unfold exec2; go_simp; try with_reducible rfl)
          try simp only [Act.put, List.setIfInBounds_toArray, List.set_cons_zero, List.set_cons_succ]
          refine wpAny_T (i := 4) (op := Op.fieldAddr 68 (Operand.tmp 42) 0) (t := 0) (d := some 43) (v := ?_) rfl (by decide +kernel) (by decide +kernel) (by decide +kernel) (fun _ _ _ h => h) ?_ ?_
          case refine_2 => (intro _; unfold exec2; go_simp; try with_reducible rfl)
          try simp only [Act.put, List.setIfInBounds_toArray, List.set_cons_zero, List.set_cons_succ]
          refine wpAny_T (i := 6) (op := Op.fieldAddr 70 (Operand.tmp 6) 1) (t := 0) (d := some 45) (v := ?_) rfl (by decide +kernel) (by decide +kernel) (by decide +kernel) (fun _ _ _ h => h) ?_ ?_
          case refine_2 => (intro _; unfold exec2; go_simp; try with_reducible rfl)
          try simp only [Act.put, List.setIfInBounds_toArray, List.set_cons_zero, List.set_cons_succ]
          refine wpAny_T (i := 10) (op := Op.move (Operand.tmp 8)) (t := 3) (d := some 49) (v := ?_) rfl (by decide +kernel) (by decide +kernel) (by decide +kernel) (fun _ _ _ h => h) ?_ ?_
          case refine_2 => (intro _; unfold exec2; go_simp; try with_reducible rfl)
          try simp only [Act.put, List.setIfInBounds_toArray, List.set_cons_zero, List.set_cons_succ]
          refine wpAny_reads (n := 2) [(1, some 40), (5, some 44), (7, some 46), (8, some 47), (9, some 48), (11, some 50), (12, some 51), (13, some 52)] (fun | 1 => .int .i64 cost | 5 => .slice (some ⟨ab, ao, none⟩) rows.length cc | 7 => .int .i64 last | 8 => .pointer (some ⟨ab, ao + last, none⟩) | 9 => .slice (some ⟨rb, ro, none⟩) row.length d | 11 => .pointer (some ⟨rb, ro + i, none⟩) | 12 => .int .i64 x | 13 => .int .i64 (cost + x) | _ => undef) #[true, true, true, true, true, true, true, true, true, true, true, true, true, true, false, false] (by decide +kernel) ?_ ?_
          · intro pS hpm uS hD K hK
            simp only [List.mem_cons, List.not_mem_nil, or_false] at hpm
            rcases hpm with rfl | rfl | rfl | rfl | rfl | rfl | rfl | rfl
            · exact op_ld (T := 3) (x := Operand.tmp 39) (t := 3) (d := some 40) rfl (.pointer (some ⟨sb, 3, none⟩)) (by kernel_rfl) (.int .i64 cost) (by go_simp) hK
            · exact op_ld (T := 23) (x := Operand.tmp 43) (t := 23) (d := some 44) rfl (.pointer (some ⟨g, 0, none⟩)) (by kernel_rfl) (.slice (some ⟨ab, ao, none⟩) rows.length cc) (by go_simp) hK
            · exact op_ld (T := 3) (x := Operand.tmp 45) (t := 3) (d := some 46) rfl (.pointer (some ⟨sb, 2, none⟩)) (by kernel_rfl) (.int .i64 last) (by go_simp) hK
            · exact op_ix (T := 23) (x := Operand.tmp 44) (y := Operand.tmp 46) (t := 0) (d := some 47) rfl (.slice (some ⟨ab, ao, none⟩) rows.length cc) (.int .i64 last) (Eq.trans (b := uS 5) (by kernel_rfl) (hD 5 (depIn (by kernel_rfl)))) (Eq.trans (b := uS 7) (by kernel_rfl) (hD 7 (depIn (by kernel_rfl)))) (.pointer (some ⟨ab, ao + last, none⟩)) (by go_simp) hK
            · exact op_ld (T := 22) (x := Operand.tmp 47) (t := 22) (d := some 48) rfl (.pointer (some ⟨ab, ao + last, none⟩)) (Eq.trans (b := uS 8) (by kernel_rfl) (hD 8 (depIn (by kernel_rfl)))) (.slice (some ⟨rb, ro, none⟩) row.length d) (by go_simp) hK
            · exact op_ix (T := 22) (x := Operand.tmp 48) (y := Operand.tmp 49) (t := 0) (d := some 50) rfl (.slice (some ⟨rb, ro, none⟩) row.length d) (.int .i64 i) (Eq.trans (b := uS 9) (by kernel_rfl) (hD 9 (depIn (by kernel_rfl)))) (by kernel_rfl) (.pointer (some ⟨rb, ro + i, none⟩)) (by go_simp) hK
            · exact op_ld (T := 3) (x := Operand.tmp 50) (t := 3) (d := some 51) rfl (.pointer (some ⟨rb, ro + i, none⟩)) (Eq.trans (b := uS 11) (by kernel_rfl) (hD 11 (depIn (by kernel_rfl)))) (.int .i64 x) (by go_simp) hK
            · (have e1 : uS 1 = .int .i64 cost := hD 1 (depIn (by kernel_rfl)); have e12 : uS 12 = .int .i64 x := hD 12 (depIn (by kernel_rfl)); exact op_run (op := Op.binOp BinOp.add 3 (Operand.tmp 40) (Operand.tmp 51) 3) (t := 3) (d := some 52) rfl (.int .i64 (cost + x)) (by simp only [putAll, Act.put, List.setIfInBounds_toArray, List.set_cons_zero, List.set_cons_succ]; unfold exec2; go_simp; try simp only [e1, e12]; try go_simp) hK)
          simp only [putAll, Act.put, List.setIfInBounds_toArray, List.set_cons_zero, List.set_cons_succ]
          refine wpAny_T (i := 14) (op := Op.fieldAddr 70 (Operand.tmp 6) 2) (t := 0) (d := some 53) (v := ?_) rfl (by decide +kernel) (by decide +kernel) (by decide +kernel) (fun _ _ _ h => h) ?_ ?_
          case refine_2 => (intro _; unfold exec2; go_simp; try with_reducible rfl)
          try simp only [Act.put, List.setIfInBounds_toArray, List.set_cons_zero, List.set_cons_succ]
          refine wpAny_next 15 (by decide +kernel) (op_st rfl (.pointer (some ⟨sb, 3, none⟩)) (.int .i64 (cost + x)) (by kernel_rfl) (by kernel_rfl) (by go_simp; rfl) ?_)
          refine wpAny_done (by kernel_rfl) ?_ _
          clear c2 c3 cK cv cx f3 Y3 b13 bs3
          generalize w3.setCell ⟨sb, 3, none⟩ (.int .i64 (cost + x)) = w4 at *
          have d0 : w4.cell? ⟨sb, 0, none⟩ = some (.int .u64 m) := NB.out.cell 0
          have d1 : w4.cell? ⟨sb, 1, none⟩ = some (.int .u64 0) := NB.out.cell 1
          have d2 : w4.cell? ⟨sb, 2, none⟩ = some (.int .i64 last) := NB.out.cell 2
          have f2 : w4.frozen? ⟨sb, 2, none⟩ = false := NB.out.free 2
          have MB : Hid (Blk (w4.setCell ⟨sb, 2, none⟩ (.int .i64 i)) sb 70 #[.int .u64 m, .int .u64 0, .int .i64 i, .int .i64 (cost + x)]) := NB.out.set 2 (.int .i64 i)
          have MY : Hid (Ext w (w4.setCell ⟨sb, 2, none⟩ (.int .i64 i))) := NY.out.setNew (p := ⟨sb, 2, none⟩) (Nat.le_of_lt zsb) _
          have MZ : Hid (Blk (w4.setCell ⟨sb, 2, none⟩ (.int .i64 i)) w.heap.size 70 #[.int .u64 0, .int .u64 0, .int .i64 0, .int .i64 0]) := NZ.out.far (p := ⟨sb, 2, none⟩) (Nat.ne_of_lt zsb) _
          go_simp
          go_wp2_with (fail)
          refine (WO.out _).mono ?_
          rintro e w5 ⟨rfl, x5⟩
          have bs5 := MB.out.drew.ext x5
          have b15 := MZ.out.drew.ext x5
          have k0 : w5.cell? ⟨sb, 0, none⟩ = some (.int .u64 m) := bs5.cell 0
          have k1 : w5.cell? ⟨sb, 1, none⟩ = some (.int .u64 0) := bs5.cell 1
          have g0 := bs5.free 0
          have g1 := bs5.free 1
          have NEW : Hid (Ext w ((w5.setCell ⟨sb, 0, none⟩ (.int .u64 m2)).setCell ⟨sb, 1, none⟩ (.int .u64 0)) ∧ Blk ((w5.setCell ⟨sb, 0, none⟩ (.int .u64 m2)).setCell ⟨sb, 1, none⟩ (.int .u64 0)) w.heap.size 70 #[.int .u64 0, .int .u64 0, .int .i64 0, .int .i64 0] ∧ Blk ((w5.setCell ⟨sb, 0, none⟩ (.int .u64 m2)).setCell ⟨sb, 1, none⟩ (.int .u64 0)) sb 70 #[.int .u64 m2, .int .u64 0, .int .i64 i, .int .i64 (cost + x)]) :=
            ⟨((MY.out.drew.tr x5).setNew (p := ⟨sb, 0, none⟩) (Nat.le_of_lt zsb) _).setNew (p := ⟨sb, 1, none⟩) (Nat.le_of_lt zsb) _, (b15.far (p := ⟨sb, 0, none⟩) (Nat.ne_of_lt zsb) _).far (p := ⟨sb, 1, none⟩) (Nat.ne_of_lt zsb) _, (bs5.set 0 (.int .u64 m2)).set 1 (.int .u64 0)⟩
          clear bs5 b15 x5 d0 d1 d2
          go_wp2_with (fail)
          go_roundw
          case rel => exact ⟨k + 1, m2, i, cost + x, by go_num, by omega, HF3, HU2, HL2, NEW⟩
          case measure => simp [intOf]; omega
        · have e1 : (decide (0 ≤ c ∧ c < 64) && m.testBit c.toNat) = false := by
            by_cases h2 : 0 ≤ c ∧ c < 64
            · cases h3 : m.testBit c.toNat with
              | false => simp
              | true => exact absurd ⟨h2.1, h2.2, h3⟩ hin
            · rw [decide_eq_false h2]; rfl
          rw [e1]
          have HF3 : Hid (r = none) := by
            have h := HF2.out
            rw [if_neg hin] at h
            exact h
          have d0 : w3.cell? ⟨w.heap.size, 0, none⟩ = some (.int .u64 0) := b13.out.cell 0
          have d1 : w3.cell? ⟨w.heap.size, 1, none⟩ = some (.int .u64 0) := b13.out.cell 1
          have d2 : w3.cell? ⟨w.heap.size, 2, none⟩ = some (.int .i64 0) := b13.out.cell 2
          have d3 : w3.cell? ⟨w.heap.size, 3, none⟩ = some (.int .i64 0) := b13.out.cell 3
          have f0 := b13.out.free 0
          have f1 := b13.out.free 1
          have f2 := b13.out.free 2
          have f3 := b13.out.free 3
          clear hin e1 HF2 HA
          go_wp2_with (fail)
          refine bodyPost_ret (v := .tuple #[wayT 0 0 0, .bool false]) (by simp [results, Tryd.results61, go_sem, *]) rfl ⟨by rw [HF3.out]; rfl, ?_⟩
          exact (((Y3.out.setNew (p := ⟨w.heap.size, 0, none⟩) (Nat.le_refl _) _).setNew (p := ⟨w.heap.size, 1, none⟩) (Nat.le_refl _) _).setNew (p := ⟨w.heap.size, 2, none⟩) (Nat.le_refl _) _).setNew (p := ⟨w.heap.size, 3, none⟩) (Nat.le_refl _) _
      · obtain rfl : k = p.length := by omega
        have HF3 : Hid (r = some (m, last, cost)) := by
          have h := HF.out
          rw [List.drop_length] at h
          exact h.symm
        have d0 : wo.cell? ⟨w.heap.size, 0, none⟩ = some (.int .u64 0) := b1.out.cell 0
        have d1 : wo.cell? ⟨w.heap.size, 1, none⟩ = some (.int .u64 0) := b1.out.cell 1
        have d2 : wo.cell? ⟨w.heap.size, 2, none⟩ = some (.int .i64 0) := b1.out.cell 2
        have d3 : wo.cell? ⟨w.heap.size, 3, none⟩ = some (.int .i64 0) := b1.out.cell 3
        have f0 := b1.out.free 0
        have f1 := b1.out.free 1
        have f2 := b1.out.free 2
        have f3 := b1.out.free 3
        go_wp2_with (fail)
        refine bodyPost_ret (v := .tuple #[wayT m last cost, .bool true]) (by simp [results, Tryd.results61, go_sem, *]) rfl ⟨by rw [HF3.out]; rfl, ?_⟩
        exact (((Y.out.setNew (p := ⟨w.heap.size, 0, none⟩) (Nat.le_refl _) _).setNew (p := ⟨w.heap.size, 1, none⟩) (Nat.le_refl _) _).setNew (p := ⟨w.heap.size, 2, none⟩) (Nat.le_refl _) _).setNew (p := ⟨w.heap.size, 3, none⟩) (Nat.le_refl _) _
end Go.Proofs.YtpngflmngnjjoaaDoor
