/-
  The document's tour: mirror, rest.
  The document's tour: where a beginning has come to.
  The document's tour: the answer of a whole list.
  The document's tour: what may follow.
  The law's own example of a tour, plainly.
-/
import Derived.Test.YtpngflmngnjjoaaDoorTourB
import Derived.Test.YtpngflmngnjjoaaDoorRefFab
import Derived.Test.YtpngflmngnjjoaaDoorTourC
namespace Go.Proofs.YtpngflmngnjjoaaDoor
open Go.RowKit Go.ChangeShapes Go.WideShapes Go.ChangeAt Go.Deep

set_option maxRecDepth 100000 in
set_option maxHeartbeats 4000000 in
theorem rmirror_any (i : InstP) (us : List Value) (w : World) (H : RInst w us i) (ok : SquareOk i) :
    Calls Tryd.prog 65 #[.agg (List.toArray us)] w fun e w' => e = .returned (.bool (mirP i.cost)) ∧ Ext w w' := by
  have rok := rows_ok ok
  have n24 := rok.n2
  have hnn : i.n = (i.cost.length : Int) := ok.len.symm
  clear ok
  obtain ⟨kind, nn, cap, xw, xv, co⟩ := i
  obtain ⟨A, a, B, b, D, d, rfl, -, -, ⟨hC, -, -⟩⟩ := H
  simp only at *
  subst hnn
  have B1 : Hid (Blk (w.alloc (.cells #[.int .i64 kind, .int .i64 co.length, .int .i64 cap, .slice A xw.length a, .slice B xv.length b, .slice D co.length d] 25)) w.heap.size 25 #[.int .i64 kind, .int .i64 co.length, .int .i64 cap, .slice A xw.length a, .slice B xv.length b, .slice D co.length d]) := .new rfl
  replace hC := Lib.hid hC
  replace rok := Lib.hid rok
  obtain ⟨mm, hmm⟩ : ∃ mm, Hid (mirP co = mm) := ⟨_, rfl⟩
  rw [hmm.out]
  go_enter Tryd.func65, Tryd.ntmps65
  have X1 : Hid (Ext w (w.alloc (.cells #[.int .i64 kind, .int .i64 co.length, .int .i64 cap, .slice A xw.length a, .slice B xv.length b, .slice D co.length d] 25))) := (Ext.rf _).alloc _
  go_wp2_with (fail)
  generalize w.alloc (.cells #[.int .i64 kind, .int .i64 co.length, .int .i64 cap, .slice A xw.length a, .slice B xv.length b, .slice D co.length d] 25) = w1 at *
  have BB := B1
  go_loopw [3] (fun v wr => ∃ k : Nat, v = .int .i64 k ∧ k ≤ co.length ∧ Hid (∀ x, x < k → ∀ y, y < x → costAt co x y = costAt co y x) ∧ Hid (Ext w1 wr)) (fun v _ => co.length - (intOf v).toNat)
  case atStart => exact ⟨0, rfl, by omega, fun x hx => absurd hx (Nat.not_lt_zero _), Ext.rf _⟩
  case round =>
    obtain ⟨wo, rfl⟩ : ∃ wo : World, wo = wr := ⟨_, rfl⟩
    obtain ⟨k, rfl, hk, HS, Y⟩ := hrel
    have cN : wo.cell? ⟨w.heap.size, 1, none⟩ = some (.int .i64 co.length) := (BB.out.ext Y.out).cell 1
    by_cases hlt : k < co.length
    · have XW : Hid (Ext w wo) := X1.out.tr Y.out
      obtain ⟨cb, cof, D', row, d', rfl, zb, cD, er, _, rD, iD, ld, md⟩ := (hC.out.ext XW.out fun _ _ h => h.ext XW.out).ints hlt
      have lrow := rok.out.row row (List.mem_of_getElem? er.out)
      have q1 : (k : Int) < (co.length : Int) := by omega
      replace er := Lib.hid er.out
      replace rD := Lib.hid rD
      go_wp2_with (fail)
      go_loopw [4] (fun v wr => ∃ j : Nat, v = .int .i64 j ∧ j ≤ k ∧ Hid (∀ y, y < j → costAt co k y = costAt co y k) ∧ Hid (Ext wo wr)) (fun v _ => k - (intOf v).toNat)
      case atStart => exact ⟨0, rfl, by omega, fun y hy => absurd hy (Nat.not_lt_zero _), Ext.rf _⟩
      case round =>
        obtain ⟨wi, rfl⟩ : ∃ wi : World, wi = wr := ⟨_, rfl⟩
        obtain ⟨j, rfl, hj, HJ, Z⟩ := hrel
        have XZ := Lib.hid (Ext.tr (a := w) (XW.out) Z.out)
        by_cases hlj : j < k
        · obtain ⟨cb', cof', D2, row2, d2, hq, zb2, cD2, er2, _, rD2, iD2, ld2, md2⟩ := (hC.out.ext XZ.out fun _ _ h => h.ext XZ.out).ints (r := j) (by omega)
          obtain ⟨rfl, rfl⟩ : cb = cb' ∧ cof = cof' := by simpa using hq
          have cDk := (Z.out.cells.1 _ (cof + k) zb).trans cD
          have lrow2 := rok.out.row row2 (List.mem_of_getElem? er2.out)
          obtain ⟨rb, ro, x, rfl, zx, cx, ex, _⟩ := (rD.out.ext Z.out).at (k := j) (by omega)
          obtain ⟨rb2, ro2, y, rfl, zy, cy, ey, _⟩ := rD2.at (k := k) (by omega)
          have d5' : wi.cell? ⟨w.heap.size, 5, none⟩ = some (.slice (some ⟨cb, cof, none⟩) co.length d) := ((BB.out.ext Y.out).ext Z.out).cell 5
          have exy : Hid (costAt co k j = x ∧ costAt co j k = y) := by
            refine ⟨?_, ?_⟩
            · unfold costAt; rw [getD_some er.out, getD_some ex.out]
            · unfold costAt; rw [getD_some er2.out, getD_some ey.out]
          have q2 : (j : Int) < (co.length : Int) := by omega
          have q3 : (j : Int) < (row.length : Int) := by omega
          have q4 : (k : Int) < (row2.length : Int) := by omega
          replace ex := Lib.hid ex.out
          replace ey := Lib.hid ey.out
          replace er2 := Lib.hid er2.out
          replace rD2 := Lib.hid rD2
          have q5 : (k : Int) < (co.length : Int) := by omega
          clear hq
          by_cases hxy : x = y
          · subst hxy
            have t0 : (x != x) = false := by simp
            have NX : Hid (∀ yy, yy < j + 1 → costAt co k yy = costAt co yy k) := fun yy hy => by
              by_cases e : yy = j
              · subst e; rw [exy.out.1, exy.out.2]
              · exact HJ.out yy (by omega)
            go_wp2_with (fail)
            go_quiet (fail)
            go_wp2_with (fail)
            go_roundw
            case rel => exact ⟨j + 1, by go_num, by omega, NX, Z.out.drewN _⟩
            case measure => simp [intOf]; omega
          · have t0 : (x != y) = true := by simpa using hxy
            have HM : Hid (mm = false) := by
              have h : mm = false := by
                rw [← hmm.out]
                exact mirP_false hlt hlj (by rw [exy.out.1, exy.out.2]; exact hxy)
              exact h
            go_wp2_with (fail)
            go_quiet (fail)
            go_wp2_with (fail)
            go_ret
            rw [HM.out]
            exact ⟨rfl, XZ.out.drewN _⟩
        · obtain rfl : j = k := by omega
          have q2 : ¬ (j : Int) < (j : Int) := by omega
          have HS3 : Hid (∀ x, x < j + 1 → ∀ y, y < x → costAt co x y = costAt co y x) := fun x hx => by
            by_cases e : x = j
            · subst e; exact HJ.out
            · exact HS.out x (by omega)
          have YZ := Lib.hid (Y.out.tr Z.out)
          go_wp2_with (fail)
          go_roundw
          case rel => exact ⟨j + 1, by go_num, by omega, HS3, YZ.out⟩
          case measure => simp [intOf]; omega
    · obtain rfl : k = co.length := by omega
      have HM : Hid (mm = true) := by
        have h : mm = true := by
          rw [← hmm.out]
          exact mirP_true HS.out
        exact h
      have q2 : ¬ (co.length : Int) < (co.length : Int) := by omega
      have XW := Lib.hid (X1.out.tr Y.out)
      go_wp2_with (fail)
      go_ret
      rw [HM.out]
      exact ⟨rfl, XW.out⟩
end Go.Proofs.YtpngflmngnjjoaaDoor
namespace Go.Proofs.YtpngflmngnjjoaaDoor
open Go.RowKit Go.ChangeShapes Go.WideShapes Go.ChangeAt Go.Deep

theorem results_four {fn : Func} {t u v x : Tmp} (h : fn.results = #[.tmp t, .tmp u, .tmp v, .tmp x]) (tmps : Array Value) (P : Program) (w : World) :
    (results fn tmps).run P w = .ok (.tuple #[tmps.getD t undef, tmps.getD u undef, tmps.getD v undef, tmps.getD x undef]) w := by
  simp [results, h]
abbrev used1 : Array Value := #[.bool true, .bool false, .bool false, .bool false, .bool false, .bool false, .bool false, .bool false, .bool false, .bool false, .bool false, .bool false, .bool false, .bool false, .bool false, .bool false, .bool false, .bool false, .bool false, .bool false, .bool false, .bool false, .bool false, .bool false]
theorem usedC_rest {n : Nat} (h1 : 1 ≤ n) (h : n ≤ 24) : usedC n (restM n) = used1 := by
  unfold restM
  rw [← usedC_set (subN_full h).1 (by omega), usedC_full h]
  rfl
def RestSome (m last : Nat) (cost : Int) (w : World) (e : Ending) (w' : World) : Prop := ∃ A c, e = .returned (.tuple #[.slice A (memsM m).length c, .int .i64 last, .int .i64 cost, .bool true]) ∧ OwI w' w.heap.size A c (intsN (memsM m)) ∧ Ext w w'
def RRest (r : Option (Nat × Nat × Int)) (w : World) (e : Ending) (w' : World) : Prop := match r with
  | none => e = .returned (.tuple #[.slice none 0 0, .int .i64 0, .int .i64 0, .bool false]) ∧ Ext w w'
  | some (m, last, cost) => RestSome m last cost w e w'
set_option maxRecDepth 100000 in
set_option maxHeartbeats 4000000 in
theorem rrest_any (i : InstP) (us : List Value) (P : Option Addr) (pc : Nat) (p : List Int) (w : World) (H : RInst w us i) (n : Nat) (hn : i.n = n) (hcn : i.cost.length = n) (rok : RowsOk i.cost) (h1 : 1 ≤ n) (h24 : n ≤ 24) (hP : RdI w P p) (lp : p.length ≤ 1000000000) :
    Calls Tryd.prog 64 #[.agg (List.toArray us), .slice P p.length pc] w (RRest (walkP i.cost p) w) := by
  obtain ⟨kind, nn, cap, xw, xv, co⟩ := i
  obtain ⟨A, a, B, b, D, d, rfl, -, -, ⟨hC, -, -⟩⟩ := H
  simp only at *
  subst hn
  replace hC := Lib.hid hC
  replace rok := Lib.hid rok
  replace hcn := Lib.hid hcn
  have UF : Hid (SubN n (restM n)) := restM_sub h24
  obtain ⟨r, hr⟩ : ∃ r, Hid (walkP co p = r) := ⟨_, rfl⟩
  rw [hr.out]
  unfold walkP at hr
  rw [hcn.out] at hr
  replace hP := Lib.hid hP
  have B1 : Hid (Blk (w.alloc (.cells #[.int .i64 kind, .int .i64 n, .int .i64 cap, .slice A xw.length a, .slice B xv.length b, .slice D co.length d] 25)) w.heap.size 25 #[.int .i64 kind, .int .i64 n, .int .i64 cap, .slice A xw.length a, .slice B xv.length b, .slice D co.length d]) := .new rfl
  by_cases hlen : n - 1 < p.length
  · have hr2 : Hid (r = none) := by
      have h := hr.out
      rw [if_pos hlen] at h
      exact h.symm
    have hlb : (n : Int) - 1 < (p.length : Int) := by omega
    have hw : IntKind.i64.wrap ((n : Int) - 1) = (n : Int) - 1 := IntWalk.i64_in _ (by omega)
    rw [hr2.out]
    unfold RRest
    clear hr hr2
    go_enter Tryd.func64, Tryd.ntmps64
    go_wp2_with (fail)
    ((try simp only [Exit.inBlock, Exit.then]); refine bodyPost_ret (results_four rfl _ _ _) rfl ?_)
    exact ⟨rfl, by (repeat (first | assumption | exact Ext.rf _ | apply Ext.drew | apply Ext.drewN | apply Ext.alloc))⟩
  · have hr2 : Hid (walkT co (restM n) 0 0 p = r) := by
      have h := hr.out
      rw [if_neg hlen] at h
      exact h
    have hlb : ¬ (n : Int) - 1 < (p.length : Int) := by omega
    have hw : IntKind.i64.wrap ((n : Int) - 1) = (n : Int) - 1 := IntWalk.i64_in _ (by omega)
    obtain ⟨m0, hm0⟩ : ∃ m0, Hid (m0 = restM n) := ⟨restM n, by exact rfl⟩
    have FU2 : Hid (usedC n m0 = used1) := by rw [hm0.out]; exact usedC_rest h1 h24
    rw [← hm0.out] at hr2 UF
    have START : Hid (Ext w ((w.alloc (.cells #[.int .i64 kind, .int .i64 n, .int .i64 cap, .slice A xw.length a, .slice B xv.length b, .slice D co.length d] 25)).alloc (.cells #[.bool true, .bool false, .bool false, .bool false, .bool false, .bool false, .bool false, .bool false, .bool false, .bool false, .bool false, .bool false, .bool false, .bool false, .bool false, .bool false, .bool false, .bool false, .bool false, .bool false, .bool false, .bool false, .bool false, .bool false] 82)) ∧ Blk ((w.alloc (.cells #[.int .i64 kind, .int .i64 n, .int .i64 cap, .slice A xw.length a, .slice B xv.length b, .slice D co.length d] 25)).alloc (.cells #[.bool true, .bool false, .bool false, .bool false, .bool false, .bool false, .bool false, .bool false, .bool false, .bool false, .bool false, .bool false, .bool false, .bool false, .bool false, .bool false, .bool false, .bool false, .bool false, .bool false, .bool false, .bool false, .bool false, .bool false] 82)) w.heap.size 25 #[.int .i64 kind, .int .i64 n, .int .i64 cap, .slice A xw.length a, .slice B xv.length b, .slice D co.length d] ∧ Blk ((w.alloc (.cells #[.int .i64 kind, .int .i64 n, .int .i64 cap, .slice A xw.length a, .slice B xv.length b, .slice D co.length d] 25)).alloc (.cells #[.bool true, .bool false, .bool false, .bool false, .bool false, .bool false, .bool false, .bool false, .bool false, .bool false, .bool false, .bool false, .bool false, .bool false, .bool false, .bool false, .bool false, .bool false, .bool false, .bool false, .bool false, .bool false, .bool false, .bool false] 82)) (w.heap.size + 1) 82 (usedC n m0)) :=
      ⟨((Ext.rf _).alloc _).alloc _, B1.out.alloc _, by rw [FU2.out]; exact .new (by simp)⟩
    clear hr
    go_enter Tryd.func64, Tryd.ntmps64
    go_wp2_with (fail)
    go_loopw [11, 10, 9] (fun v cv lv wr => ∃ (k m last : Nat) (cost : Int), v = .int .i64 k ∧ cv = .int .i64 cost ∧ lv = .int .i64 last ∧ k ≤ p.length ∧ Hid (walkT co m last cost (p.drop k) = r) ∧ Hid (SubN n m) ∧ Hid (last < n ∧ 0 ≤ cost ∧ cost ≤ 2147483647 * (k : Int)) ∧ Hid (Ext w wr ∧ Blk wr w.heap.size 25 #[.int .i64 kind, .int .i64 n, .int .i64 cap, .slice A xw.length a, .slice B xv.length b, .slice D co.length d] ∧ Blk wr (w.heap.size + 1) 82 (usedC n m))) (fun v _ _ _ => p.length - (intOf v).toNat)
    case atStart => exact ⟨0, m0, 0, 0, rfl, rfl, rfl, by omega, hr2, UF, by exact (show 0 < n ∧ (0 : Int) ≤ 0 ∧ (0 : Int) ≤ 2147483647 * ((0 : Nat) : Int) from ⟨by omega, by omega, by omega⟩), START⟩
    case round =>
      obtain ⟨wo, rfl⟩ : ∃ wo : World, wo = wr := ⟨_, rfl⟩
      clear START FU2
      obtain ⟨k, m, last, cost, rfl, rfl, rfl, hk, HF, HU, HL, HH⟩ := hrel
      obtain ⟨Y, bI, bU⟩ := HH.out
      have cN : wo.cell? ⟨w.heap.size, 1, none⟩ = some (.int .i64 n) := bI.cell 1
      replace Y := Lib.hid Y
      replace bI := Lib.hid bI
      replace bU := Lib.hid bU
      clear HH
      by_cases hlt : k < p.length
      · obtain ⟨pb, po, c, rfl, zp, cp, ep, dp⟩ := (hP.out.ext Y.out).at hlt
        have HF2 : Hid (r = if 0 ≤ c ∧ c < 64 ∧ m.testBit c.toNat = true then walkT co (clrM m c.toNat) c.toNat (cost + costAt co last c.toNat) (p.drop (k + 1)) else none) := by
          have h := HF.out
          rw [dp.out, walkT_cons] at h
          exact h.symm
        have q1 : (k : Int) < (p.length : Int) := by omega
        clear HF dp
        by_cases c0 : c < 0
        · have HN : Hid (r = none) := by
            have h := HF2.out
            rw [if_neg (by omega)] at h
            exact h
          have t0 : decide (c < 0) = true := decide_eq_true c0
          go_wp2_with (fail)
          go_quiet (fail)
          go_wp2_with (fail)
          ((try simp only [Exit.inBlock, Exit.then]); refine bodyPost_ret (results_four rfl _ _ _) rfl ?_)
          rw [HN.out]
          exact ⟨rfl, Y.out.drewN _⟩
        · have t0 : decide (c < 0) = false := decide_eq_false c0
          obtain ⟨ci, rfl⟩ : ∃ ci : Nat, c = (ci : Int) := ⟨c.toNat, by omega⟩
          rw [Int.toNat_natCast] at HF2
          clear c0 t0
          by_cases c1 : n ≤ ci
          · have HN : Hid (r = none) := by
              have h := HF2.out
              rw [if_neg (by rintro ⟨_, h1, h2⟩; have := HU.out.2 ci (memsM_mem.2 ⟨by omega, h2⟩); omega)] at h
              exact h
            have t1 : decide (n ≤ ci) = true := decide_eq_true c1
            have t2 : decide ((n : Int) ≤ (ci : Int)) = true := decide_eq_true (by omega)
            go_wp2_with (fail)
            go_quiet (fail)
            go_wp2_with (fail)
            ((try simp only [Exit.inBlock, Exit.then]); refine bodyPost_ret (results_four rfl _ _ _) rfl ?_)
            rw [HN.out]
            exact ⟨rfl, Y.out.drewN _⟩
          · have t1 : decide (n ≤ ci) = false := decide_eq_false c1
            have t2 : decide ((n : Int) ≤ (ci : Int)) = false := decide_eq_false (by omega)
            have cin : ci < n := by omega
            have ci24 : (ci : Int) < 24 := by omega
            have dn : decide (ci < n) = true := decide_eq_true cin
            cases hb : m.testBit ci with
            | false =>
              have HN : Hid (r = none) := by
                have h := HF2.out
                rw [if_neg (by rintro ⟨_, h1, h2⟩; rw [hb] at h2; cases h2)] at h
                exact h
              have cu : wo.cell? ⟨w.heap.size + 1, ci, none⟩ = some (.bool true) := by rw [bU.out.cell, usedC_at (by omega), dn, hb]; rfl
              clear HF2 hb dn
              go_wp2_with (fail)
              go_quiet (fail)
              go_wp2_with (fail)
              ((try simp only [Exit.inBlock, Exit.then]); refine bodyPost_ret (results_four rfl _ _ _) rfl ?_)
              rw [HN.out]
              exact ⟨rfl, Y.out.drewN _⟩
            | true =>
              have HF3 : Hid (walkT co (clrM m ci) ci (cost + costAt co last ci) (p.drop (k + 1)) = r) := by
                have h := HF2.out
                rw [if_pos ⟨by omega, by omega, hb⟩] at h
                exact h.symm
              have cu : wo.cell? ⟨w.heap.size + 1, ci, none⟩ = some (.bool false) := by rw [bU.out.cell, usedC_at (by omega), dn, hb]; rfl
              have fu := bU.out.free ci
              have HU2 := Lib.hid (HU.out.clr ci)
              have NX : Hid (∀ q, Ext w ((wo.drewN q).setCell ⟨w.heap.size + 1, ci, none⟩ (.bool true)) ∧ Blk ((wo.drewN q).setCell ⟨w.heap.size + 1, ci, none⟩ (.bool true)) w.heap.size 25 #[.int .i64 kind, .int .i64 n, .int .i64 cap, .slice A xw.length a, .slice B xv.length b, .slice D co.length d] ∧ Blk ((wo.drewN q).setCell ⟨w.heap.size + 1, ci, none⟩ (.bool true)) (w.heap.size + 1) 82 (usedC n (clrM m ci))) := by
                intro q
                refine ⟨(Y.out.drewN q).setNew (by simp) _, (bI.out.drewN q).far (by simp) _, ?_⟩
                rw [← usedC_set HU.out.1 cin]
                exact (bU.out.drewN q).set ci _
              clear HF2 hb dn
              generalize clrM m ci = m2 at *
              go_wp2_with (fail)
              go_quiet (fail)
              go_wp2_with (fail)
              obtain ⟨NY, NI, NU⟩ := NX.out nq
              clear cu fu cN cp zp NX
              generalize (wo.drewN nq).setCell ⟨w.heap.size + 1, ci, none⟩ (.bool true) = w2 at *
              have hlc : last < co.length := by have := HL.out.1; have := hcn.out; omega
              obtain ⟨cb, cof, D', row, d', hDq, zb, cD, er, _, rD, _, _, _⟩ := (hC.out.ext NY fun _ _ h => h.ext NY).ints (r := last) hlc
              subst hDq
              have hmem := List.mem_of_getElem? er.out
              have lrow := rok.out.row row hmem
              have nrow := rok.out.num row hmem
              obtain ⟨rb, ro, y, rfl, zx, cx, ex, _⟩ := rD.at (k := ci) (by have := hcn.out; omega)
              obtain ⟨pb2, po2, c2, hpq, zp2, cp2, ep2, _⟩ := (hP.out.ext NY).at hlt
              obtain ⟨rfl, rfl⟩ : pb = pb2 ∧ po = po2 := by simpa using hpq
              obtain rfl : (ci : Int) = c2 := by
                have h := ep2.out
                rw [ep.out] at h
                exact Option.some.inj h
              have ny := nrow y (List.mem_of_getElem? ex.out)
              have ecost : costAt co last ci = y := by unfold costAt; rw [getD_some er.out, getD_some ex.out]
              rw [ecost] at HF3
              have HL2 : Hid (ci < n ∧ 0 ≤ cost + y ∧ cost + y ≤ 2147483647 * ((k + 1 : Nat) : Int)) := by
                have h := HL.out
                have : ci < n ∧ 0 ≤ cost + y ∧ cost + y ≤ 2147483647 * ((k + 1 : Nat) : Int) := ⟨cin, by omega, by omega⟩
                exact this
              have hw2 : IntKind.i64.wrap (cost + y) = cost + y := IntWalk.i64_in _ (by have := HL2.out; omega)
              have cI5 : w2.cell? ⟨w.heap.size, 5, none⟩ = some (.slice (some ⟨cb, cof, none⟩) co.length d) := NI.cell 5
              have q6 : (last : Int) < (co.length : Int) := by omega
              have q7 : (ci : Int) < (row.length : Int) := by have := hcn.out; omega
              have NN : Hid (∀ q, Ext w (w2.drewN q) ∧ Blk (w2.drewN q) w.heap.size 25 #[.int .i64 kind, .int .i64 n, .int .i64 cap, .slice A xw.length a, .slice B xv.length b, .slice (some ⟨cb, cof, none⟩) co.length d] ∧ Blk (w2.drewN q) (w.heap.size + 1) 82 (usedC n m2)) := fun q => ⟨NY.drewN q, NI.drewN q, NU.drewN q⟩
              clear ex er rD hmem lrow nrow ecost hlc NY NI NU ep ep2 hpq
              go_quiet (fail)
              go_wp2_with (fail)
              go_roundw
              case rel => exact ⟨k + 1, m2, ci, cost + y, by go_num, rfl, rfl, by omega, HF3, HU2, HL2, NN.out _⟩
              case measure => simp [intOf]; omega
      · have HF2 : Hid (some (m, last, cost) = r) := by
          have h := HF.out
          rw [show p.drop k = [] from List.drop_of_length_le (by omega)] at h
          exact h
        have q1 : ¬ (k : Int) < (p.length : Int) := by omega
        have HM : Hid (memsM m = upTo m n) := memsM_range HU.out (by omega)
        have X9 := Lib.hid (Y.out.alloc (.cells #[] 3))
        have bI9 := Lib.hid (bI.out.alloc (.cells #[] 3))
        have bU9 := Lib.hid (bU.out.alloc (.cells #[] 3))
        have zY := Y.out.size
        have o9 : Hid (OwI (wo.alloc (.cells #[] 3)) w.heap.size (some ⟨wo.heap.size, 0, none⟩) 0 (intsN (upTo m 0))) := OwI.new (xs := []) rfl zY (by simp [maxLen])
        clear HF HU hr2
        go_wp2_with (fail)
        go_loopw [13, 12] (fun v o wr => ∃ (k : Nat) (A' : Option Addr) (c' : Nat), v = .int .i64 k ∧ o = .slice A' (upTo m k).length c' ∧ k ≤ n ∧ Hid (OwI wr w.heap.size A' c' (intsN (upTo m k))) ∧ Hid (Ext w wr) ∧ Hid (Blk wr w.heap.size 25 #[.int .i64 kind, .int .i64 n, .int .i64 cap, .slice A xw.length a, .slice B xv.length b, .slice D co.length d]) ∧ Hid (Blk wr (w.heap.size + 1) 82 (usedC n m))) (fun v _ _ => n - (intOf v).toNat)
        case atStart => exact ⟨0, _, _, rfl, rfl, by omega, o9, X9, bI9, bU9⟩
        case round =>
          obtain ⟨wi, rfl⟩ : ∃ wi : World, wi = wr := ⟨_, rfl⟩
          obtain ⟨j, A', c', rfl, rfl, hj, oJ, YJ, bIJ, bUJ⟩ := hrel
          clear X9 bI9 bU9 o9
          have cN2 : wi.cell? ⟨w.heap.size, 1, none⟩ = some (.int .i64 n) := bIJ.out.cell 1
          have US := Lib.hid (upTo_succ m j)
          have UL := upTo_len m j
          by_cases hjn : j < n
          · have j24 : (j : Int) < 24 := by omega
            have dn : decide (j < n) = true := decide_eq_true hjn
            have q3 : (j : Int) < (n : Int) := by omega
            cases hb : m.testBit j with
            | false =>
              have cu : wi.cell? ⟨w.heap.size + 1, j, none⟩ = some (.bool true) := by rw [bUJ.out.cell, usedC_at (by omega), dn, hb]; rfl
              have HE : Hid (upTo m (j + 1) = upTo m j) := by
                have h := US.out
                rw [hb, if_neg (by simp), List.append_nil] at h
                exact h
              clear US hb dn
              go_wp2_with (fail)
              go_roundw
              case rel => exact ⟨j + 1, A', c', by go_num, by rw [HE.out], by omega, by rw [HE.out]; exact oJ, YJ, bIJ, bUJ⟩
              case measure => simp [intOf]; omega
            | true =>
              have cu : wi.cell? ⟨w.heap.size + 1, j, none⟩ = some (.bool false) := by rw [bUJ.out.cell, usedC_at (by omega), dn, hb]; rfl
              have HE : Hid (upTo m (j + 1) = upTo m j ++ [j]) := by
                have h := US.out
                rw [hb, if_pos rfl] at h
                exact h
              have HE2 : Hid (intsN (upTo m (j + 1)) = intsN (upTo m j) ++ [(j : Int)]) := by
                have h : intsN (upTo m (j + 1)) = intsN (upTo m j) ++ [(j : Int)] := by rw [HE.out]; simp [intsN]
                exact h
              have HL : Hid ((upTo m (j + 1)).length = (upTo m j).length + 1) := by
                have h : (upTo m (j + 1)).length = (upTo m j).length + 1 := by rw [HE.out]; simp
                exact h
              have zJ := YJ.out.size
              have e0 : (upTo m j).length = (intsN (upTo m j)).length := (intsN_len _).symm
              have l0 : (intsN (upTo m j)).length ≤ 24 := by rw [intsN_len]; omega
              rw [e0]
              clear US hb dn UL e0 HE
              replace l0 := Lib.hid l0
              go_wp2_with (at_builtin; refine wpl_app_i _ rfl _ _ rfl w.heap.size A' (intsN (upTo m j)).length c' (intsN (upTo m j)) [(j : Int)] (some ⟨wi.heap.size, 0, none⟩) 1 rfl rfl rfl ?_ ?_ ?_ ?_ ?_; (exact oJ.out.ext ((Ext.rf _).alloc _)); (exact .blk (.new (by simp)) rfl); (have := l0.out; simp; omega); (first | exact Nat.le_refl _ | omega | (focus (simp; try omega))); rintro A5 c5 w5 o5 g5 _; have X5 := Lib.hid (Ext.grow (YJ.out.alloc _) g5 (fun k hk => (oJ.out.lt k hk).1)); have bI5 : Hid (Blk w5 w.heap.size 25 #[.int .i64 kind, .int .i64 n, .int .i64 cap, .slice A xw.length a, .slice B xv.length b, .slice D co.length d]) := (bIJ.out.alloc _).mod (Mod.grown (S := fun k => bl A' = some k) g5 (fun _ h => h)) (fun h => absurd rfl (oJ.out.ne bIJ.out (by decide) _ h)); have bU5 : Hid (Blk w5 (w.heap.size + 1) 82 (usedC n m)) := (bUJ.out.alloc _).mod (Mod.grown (S := fun k => bl A' = some k) g5 (fun _ h => h)) (fun h => absurd rfl (oJ.out.ne bUJ.out (by decide) _ h)); rw [← HE2.out] at o5; replace o5 := Lib.hid o5; clear g5)
              go_roundw
              case rel => exact ⟨j + 1, A5, c5, by go_num, by rw [HL.out, intsN_len], by omega, o5, X5, bI5, bU5⟩
              case measure => simp [intOf]; omega
          · obtain rfl : j = n := by omega
            have q3 : ¬ (j : Int) < (j : Int) := by omega
            have FIN : Hid (RestSome m last cost w (.returned (.tuple #[.slice A' (upTo m j).length c', .int .i64 last, .int .i64 cost, .bool true])) wi) := ⟨A', c', by rw [HM.out], by rw [HM.out]; exact oJ.out, YJ.out⟩
            clear US UL
            go_wp2_with (fail)
            ((try simp only [Exit.inBlock, Exit.then]); refine bodyPost_ret (results_four rfl _ _ _) rfl ?_)
            rw [← HF2.out]
            exact FIN.out
end Go.Proofs.YtpngflmngnjjoaaDoor
namespace Go.Proofs.YtpngflmngnjjoaaDoor
open Go.RowKit Go.ChangeShapes Go.WideShapes Go.ChangeAt Go.Deep

set_option maxRecDepth 100000 in
set_option maxHeartbeats 2000000 in
theorem ranswer13_any (i : InstP) (us : List Value) (P : Option Addr) (pc : Nat) (p : List Int) (w : World) (H : RInst w us i) (ok : SquareOk i) (hP : RdI w P p) (lp : p.length ≤ 1000000000) :
    Calls Tryd.prog 43 #[.agg (List.toArray us), .slice P p.length pc] w (OwnPost (answerT i.cost p).1 (answerT i.cost p).2 w) := by
  have rok := rows_ok ok
  have l1 := rok.n1
  have l2 := rok.n2
  have hnn : i.n = (i.cost.length : Int) := ok.len.symm
  have FR := fun (W : World) (x : Ext w W) => rrest_any i us P pc p W (H.ext x) i.cost.length hnn rfl rok l1 l2 (hP.ext x) lp
  clear ok rok
  obtain ⟨kind, nn, cap, xw, xv, co⟩ := i
  obtain ⟨A, a, B, b, D, d, rfl, -, -, -⟩ := H
  simp only at *
  subst hnn
  obtain ⟨r, hr⟩ : ∃ r, Hid (walkP co p = r) := ⟨_, rfl⟩
  rw [hr.out] at FR
  replace hP := Lib.hid hP
  have hw : IntKind.i64.wrap ((co.length : Int) - 1) = (co.length : Int) - 1 := IntWalk.i64_in _ (by omega)
  have B1 : Hid (Blk (w.alloc (.cells #[.int .i64 kind, .int .i64 co.length, .int .i64 cap, .slice A xw.length a, .slice B xv.length b, .slice D co.length d] 25)) w.heap.size 25 #[.int .i64 kind, .int .i64 co.length, .int .i64 cap, .slice A xw.length a, .slice B xv.length b, .slice D co.length d]) := .new rfl
  cases r with
  | none =>
    have e : answerT co p = ([], 1) := by unfold answerT; rw [hr.out]
    rw [e]
    unfold RRest at FR
    replace FR := Lib.hid FR
    go_enter Tryd.func43, Tryd.ntmps43
    go_wp2_with (fail)
    refine (FR.out _ (by (repeat (first | assumption | exact Ext.rf _ | apply Ext.drew | apply Ext.drewN | apply Ext.alloc)))).mono ?_
    rintro e w1 ⟨rfl, x1⟩
    have X1 := Lib.hid (Ext.tr (a := w) (by (repeat (first | assumption | exact Ext.rf _ | apply Ext.drew | apply Ext.drewN | apply Ext.alloc))) x1)
    clear x1
    go_wp2_with (fail)
    go_ret2
    exact ⟨none, 0, rfl, OwI.nil _ _, X1.out⟩
  | some s =>
    obtain ⟨m, last, cost⟩ := s
    replace FR := fun (W : World) (x : Ext w W) => (show Calls _ _ _ W (RestSome m last cost W) from FR W x)
    unfold RestSome at FR
    replace FR := Lib.hid FR
    by_cases hl : p.length = co.length - 1
    · have e : answerT co p = (0 :: p, 0) := by unfold answerT; rw [hr.out]; simp only [hl, if_true]
      rw [e]
      clear e
      have hne : ((p.length : Int) != (co.length : Int) - 1) = false := by rw [bne_eq_false_iff_eq]; omega
      replace hl := Lib.hid hl
      go_enter Tryd.func43, Tryd.ntmps43
      go_wp2_with (fail)
      refine (FR.out _ (by (repeat (first | assumption | exact Ext.rf _ | apply Ext.drew | apply Ext.drewN | apply Ext.alloc)))).mono ?_
      rintro e w1 ⟨A1, c1, rfl, -, x1⟩
      have X2 := Lib.hid (Ext.tr (a := w) (by (repeat (first | assumption | exact Ext.rf _ | apply Ext.drew | apply Ext.drewN | apply Ext.alloc))) x1)
      have d1 : w1.cell? ⟨w.heap.size, 1, none⟩ = some (.int .i64 co.length) := (B1.out.ext x1).cell 1
      clear x1
      have z2 := X2.out.size
      have oN : Hid (OwI (w1.alloc (.cells #[.int .i64 0] 3)) w.heap.size (some ⟨w1.heap.size, 0, none⟩) 1 [0]) := OwI.new (xs := [0]) rfl X2.out.size (by simp [maxLen])
      go_wp2_with (at_builtin; go_loud (refine wpl_app_i _ rfl _ _ rfl w.heap.size (some ⟨w1.heap.size, 0, none⟩) 1 1 [0] p P pc rfl rfl rfl ?_ ?_ ?_ ?_ ?_; (exact oN.out); (exact hP.out.ext (X2.out.alloc _)); (simp; omega); (first | exact Nat.le_refl _ | omega | (focus (simp; try omega))); rintro A5 c5 w5 o5 g5 _; have X5 := Lib.hid (Ext.grow (X2.out.alloc _) g5 (fun k hk => (oN.out.lt k hk).1)); replace o5 := Lib.hid o5; clear g5))
      go_ret2
      exact ⟨A5, c5, rfl, o5.out, X5.out⟩
    · have e : answerT co p = ([], 1) := by unfold answerT; rw [hr.out]; simp only [hl, if_false]
      rw [e]
      clear e
      have hne : ((p.length : Int) != (co.length : Int) - 1) = true := by simp; omega
      replace hl := Lib.hid hl
      go_enter Tryd.func43, Tryd.ntmps43
      go_wp2_with (fail)
      refine (FR.out _ (by (repeat (first | assumption | exact Ext.rf _ | apply Ext.drew | apply Ext.drewN | apply Ext.alloc)))).mono ?_
      rintro e w1 ⟨A1, c1, rfl, -, x1⟩
      have X1 := Lib.hid (Ext.tr (a := w) (by (repeat (first | assumption | exact Ext.rf _ | apply Ext.drew | apply Ext.drewN | apply Ext.alloc))) x1)
      have d1 : w1.cell? ⟨w.heap.size, 1, none⟩ = some (.int .i64 co.length) := (B1.out.ext x1).cell 1
      clear x1
      go_wp2_with (fail)
      go_ret2
      exact ⟨none, 0, rfl, OwI.nil _ _, X1.out⟩
end Go.Proofs.YtpngflmngnjjoaaDoor
namespace Go.Proofs.YtpngflmngnjjoaaDoor
open Go.RowKit Go.ChangeShapes Go.WideShapes Go.ChangeAt Go.Deep

set_option maxRecDepth 100000 in
set_option maxHeartbeats 8000000 in
theorem rkids13_any (i : InstP) (us : List Value) (P : Option Addr) (pc : Nat) (p : List Int) (w : World) (H : RInst w us i) (ok : SquareOk i) (hP : RdI w P p) (lp : p.length ≤ 1000000000) :
    Calls Tryd.prog 42 #[.agg (List.toArray us), .slice P p.length pc] w (OwnPost (kidsT i.cost p).1 (kidsT i.cost p).2 w) := by
  have rok := rows_ok ok
  have l1 := rok.n1
  have l2 := rok.n2
  have hnn : i.n = (i.cost.length : Int) := ok.len.symm
  have FR := fun (W : World) (x : Ext w W) => rrest_any i us P pc p W (H.ext x) i.cost.length hnn rfl rok l1 l2 (hP.ext x) lp
  clear ok
  obtain ⟨kind, nn, cap, xw, xv, co⟩ := i
  obtain ⟨A, a, B, b, D, d, rfl, -, -, ⟨hC, -, -⟩⟩ := H
  simp only at *
  subst hnn
  obtain ⟨r, hr⟩ : ∃ r, Hid (walkP co p = r) := ⟨_, rfl⟩
  rw [hr.out] at FR
  replace hP := Lib.hid hP
  have B1 : Hid (Blk (w.alloc (.cells #[.int .i64 kind, .int .i64 co.length, .int .i64 cap, .slice A xw.length a, .slice B xv.length b, .slice D co.length d] 25)) w.heap.size 25 #[.int .i64 kind, .int .i64 co.length, .int .i64 cap, .slice A xw.length a, .slice B xv.length b, .slice D co.length d]) := .new rfl
  cases r with
  | none =>
    have e : kidsT co p = ([], 1) := by unfold kidsT; rw [hr.out]
    rw [e]
    unfold RRest at FR
    replace FR := Lib.hid FR
    go_enter Tryd.func42, Tryd.ntmps42
    go_wp2_with (fail)
    refine (FR.out _ (by (repeat (first | assumption | exact Ext.rf _ | apply Ext.drew | apply Ext.drewN | apply Ext.alloc)))).mono ?_
    rintro e w1 ⟨rfl, x1⟩
    have X1 := Lib.hid (Ext.tr (a := w) (by (repeat (first | assumption | exact Ext.rf _ | apply Ext.drew | apply Ext.drewN | apply Ext.alloc))) x1)
    clear x1
    go_wp2_with (fail)
    go_ret2
    exact ⟨none, 0, rfl, OwI.nil _ _, X1.out⟩
  | some s =>
    obtain ⟨m, last, cost⟩ := s
    obtain ⟨pl, WO⟩ := walk_ok l1 l2 hr.out
    have hS := WO.sub
    have hlast := walk_last l1 WO
    have hlen : (memsM m).length ≤ 24 := by have := WO.len; omega
    have e : kidsT co p = (intsN (sortP (ltC (cfR (co.getD last []))) (memsM m)), 0) := by unfold kidsT; rw [hr.out]
    rw [e]
    clear e
    have hsub := Lib.hid hS.2
    have hsrt := Lib.hid (memsM_sorted m)
    replace FR := fun (W : World) (x : Ext w W) => (show Calls _ _ _ W (RestSome m last cost W) from FR W x)
    unfold RestSome at FR
    replace FR := Lib.hid FR
    clear hr hS WO
    generalize memsM m = l at *
    have hkr : last < co.length := hlast
    have er : co[last]? = some co[last] := List.getElem?_eq_getElem hkr
    have eg : co.getD last [] = co[last] := by simp [List.getD, er]
    rw [eg]
    clear eg
    replace hC := Lib.hid hC
    have hmem : co[last] ∈ co := List.getElem_mem hkr
    have lrow := rok.row _ hmem
    clear hmem
    have HCO : Hid (∀ W, Ext w W → ∃ bb off D' row d', D = some ⟨bb, off, none⟩ ∧ W.cell? ⟨bb, off + last, none⟩ = some (.slice D' row.length d') ∧ RdI W D' row ∧ row = co[last]) := by
      intro W x
      obtain ⟨bb, off, D', row, d', h1, _, h3, h4, _, h6, _⟩ := (hC.out.ext x fun _ _ h => h.ext x).ints hkr
      refine ⟨bb, off, D', row, d', h1, h3, h6, ?_⟩
      have := h4.out
      rw [er] at this
      exact (Option.some.inj this).symm
    generalize co[last] = row0 at *
    clear er
    have q1 : (last : Int) < (co.length : Int) := by omega
    have hl24 : l.length ≤ 24 := by omega
    replace lrow := Lib.hid lrow
    replace hlen := Lib.hid hlen
    go_enter Tryd.func42, Tryd.ntmps42
    go_wp2_with (fail)
    refine (FR.out _ (by (repeat (first | assumption | exact Ext.rf _ | apply Ext.drew | apply Ext.drewN | apply Ext.alloc)))).mono ?_
    rintro e w1 ⟨A1, c1, rfl, o1, x1⟩
    have X1 := Lib.hid (Ext.tr (a := w) (by (repeat (first | assumption | exact Ext.rf _ | apply Ext.drew | apply Ext.drewN | apply Ext.alloc))) x1)
    have BB := Lib.hid (B1.out.ext x1)
    obtain ⟨bb, off, D', row, d', rfl, cD, rD, rfl⟩ := HCO.out _ X1.out
    have d1 : w1.cell? ⟨w.heap.size, 1, none⟩ = some (.int .i64 co.length) := BB.out.cell 1
    have d5 : w1.cell? ⟨w.heap.size, 5, none⟩ = some (.slice (some ⟨bb, off, none⟩) co.length d) := BB.out.cell 5
    have z1 := X1.out.size
    have zo := o1.lt
    replace o1 := Lib.hid o1.read
    replace rD := Lib.hid rD
    clear x1 HCO zo
    go_wp2_with (at_make; refine wpl_make_i _ rfl _ _ rfl w1.heap.size _ _ l.length rfl rfl rfl rfl (by omega) (Nat.le_refl _) ?_; rintro w3 o3 g3)
    have x3 : Ext w1 w3 := (Ext.rf _).grownNone g3
    have S3 : Hid (OwI w3 w1.heap.size (some ⟨w1.heap.size, 0, none⟩) l.length (placeK (aheadL (ltC (cfR row)) l) l 0) ∧ Ext w1 w3) := ⟨o3, x3⟩
    clear o3 g3 x3 d1 d5 cD
    go_wp2_with (fail)
    go_loopw [12] (fun v wr => ∃ k : Nat, v = .int .i64 k ∧ k ≤ l.length ∧ Hid (OwI wr w1.heap.size (some ⟨w1.heap.size, 0, none⟩) l.length (placeK (aheadL (ltC (cfR row)) l) l k) ∧ Ext w1 wr)) (fun v _ => l.length - (intOf v).toNat)
    case atStart => exact ⟨0, rfl, by omega, S3⟩
    case round =>
      obtain ⟨wo, rfl⟩ : ∃ wo : World, wo = wr := ⟨_, rfl⟩
      obtain ⟨k, rfl, hk, HS⟩ := hrel
      clear S3
      by_cases hlt : k < l.length
      · have q2 : (k : Int) < (l.length : Int) := by omega
        have ek : l[k]? = some l[k] := List.getElem?_eq_getElem hlt
        have hkm : l[k] ∈ l := List.getElem_mem hlt
        have HPK : Hid (placeK (aheadL (ltC (cfR row)) l) l (k + 1) = (placeK (aheadL (ltC (cfR row)) l) l k).set (aheadL (ltC (cfR row)) l l[k]) ((l[k] : Nat) : Int)) := by
          have h : placeK (aheadL (ltC (cfR row)) l) l (k + 1) = (placeK (aheadL (ltC (cfR row)) l) l k).set (aheadL (ltC (cfR row)) l (l.getD k 0)) ((l.getD k 0 : Nat) : Int) := rfl
          rw [show l.getD k 0 = l[k] by simp [List.getD, ek]] at h
          exact h
        have hxs := hsub.out _ hkm
        generalize l[k] = x at *
        obtain ⟨O, Y⟩ := HS.out
        clear HS
        replace O := Lib.hid O
        replace Y := Lib.hid Y
        go_wp2_with (fail)
        go_loopw [14, 13] (fun v nv wr => ∃ j : Nat, v = .int .i64 j ∧ nv = .int .i64 (aheadL (ltC (cfR row)) (l.take j) x : Nat) ∧ j ≤ l.length ∧ Hid (Ext wo wr)) (fun v _ _ => l.length - (intOf v).toNat)
        case atStart => exact ⟨0, rfl, rfl, by omega, Ext.rf _⟩
        case round =>
          obtain ⟨wi, rfl⟩ : ∃ wi : World, wi = wr := ⟨_, rfl⟩
          obtain ⟨j, rfl, rfl, hj, YI⟩ := hrel
          have hale := aheadL_le (ltC (cfR row)) (l.take j) x
          rw [List.length_take] at hale
          have rl : RdI wi A1 (intsN l) := (o1.out.ext Y.out).ext YI.out
          have rr : RdI wi D' row := (rD.out.ext Y.out).ext YI.out
          obtain ⟨lb, lo, xk, rfl, _, ck, exk, _⟩ := rl.at (k := k) (by rw [intsN_len]; exact hlt)
          obtain rfl : xk = (x : Int) := by
            have h := exk.out
            rw [intsN_get ek] at h
            exact (Option.some.inj h).symm
          obtain ⟨rb, ro, yk, rfl, _, cxk, eyk, _⟩ := rr.at (k := x) (by rw [lrow.out]; exact hxs)
          have gk : row.getD x 0 = yk := getD_some eyk.out
          clear exk eyk
          by_cases hjl : j < l.length
          · have q3 : (j : Int) < (l.length : Int) := by omega
            have ej : l[j]? = some l[j] := List.getElem?_eq_getElem hjl
            have hjs := hsub.out _ (List.getElem_mem hjl)
            have HA : Hid (aheadL (ltC (cfR row)) (l.take (j + 1)) x = aheadL (ltC (cfR row)) (l.take j) x + if strB (ltC (cfR row)) l[j] x = true then 1 else 0) := by
              have h : l.take (j + 1) = l.take j ++ [l[j]] := by rw [List.take_add_one, ej]; rfl
              have h2 := aheadL_snoc (ltC (cfR row)) (l.take j) x l[j]
              rw [← h] at h2
              exact h2
            have HB := rise_lt hsrt.out ej ek
            generalize l[j] = y at *
            obtain ⟨lb2, lo2, xj, hq, _, cj, exj, _⟩ := rl.at (k := j) (by rw [intsN_len]; exact hjl)
            obtain ⟨rfl, rfl⟩ : lb = lb2 ∧ lo = lo2 := by simpa using hq
            obtain rfl : xj = (y : Int) := by
              have h := exj.out
              rw [intsN_get ej] at h
              exact (Option.some.inj h).symm
            obtain ⟨rb2, ro2, yj, hq2, _, cxj, eyj, _⟩ := rr.at (k := y) (by rw [lrow.out]; exact hjs)
            obtain ⟨rfl, rfl⟩ : rb = rb2 ∧ ro = ro2 := by simpa using hq2
            have gj : row.getD y 0 = yj := getD_some eyj.out
            have HA2 : Hid (aheadL (ltC (cfR row)) (l.take (j + 1)) x = aheadL (ltC (cfR row)) (l.take j) x + if (decide (yj < yk) || (decide (yj = yk) && decide (j < k))) = true then 1 else 0) := by
              have h := HA.out
              rw [strB_cfR, gj, gk, HB] at h
              exact h
            have qx : (x : Int) < (row.length : Int) := by rw [lrow.out]; omega
            have qy : (y : Int) < (row.length : Int) := by rw [lrow.out]; omega
            clear HA HB ej exj eyj hq hq2 gj gk rl rr
            generalize aheadL (ltC (cfR row)) (l.take j) x = ah at *
            by_cases t1 : yj < yk
            · have d1 : decide (yj < yk) = true := decide_eq_true t1
              have HA3 : Hid (aheadL (ltC (cfR row)) (l.take (j + 1)) x = ah + 1) := by
                have h := HA2.out
                rw [d1, Bool.true_or, if_pos rfl] at h
                exact h
              clear HA2
              go_wp2_with (fail)
              go_quiet (fail)
              go_wp2_with (fail)
              go_roundw
              case rel => exact ⟨j + 1, by go_num, by rw [HA3.out]; go_num, by omega, YI.out.drewN _⟩
              case measure => simp [intOf]; omega
            · have d1 : decide (yj < yk) = false := decide_eq_false t1
              by_cases t2 : yj = yk
              · have d2 : (yj == yk) = true := by rw [beq_iff_eq]; exact t2
                have d2' : decide (yj = yk) = true := decide_eq_true t2
                replace t2 := Lib.hid t2
                by_cases t3 : j < k
                · have d3 : decide (j < k) = true := decide_eq_true t3
                  have HA3 : Hid (aheadL (ltC (cfR row)) (l.take (j + 1)) x = ah + 1) := by
                    have h := HA2.out
                    rw [d1, d2', d3] at h
                    exact h
                  clear HA2 d2'
                  go_wp2_with (fail)
                  go_quiet (fail)
                  go_wp2_with (fail)
                  go_roundw
                  case rel => exact ⟨j + 1, by go_num, by rw [HA3.out]; go_num, by omega, YI.out.drewN _⟩
                  case measure => simp [intOf]; omega
                · have d3 : decide (j < k) = false := decide_eq_false t3
                  have HA3 : Hid (aheadL (ltC (cfR row)) (l.take (j + 1)) x = ah) := by
                    have h := HA2.out
                    rw [d1, d2', d3] at h
                    exact h
                  clear HA2 d2'
                  go_wp2_with (fail)
                  go_quiet (fail)
                  go_wp2_with (fail)
                  go_roundw
                  case rel => exact ⟨j + 1, by go_num, by rw [HA3.out], by omega, YI.out.drewN _⟩
                  case measure => simp [intOf]; omega
              · have d2 : (yj == yk) = false := by rw [beq_eq_false_iff_ne]; exact t2
                have d2' : decide (yj = yk) = false := decide_eq_false t2
                have HA3 : Hid (aheadL (ltC (cfR row)) (l.take (j + 1)) x = ah) := by
                  have h := HA2.out
                  rw [d1, d2'] at h
                  exact h
                clear HA2 d2'
                go_wp2_with (fail)
                go_quiet (fail)
                go_wp2_with (fail)
                go_roundw
                case rel => exact ⟨j + 1, by go_num, by rw [HA3.out], by omega, YI.out.drewN _⟩
                case measure => simp [intOf]; omega
          · obtain rfl : j = l.length := by omega
            have q3 : ¬ (l.length : Int) < (l.length : Int) := by omega
            have e0 : l.take l.length = l := List.take_length
            rw [e0]
            have hal : aheadL (ltC (cfR row)) l x < l.length := by
              have W := cfR_weak row
              obtain ⟨k', hk', e'⟩ := List.mem_iff_getElem.1 ((sortP_is W hsrt.out).mem.2 hkm)
              rw [aheadL_at W hsrt.out (by rw [List.getElem?_eq_getElem hk', e'])]
              rwa [sortP_len] at hk'
            clear e0 hale gk
            generalize aheadL (ltC (cfR row)) l x = ah at *
            obtain ⟨v9, c9, f9, _, _, s9⟩ := OwI.cell (OwI.ext O.out YI.out) (k := ah) (by rw [placeK_len]; exact hal)
            have q4 : (ah : Int) < (l.length : Int) := by omega
            have NX : Hid (∀ W2, Ext wi W2 → OwI (W2.setCell ⟨w1.heap.size, ah, none⟩ (.int .i64 x)) w1.heap.size (some ⟨w1.heap.size, 0, none⟩) l.length (placeK (aheadL (ltC (cfR row)) l) l (k + 1)) ∧ Ext w1 (W2.setCell ⟨w1.heap.size, ah, none⟩ (.int .i64 x))) := by
              intro W2 x2
              rw [HPK.out]
              obtain ⟨_, _, _, _, _, s8⟩ := OwI.cell (OwI.ext (OwI.ext O.out YI.out) x2) (k := ah) (by rw [placeK_len]; exact hal)
              exact ⟨s8.out _, ((Y.out.tr YI.out).tr x2).setNew (p := ⟨w1.heap.size, ah, none⟩) (Nat.le_refl _) _⟩
            clear s9 HPK rl rr
            go_wp2_with (first | go_quiet (fail) | go_region)
            go_roundw
            case rel => exact ⟨k + 1, by go_num, by omega, NX.out _ (by (repeat (first | assumption | exact Ext.rf _ | apply Ext.drew | apply Ext.drewN | apply Ext.alloc)))⟩
            case measure => simp [intOf]; omega
      · obtain rfl : k = l.length := by omega
        have q2 : ¬ (l.length : Int) < (l.length : Int) := by omega
        have FIN : Hid (OwnPost (intsN (sortP (ltC (cfR row)) l)) 0 w (.returned (.tuple #[.slice (some ⟨w1.heap.size, 0, none⟩) l.length l.length, .int .i64 0])) wo) := by
          refine ⟨some ⟨w1.heap.size, 0, none⟩, l.length, by rw [intsN_len, sortP_len], ?_, X1.out.tr HS.out.2⟩
          have h := HS.out.1
          rw [place_sort (cfR_weak row) hsrt.out] at h
          exact OwI.more h z1
        clear HS
        go_wp2_with (fail)
        go_ret2
        exact FIN.out
end Go.Proofs.YtpngflmngnjjoaaDoor
namespace Go.Proofs.YtpngflmngnjjoaaDoor
open Go.RowKit Go.ChangeShapes Go.WideShapes Go.ChangeAt Go.Deep

abbrev exR : List (List Int) := [[0, 5, 5], [5, 0, 5], [5, 5, 0]]
def exT : InstP := ⟨3, 3, 0, [], [], exR⟩
theorem exT_check : checkP exT = 0 := by decide
theorem exT_ok : RowsOk exR := rows_ok (square_ok (i := exT) exT_check (by decide))
theorem exT_mir : mirP exR = true := by decide
theorem exT_walk : walkP exR [] = some (6, 0, 0) := by decide +kernel
theorem exT_walk2 : walkP exR [2] = some (2, 2, 5) := by decide +kernel
theorem exT_bound : boundT exR true [] = (15, 0) := by decide +kernel
theorem exT_mems : memsM 2 = [1] := by decide +kernel
theorem exT_kids : kidsT exR [2] = ([1], 0) := by
  unfold kidsT
  rw [exT_walk2]
  simp only [exT_mems]
  simp [sortP, msortP, intsN]
theorem rdepth13_any (us : List Value) (i : InstP) (w : World) (H : RInst w us i) (h1 : 0 ≤ i.n) (h2 : i.n ≤ 1000) :
    Calls Tryd.prog 41 #[.agg (List.toArray us)] w fun e w' => e = .returned (.int .i64 (i.n - 1)) ∧ Ext w w' := by
  obtain ⟨kind, nn, cap, xw, xv, co⟩ := i
  obtain ⟨A, a, B, b, D, d, rfl, -, -, -⟩ := H
  simp only at *
  have hw : IntKind.i64.wrap (nn - 1) = nn - 1 := IntWalk.i64_in _ (by omega)
  go_enter Tryd.func41, Tryd.ntmps41
  go_wp2
  go_ret
  exact ⟨rfl, by (repeat (first | assumption | exact Ext.rf _ | apply Ext.drew | apply Ext.drewN | apply Ext.alloc))⟩
end Go.Proofs.YtpngflmngnjjoaaDoor
