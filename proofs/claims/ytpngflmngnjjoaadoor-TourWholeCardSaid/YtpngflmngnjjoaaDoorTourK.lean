/-
  The document's tour: what meets at each city, at least.
-/
import Derived.Test.YtpngflmngnjjoaaDoorTourI
import Derived.Test.YtpngflmngnjjoaaDoorTourV
namespace Go.Proofs.YtpngflmngnjjoaaDoor
open Go.RowKit Go.ChangeShapes Go.WideShapes Go.ChangeAt Go.Deep

/-- one number of the ways' costs, in memory -/
theorem cost_at {w : World} {D : Option Addr} {co : List (List Int)} (rok : RowsOk co) (hC : RdE 1 RInts w D co) {r c : Nat} (hr : r < co.length) (hc : c < co.length) :
    ∃ cb cof rb ro d', D = some ⟨cb, cof, none⟩ ∧ w.cell? ⟨cb, cof + r, none⟩ = some (.slice (some ⟨rb, ro, none⟩) co.length d') ∧ w.cell? ⟨rb, ro + c, none⟩ = some (.int .i64 (costAt co r c)) := by
  obtain ⟨cb, cof, D', row, d', rfl, zb, cD, er, _, rD, iD, ld, md⟩ := hC.ints hr
  have lrow := rok.row row (List.mem_of_getElem? er.out)
  obtain ⟨rb, ro, x, rfl, zx, cx, ex, _⟩ := rD.at (k := c) (by omega)
  refine ⟨cb, cof, rb, ro, d', rfl, by rw [cD, lrow], ?_⟩
  rw [cx]
  unfold costAt
  rw [getD_some er.out, getD_some ex.out]
theorem cost_in {w : World} {cb cof : Nat} {co : List (List Int)} (rok : RowsOk co) (hC : RdE 1 RInts w (some ⟨cb, cof, none⟩) co) {r c : Nat} (hr : r < co.length) (hc : c < co.length) :
    ∃ rb ro d', w.cell? ⟨cb, cof + r, none⟩ = some (.slice (some ⟨rb, ro, none⟩) co.length d') ∧ w.cell? ⟨rb, ro + c, none⟩ = some (.int .i64 (costAt co r c)) := by
  obtain ⟨cb', cof', rb, ro, d', h, h1, h2⟩ := cost_at rok hC hr hc
  obtain ⟨rfl, rfl⟩ : cb = cb' ∧ cof = cof' := by simpa using h
  exact ⟨rb, ro, d', h1, h2⟩
theorem ends_num {rows : List (List Int)} (ok : RowsOk rows) (a b : Nat) (ha : a < rows.length) (hb : b < rows.length) : 0 ≤ costAt rows a b ∧ costAt rows a b ≤ 2147483647 := by
  have e1 : rows[a]? = some rows[a] := List.getElem?_eq_getElem ha
  have e2 := ok.row _ (List.getElem_mem ha)
  have e3 : (rows[a])[b]? = some (rows[a])[b] := List.getElem?_eq_getElem (by omega)
  unfold costAt
  rw [getD_some e1, getD_some e3]
  exact ok.num _ (List.getElem_mem ha) _ (List.getElem_mem _)
theorem pairT_bd {rows : List (List Int)} {us : List Nat} {last : Nat} (num : ∀ a b, a < rows.length → b < rows.length → 0 ≤ costAt rows a b ∧ costAt rows a b ≤ 2147483647) (h0 : 0 < rows.length) (hl : last < rows.length) (hu : ∀ x ∈ us, x < rows.length) {y : Nat} (k0 : y < rows.length) : (0 ≤ (pairT rows us last y).1 ∧ (pairT rows us last y).1 ≤ 2147483647) ∧ 0 ≤ (pairT rows us last y).2 ∧ (pairT rows us last y).2 ≤ 2147483647 := by
  have k1 := num y last k0 hl
  have k2 := num y 0 k0 h0
  exact foldP_bd (B := 2147483647) (f := fun v => costAt rows y v) (us.filter fun j => decide (y ≠ j)) (min (costAt rows y last) (costAt rows y 0), max (costAt rows y last) (costAt rows y 0)) (by simp only; omega) (by simp only; omega) fun v hv => num y v k0 (hu v (List.mem_filter.1 hv).1)
set_option maxRecDepth 100000 in
set_option maxHeartbeats 4000000 in
theorem rends13_any (i : InstP) (us : List Value) (P : Option Addr) (pc : Nat) (l : List Nat) (last : Nat) (w : World) (H : RInst w us i) (rok : RowsOk i.cost) (hP : RdI w P (intsN l)) (hl : ∀ x ∈ l, x < i.cost.length) (hnd : l.Nodup) (hlen : l.length ≤ 24) (hla : last < i.cost.length) :
    Calls Tryd.prog 66 #[.agg (List.toArray us), .slice P l.length pc, .int .i64 last] w fun e w' => e = .returned (.int .i64 (endsT i.cost l last)) ∧ Ext w w' := by
  have h0 := rok.n1
  obtain ⟨kind, nn, cap, xw, xv, co⟩ := i
  obtain ⟨A, a, B, b, D, d, rfl, -, -, ⟨hC, -, -⟩⟩ := H
  simp only at *
  obtain ⟨cb, cof, _, _, _, rfl, _, _⟩ := cost_at rok hC (r := 0) (c := 0) (by omega) (by omega)
  have num := ends_num rok
  have CA := Lib.hid (fun (W : World) (x : Ext w W) (r c : Nat) (hr : r < co.length) (hc : c < co.length) => cost_in rok (hC.ext x fun _ _ h => h.ext x) hr hc)
  have B1 : Hid (Blk (w.alloc (.cells #[.int .i64 kind, .int .i64 nn, .int .i64 cap, .slice A xw.length a, .slice B xv.length b, .slice (some ⟨cb, cof, none⟩) co.length d] 25)) w.heap.size 25 #[.int .i64 kind, .int .i64 nn, .int .i64 cap, .slice A xw.length a, .slice B xv.length b, .slice (some ⟨cb, cof, none⟩) co.length d]) := .new rfl
  have X0 : Hid (Ext w (w.alloc (.cells #[.int .i64 kind, .int .i64 nn, .int .i64 cap, .slice A xw.length a, .slice B xv.length b, .slice (some ⟨cb, cof, none⟩) co.length d] 25))) := (Ext.rf _).alloc _
  have bsum : Hid (∀ k, 0 ≤ sumL ((l.take k).map fun u => (pairT co l last u).1 + (pairT co l last u).2) ∧ sumL ((l.take k).map fun u => (pairT co l last u).1 + (pairT co l last u).2) ≤ 4294967294 * 24) := fun k => by
    have h1 := sumL_map_bd (f := fun u => (pairT co l last u).1 + (pairT co l last u).2) (B := 4294967294) (l.take k) fun y hy => by
      have := pairT_bd num (by omega) hla hl (hl y (List.mem_of_mem_take hy))
      omega
    have h2 : (l.take k).length ≤ 24 := by rw [List.length_take]; omega
    omega
  have bfr : Hid (∀ k (f : Nat → Int), (∀ x, x < co.length → 0 ≤ f x ∧ f x ≤ 2147483647) → -2147483647 ≤ leastN f (-1) (l.take k) ∧ leastN f (-1) (l.take k) ≤ 2147483647) := fun k f hf =>
    leastN_bd (fun c hc => by have := hf c (hl c (List.mem_of_mem_take hc)); omega) (by omega) (by omega)
  replace hC := Lib.hid hC
  replace hP := Lib.hid hP
  replace hl := Lib.hid hl
  replace hnd := Lib.hid hnd
  replace num := Lib.hid num
  replace rok := Lib.hid rok
  go_enter Tryd.func66, Tryd.ntmps66
  go_wp2_with (fail)
  generalize w.alloc (.cells #[.int .i64 kind, .int .i64 nn, .int .i64 cap, .slice A xw.length a, .slice B xv.length b, .slice (some ⟨cb, cof, none⟩) co.length d] 25) = w1 at *
  go_loopw [7, 8, 9, 10] (fun s fr tq v wr => ∃ k : Nat, v = .int .i64 k ∧ s = .int .i64 (sumL ((l.take k).map fun u => (pairT co l last u).1 + (pairT co l last u).2)) ∧ fr = .int .i64 (leastN (fun u => costAt co last u) (-1) (l.take k)) ∧ tq = .int .i64 (leastN (fun u => costAt co u 0) (-1) (l.take k)) ∧ k ≤ l.length ∧ Hid (Ext w1 wr)) (fun _ _ _ v _ => l.length - (intOf v).toNat)
  case atStart => exact ⟨0, rfl, rfl, rfl, rfl, by omega, Ext.rf _⟩
  case round =>
    obtain ⟨wo, rfl⟩ : ∃ wo : World, wo = wr := ⟨_, rfl⟩
    obtain ⟨k, rfl, rfl, rfl, rfl, hk, Y⟩ := hrel
    by_cases hlt : k < l.length
    · obtain ⟨u, hux⟩ : ∃ u, Hid (u = l[k]) := ⟨l[k], rfl⟩
      have hu : u < co.length := by rw [hux.out]; exact hl.out _ (List.getElem_mem hlt)
      have euk : l[k]? = some u := by rw [hux.out]; exact List.getElem?_eq_getElem hlt
      have etk : l.take (k + 1) = l.take k ++ [u] := by rw [List.take_add_one, euk]; rfl
      obtain ⟨pb, po, xu, rfl, zp, cp, ep, _⟩ := (hP.out.ext (X0.out.tr Y.out)).at (k := k) (by rw [intsN_len]; exact hlt)
      have exu : xu = (u : Int) := by
        have h := ep.out
        rw [intsN_get euk] at h
        exact (Option.some.inj h).symm
      subst exu
      have zp1 : pb < wo.heap.size := zp
      have cp1 := cp
      obtain ⟨rb1, ro1, d1, c11, c12⟩ := CA.out _ (X0.out.tr Y.out) u last hu hla
      obtain ⟨rb2, ro2, d2, c21, c22⟩ := CA.out _ (X0.out.tr Y.out) u 0 hu h0
      obtain ⟨⟨rfl, rfl⟩, rfl⟩ : (rb1 = rb2 ∧ ro1 = ro2) ∧ d1 = d2 := by
        have h := c11.symm.trans c21
        simpa using h
      have b1 := num.out u last hu hla
      have b2 := num.out u 0 hu h0
      have b3 := num.out last u hla hu
      obtain ⟨y1, ey1⟩ : ∃ y1, Hid (costAt co u last = y1) := ⟨_, rfl⟩
      obtain ⟨y2, ey2⟩ : ∃ y2, Hid (costAt co u 0 = y2) := ⟨_, rfl⟩
      obtain ⟨y3, ey3⟩ : ∃ y3, Hid (costAt co last u = y3) := ⟨_, rfl⟩
      rw [ey1.out] at b1 c12
      rw [ey2.out] at b2 c22
      rw [ey3.out] at b3
      replace c22 : wo.cell? ⟨rb1, ro1, none⟩ = some (.int .i64 y2) := c22
      obtain ⟨pp, hpp⟩ : ∃ pp, Hid (pairT co l last u = pp) := ⟨_, rfl⟩
      have bpp := pairT_bd num.out (by omega) hla hl.out hu (us := l)
      rw [hpp.out] at bpp
      have bs := bsum.out k
      have eS : Hid (sumL ((l.take (k + 1)).map fun u => (pairT co l last u).1 + (pairT co l last u).2) = sumL ((l.take k).map fun u => (pairT co l last u).1 + (pairT co l last u).2) + pp.1 + pp.2) := by
        have h : sumL ((l.take (k + 1)).map fun u => (pairT co l last u).1 + (pairT co l last u).2) = sumL ((l.take k).map fun u => (pairT co l last u).1 + (pairT co l last u).2) + pp.1 + pp.2 := by
          rw [etk, List.map_append, List.map_cons, List.map_nil, sumA_snoc, hpp.out]; omega
        exact h
      have eF : Hid (leastN (fun u => costAt co last u) (-1) (l.take (k + 1)) = if leastN (fun u => costAt co last u) (-1) (l.take k) < 0 then y3 else if y3 < leastN (fun u => costAt co last u) (-1) (l.take k) then y3 else leastN (fun u => costAt co last u) (-1) (l.take k)) := by
        have h : leastN (fun u => costAt co last u) (-1) (l.take (k + 1)) = if leastN (fun u => costAt co last u) (-1) (l.take k) < 0 then y3 else if y3 < leastN (fun u => costAt co last u) (-1) (l.take k) then y3 else leastN (fun u => costAt co last u) (-1) (l.take k) := by
          rw [etk, leastN_snoc, ey3.out]
        exact h
      have eT : Hid (leastN (fun u => costAt co u 0) (-1) (l.take (k + 1)) = if leastN (fun u => costAt co u 0) (-1) (l.take k) < 0 then y2 else if y2 < leastN (fun u => costAt co u 0) (-1) (l.take k) then y2 else leastN (fun u => costAt co u 0) (-1) (l.take k)) := by
        have h : leastN (fun u => costAt co u 0) (-1) (l.take (k + 1)) = if leastN (fun u => costAt co u 0) (-1) (l.take k) < 0 then y2 else if y2 < leastN (fun u => costAt co u 0) (-1) (l.take k) then y2 else leastN (fun u => costAt co u 0) (-1) (l.take k) := by
          rw [etk, leastN_snoc, ey2.out]
        exact h
      have START0 : (l.filter fun x => decide (u ≠ x)).foldl (fun p v => putP p (costAt co u v)) (min y1 y2, max y1 y2) = pp := by rw [← hpp.out, ← ey1.out, ← ey2.out]; rfl
      generalize sumL ((l.take k).map fun u => (pairT co l last u).1 + (pairT co l last u).2) = su at *
      generalize leastN (fun u => costAt co last u) (-1) (l.take k) = fr at *
      generalize leastN (fun u => costAt co u 0) (-1) (l.take k) = tq at *
      have d5 : wo.cell? ⟨w.heap.size, 5, none⟩ = some (.slice (some ⟨cb, cof, none⟩) co.length d) := (B1.out.ext Y.out).cell 5
      have q1 : (k : Int) < (l.length : Int) := by omega
      have q6 : (last : Int) < (co.length : Int) := by omega
      have q7 : (u : Int) < (co.length : Int) := by omega
      have q8 : (0 : Int) < (co.length : Int) := by omega
      clear ep euk etk
      by_cases hsw : y2 < y1
      · have START : Hid (((l.drop 0).filter fun x => decide (u ≠ x)).foldl (fun p v => putP p (costAt co u v)) (y2, y1) = pp) := by
          have e1 : min y1 y2 = y2 := by omega
          have e2 : max y1 y2 = y1 := by omega
          have h := START0
          rw [e1, e2] at h
          exact h
        clear START0
        go_wp2_with (fail)
        go_quiet (fail)
        rename_i nq
        have Z0 : Hid (Ext wo (wo.drewN nq)) := (Ext.rf wo).drewN nq
        go_wp2_with (fail)
        generalize wo.drewN nq = w4 at *
        go_loopw [11, 12, 13] (fun a1 a2 v wr => ∃ (b : Nat) (p : Int × Int), v = .int .i64 b ∧ a1 = .int .i64 p.1 ∧ a2 = .int .i64 p.2 ∧ b ≤ l.length ∧ Hid (((l.drop b).filter fun x => decide (u ≠ x)).foldl (fun p v => putP p (costAt co u v)) p = pp) ∧ Hid (Ext wo wr)) (fun _ _ v _ => l.length - (intOf v).toNat)
        case atStart => exact ⟨0, (y2, y1), rfl, rfl, rfl, by omega, START, Z0.out⟩
        case round =>
          obtain ⟨w5, rfl⟩ : ∃ w5 : World, w5 = wr := ⟨_, rfl⟩
          obtain ⟨b, ⟨o1, o2⟩, rfl, rfl, rfl, hb, HF, Z⟩ := hrel
          simp only
          by_cases hlb : b < l.length
          · have eb : l[b]? = some l[b] := List.getElem?_eq_getElem hlb
            have hv := hl.out _ (List.getElem_mem hlb)
            have edb : l.drop b = l[b] :: l.drop (b + 1) := List.drop_eq_getElem_cons hlb
            have hne : b ≠ k → u ≠ l[b] := fun h1 h2 => h1 ((List.getElem_inj hnd.out).1 (by rw [← h2, hux.out]))
            have heq : b = k → u = l[b] := fun h1 => by subst h1; exact hux.out
            obtain ⟨pb2, po2, xv, hPq, zp2, cp2, ep2, _⟩ := (hP.out.ext (X0.out.tr (Y.out.tr Z.out))).at (k := b) (by rw [intsN_len]; exact hlb)
            obtain ⟨rfl, rfl⟩ : pb = pb2 ∧ po = po2 := by simpa using hPq
            have exv : xv = ((l[b] : Nat) : Int) := by
              have h := ep2.out
              rw [intsN_get eb] at h
              exact (Option.some.inj h).symm
            subst exv
            have HF2 := HF.out
            rw [edb, List.filter_cons] at HF2
            generalize l[b] = v at *
            clear HF eb edb ep2 hPq
            have d5 : w5.cell? ⟨w.heap.size, 5, none⟩ = some (.slice (some ⟨cb, cof, none⟩) co.length d) := (B1.out.ext (Y.out.tr Z.out)).cell 5
            have q2 : (b : Int) < (l.length : Int) := by omega
            have p5 : w5.cell? ⟨pb, po + k, none⟩ = some (.int .i64 (u : Int)) := keepEL Z.out zp1 cp1
            by_cases hbk : b = k
            · have tb : ((b : Int) == (k : Int)) = true := by rw [hbk]; simp
              have HF3 : Hid (((l.drop (b + 1)).filter fun x => decide (u ≠ x)).foldl (fun p v => putP p (costAt co u v)) (o1, o2) = pp) := by
                rw [if_neg (by simp [heq hbk])] at HF2
                exact HF2
              clear HF2 hne heq
              replace hbk := Lib.hid hbk
              go_wp2_with (fail)
              go_roundw
              case rel => exact ⟨b + 1, (o1, o2), by go_num, rfl, rfl, by omega, HF3, Z.out⟩
              case measure => simp [intOf]; omega
            · have tb : ((b : Int) == (k : Int)) = false := by simp; omega
              obtain ⟨rb5, ro5, d5', c51, c52⟩ := CA.out _ (X0.out.tr (Y.out.tr Z.out)) u v hu hv
              have nv := num.out u v hu hv
              rw [if_pos (by simp [hne hbk]), List.foldl_cons] at HF2
              obtain ⟨cv, hcv⟩ : ∃ cv, Hid (costAt co u v = cv) := ⟨_, rfl⟩
              rw [hcv.out] at HF2 c52 nv
              have q3 : (u : Int) < (co.length : Int) := by omega
              have q4 : (v : Int) < (co.length : Int) := by omega
              clear hne heq
              replace hbk := Lib.hid hbk
              unfold putP at HF2
              simp only at HF2
              by_cases h1 : cv < o1
              · rw [if_pos h1] at HF2
                have HF3 := Lib.hid HF2
                clear HF2
                go_wp2_with (fail)
                go_quiet (fail)
                go_wp2_with (fail)
                go_roundw
                case rel => exact ⟨b + 1, (cv, o1), by go_num, rfl, rfl, by omega, HF3, Z.out.drewN _⟩
                case measure => simp [intOf]; omega
              · rw [if_neg h1] at HF2
                by_cases h2 : cv < o2
                · rw [if_pos h2] at HF2
                  have HF3 := Lib.hid HF2
                  clear HF2
                  go_wp2_with (fail)
                  go_quiet (fail)
                  go_wp2_with (fail)
                  go_roundw
                  case rel => exact ⟨b + 1, (o1, cv), by go_num, rfl, rfl, by omega, HF3, Z.out.drewN _⟩
                  case measure => simp [intOf]; omega
                · rw [if_neg h2] at HF2
                  have HF3 := Lib.hid HF2
                  clear HF2
                  go_wp2_with (fail)
                  go_quiet (fail)
                  go_wp2_with (fail)
                  go_roundw
                  case rel => exact ⟨b + 1, (o1, o2), by go_num, rfl, rfl, by omega, HF3, Z.out.drewN _⟩
                  case measure => simp [intOf]; omega
          · obtain rfl : b = l.length := by omega
            have q2 : ¬ ((l.length : Int) < (l.length : Int)) := by omega
            have HF2 := HF.out
            rw [List.drop_length] at HF2
            obtain rfl : (o1, o2) = pp := HF2
            simp only at bpp eS
            have hw1 : IntKind.i64.wrap (su + o1) = su + o1 := IntWalk.i64_in _ (by omega)
            have hw2 : IntKind.i64.wrap (su + o1 + o2) = su + o1 + o2 := IntWalk.i64_in _ (by omega)
            clear HF START
            obtain ⟨rb3, ro3, d3, c31, c32⟩ := CA.out _ (X0.out.tr (Y.out.tr Z.out)) last u hla hu
            rw [ey3.out] at c32
            have d53 : w5.cell? ⟨w.heap.size, 5, none⟩ = some (.slice (some ⟨cb, cof, none⟩) co.length d) := (B1.out.ext (Y.out.tr Z.out)).cell 5
            have p3 : w5.cell? ⟨pb, po + k, none⟩ = some (.int .i64 (u : Int)) := keepEL Z.out zp1 cp1
            by_cases hn1 : fr < 0
            · rw [if_pos hn1] at eF
              go_wp2_with (fail)
              go_quiet (fail)
              rename_i nq
              have Z2 : Hid (Ext wo (w5.drewN nq)) := Z.out.drewN nq
              go_wp2_with (fail)
              generalize w5.drewN nq = w7 at *
              obtain ⟨rb4, ro4, d4, c41, c42⟩ := CA.out _ (X0.out.tr (Y.out.tr Z2.out)) u 0 hu h0
              rw [ey2.out] at c42
              replace c42 : w7.cell? ⟨rb4, ro4, none⟩ = some (.int .i64 y2) := c42
              have d54 : w7.cell? ⟨w.heap.size, 5, none⟩ = some (.slice (some ⟨cb, cof, none⟩) co.length d) := (B1.out.ext (Y.out.tr Z2.out)).cell 5
              have p4 : w7.cell? ⟨pb, po + k, none⟩ = some (.int .i64 (u : Int)) := keepEL Z2.out zp1 cp1
              by_cases hn2 : tq < 0
              · rw [if_pos hn2] at eT
                go_wp2_with (fail)
                go_quiet (fail)
                go_wp2_with (fail)
                go_roundw
                case rel => exact ⟨k + 1, by go_num, by rw [eS.out], by rw [eF.out], by rw [eT.out], by omega, Y.out.tr (Z2.out.drewN _)⟩
                case measure => simp [intOf]; omega
              · rw [if_neg hn2] at eT
                by_cases hl2 : y2 < tq
                · rw [if_pos hl2] at eT
                  go_wp2_with (fail)
                  go_quiet (fail)
                  go_wp2_with (fail)
                  go_roundw
                  case rel => exact ⟨k + 1, by go_num, by rw [eS.out], by rw [eF.out], by rw [eT.out], by omega, Y.out.tr (Z2.out.drewN _)⟩
                  case measure => simp [intOf]; omega
                · rw [if_neg hl2] at eT
                  go_wp2_with (fail)
                  go_quiet (fail)
                  go_wp2_with (fail)
                  go_roundw
                  case rel => exact ⟨k + 1, by go_num, by rw [eS.out], by rw [eF.out], by rw [eT.out], by omega, Y.out.tr (Z2.out.drewN _)⟩
                  case measure => simp [intOf]; omega
            · rw [if_neg hn1] at eF
              by_cases hl1 : y3 < fr
              · rw [if_pos hl1] at eF
                go_wp2_with (fail)
                go_quiet (fail)
                rename_i nq
                have Z2 : Hid (Ext wo (w5.drewN nq)) := Z.out.drewN nq
                go_wp2_with (fail)
                generalize w5.drewN nq = w7 at *
                obtain ⟨rb4, ro4, d4, c41, c42⟩ := CA.out _ (X0.out.tr (Y.out.tr Z2.out)) u 0 hu h0
                rw [ey2.out] at c42
                replace c42 : w7.cell? ⟨rb4, ro4, none⟩ = some (.int .i64 y2) := c42
                have d54 : w7.cell? ⟨w.heap.size, 5, none⟩ = some (.slice (some ⟨cb, cof, none⟩) co.length d) := (B1.out.ext (Y.out.tr Z2.out)).cell 5
                have p4 : w7.cell? ⟨pb, po + k, none⟩ = some (.int .i64 (u : Int)) := keepEL Z2.out zp1 cp1
                by_cases hn2 : tq < 0
                · rw [if_pos hn2] at eT
                  go_wp2_with (fail)
                  go_quiet (fail)
                  go_wp2_with (fail)
                  go_roundw
                  case rel => exact ⟨k + 1, by go_num, by rw [eS.out], by rw [eF.out], by rw [eT.out], by omega, Y.out.tr (Z2.out.drewN _)⟩
                  case measure => simp [intOf]; omega
                · rw [if_neg hn2] at eT
                  by_cases hl2 : y2 < tq
                  · rw [if_pos hl2] at eT
                    go_wp2_with (fail)
                    go_quiet (fail)
                    go_wp2_with (fail)
                    go_roundw
                    case rel => exact ⟨k + 1, by go_num, by rw [eS.out], by rw [eF.out], by rw [eT.out], by omega, Y.out.tr (Z2.out.drewN _)⟩
                    case measure => simp [intOf]; omega
                  · rw [if_neg hl2] at eT
                    go_wp2_with (fail)
                    go_quiet (fail)
                    go_wp2_with (fail)
                    go_roundw
                    case rel => exact ⟨k + 1, by go_num, by rw [eS.out], by rw [eF.out], by rw [eT.out], by omega, Y.out.tr (Z2.out.drewN _)⟩
                    case measure => simp [intOf]; omega
              · rw [if_neg hl1] at eF
                go_wp2_with (fail)
                go_quiet (fail)
                rename_i nq
                have Z2 : Hid (Ext wo (w5.drewN nq)) := Z.out.drewN nq
                go_wp2_with (fail)
                generalize w5.drewN nq = w7 at *
                obtain ⟨rb4, ro4, d4, c41, c42⟩ := CA.out _ (X0.out.tr (Y.out.tr Z2.out)) u 0 hu h0
                rw [ey2.out] at c42
                replace c42 : w7.cell? ⟨rb4, ro4, none⟩ = some (.int .i64 y2) := c42
                have d54 : w7.cell? ⟨w.heap.size, 5, none⟩ = some (.slice (some ⟨cb, cof, none⟩) co.length d) := (B1.out.ext (Y.out.tr Z2.out)).cell 5
                have p4 : w7.cell? ⟨pb, po + k, none⟩ = some (.int .i64 (u : Int)) := keepEL Z2.out zp1 cp1
                by_cases hn2 : tq < 0
                · rw [if_pos hn2] at eT
                  go_wp2_with (fail)
                  go_quiet (fail)
                  go_wp2_with (fail)
                  go_roundw
                  case rel => exact ⟨k + 1, by go_num, by rw [eS.out], by rw [eF.out], by rw [eT.out], by omega, Y.out.tr (Z2.out.drewN _)⟩
                  case measure => simp [intOf]; omega
                · rw [if_neg hn2] at eT
                  by_cases hl2 : y2 < tq
                  · rw [if_pos hl2] at eT
                    go_wp2_with (fail)
                    go_quiet (fail)
                    go_wp2_with (fail)
                    go_roundw
                    case rel => exact ⟨k + 1, by go_num, by rw [eS.out], by rw [eF.out], by rw [eT.out], by omega, Y.out.tr (Z2.out.drewN _)⟩
                    case measure => simp [intOf]; omega
                  · rw [if_neg hl2] at eT
                    go_wp2_with (fail)
                    go_quiet (fail)
                    go_wp2_with (fail)
                    go_roundw
                    case rel => exact ⟨k + 1, by go_num, by rw [eS.out], by rw [eF.out], by rw [eT.out], by omega, Y.out.tr (Z2.out.drewN _)⟩
                    case measure => simp [intOf]; omega
      · have START : Hid (((l.drop 0).filter fun x => decide (u ≠ x)).foldl (fun p v => putP p (costAt co u v)) (y1, y2) = pp) := by
          have e1 : min y1 y2 = y1 := by omega
          have e2 : max y1 y2 = y2 := by omega
          have h := START0
          rw [e1, e2] at h
          exact h
        clear START0
        go_wp2_with (fail)
        go_quiet (fail)
        rename_i nq
        have Z0 : Hid (Ext wo (wo.drewN nq)) := (Ext.rf wo).drewN nq
        go_wp2_with (fail)
        generalize wo.drewN nq = w4 at *
        go_loopw [11, 12, 13] (fun a1 a2 v wr => ∃ (b : Nat) (p : Int × Int), v = .int .i64 b ∧ a1 = .int .i64 p.1 ∧ a2 = .int .i64 p.2 ∧ b ≤ l.length ∧ Hid (((l.drop b).filter fun x => decide (u ≠ x)).foldl (fun p v => putP p (costAt co u v)) p = pp) ∧ Hid (Ext wo wr)) (fun _ _ v _ => l.length - (intOf v).toNat)
        case atStart => exact ⟨0, (y1, y2), rfl, rfl, rfl, by omega, START, Z0.out⟩
        case round =>
          obtain ⟨w5, rfl⟩ : ∃ w5 : World, w5 = wr := ⟨_, rfl⟩
          obtain ⟨b, ⟨o1, o2⟩, rfl, rfl, rfl, hb, HF, Z⟩ := hrel
          simp only
          by_cases hlb : b < l.length
          · have eb : l[b]? = some l[b] := List.getElem?_eq_getElem hlb
            have hv := hl.out _ (List.getElem_mem hlb)
            have edb : l.drop b = l[b] :: l.drop (b + 1) := List.drop_eq_getElem_cons hlb
            have hne : b ≠ k → u ≠ l[b] := fun h1 h2 => h1 ((List.getElem_inj hnd.out).1 (by rw [← h2, hux.out]))
            have heq : b = k → u = l[b] := fun h1 => by subst h1; exact hux.out
            obtain ⟨pb2, po2, xv, hPq, zp2, cp2, ep2, _⟩ := (hP.out.ext (X0.out.tr (Y.out.tr Z.out))).at (k := b) (by rw [intsN_len]; exact hlb)
            obtain ⟨rfl, rfl⟩ : pb = pb2 ∧ po = po2 := by simpa using hPq
            have exv : xv = ((l[b] : Nat) : Int) := by
              have h := ep2.out
              rw [intsN_get eb] at h
              exact (Option.some.inj h).symm
            subst exv
            have HF2 := HF.out
            rw [edb, List.filter_cons] at HF2
            generalize l[b] = v at *
            clear HF eb edb ep2 hPq
            have d5 : w5.cell? ⟨w.heap.size, 5, none⟩ = some (.slice (some ⟨cb, cof, none⟩) co.length d) := (B1.out.ext (Y.out.tr Z.out)).cell 5
            have q2 : (b : Int) < (l.length : Int) := by omega
            have p5 : w5.cell? ⟨pb, po + k, none⟩ = some (.int .i64 (u : Int)) := keepEL Z.out zp1 cp1
            by_cases hbk : b = k
            · have tb : ((b : Int) == (k : Int)) = true := by rw [hbk]; simp
              have HF3 : Hid (((l.drop (b + 1)).filter fun x => decide (u ≠ x)).foldl (fun p v => putP p (costAt co u v)) (o1, o2) = pp) := by
                rw [if_neg (by simp [heq hbk])] at HF2
                exact HF2
              clear HF2 hne heq
              replace hbk := Lib.hid hbk
              go_wp2_with (fail)
              go_roundw
              case rel => exact ⟨b + 1, (o1, o2), by go_num, rfl, rfl, by omega, HF3, Z.out⟩
              case measure => simp [intOf]; omega
            · have tb : ((b : Int) == (k : Int)) = false := by simp; omega
              obtain ⟨rb5, ro5, d5', c51, c52⟩ := CA.out _ (X0.out.tr (Y.out.tr Z.out)) u v hu hv
              have nv := num.out u v hu hv
              rw [if_pos (by simp [hne hbk]), List.foldl_cons] at HF2
              obtain ⟨cv, hcv⟩ : ∃ cv, Hid (costAt co u v = cv) := ⟨_, rfl⟩
              rw [hcv.out] at HF2 c52 nv
              have q3 : (u : Int) < (co.length : Int) := by omega
              have q4 : (v : Int) < (co.length : Int) := by omega
              clear hne heq
              replace hbk := Lib.hid hbk
              unfold putP at HF2
              simp only at HF2
              by_cases h1 : cv < o1
              · rw [if_pos h1] at HF2
                have HF3 := Lib.hid HF2
                clear HF2
                go_wp2_with (fail)
                go_quiet (fail)
                go_wp2_with (fail)
                go_roundw
                case rel => exact ⟨b + 1, (cv, o1), by go_num, rfl, rfl, by omega, HF3, Z.out.drewN _⟩
                case measure => simp [intOf]; omega
              · rw [if_neg h1] at HF2
                by_cases h2 : cv < o2
                · rw [if_pos h2] at HF2
                  have HF3 := Lib.hid HF2
                  clear HF2
                  go_wp2_with (fail)
                  go_quiet (fail)
                  go_wp2_with (fail)
                  go_roundw
                  case rel => exact ⟨b + 1, (o1, cv), by go_num, rfl, rfl, by omega, HF3, Z.out.drewN _⟩
                  case measure => simp [intOf]; omega
                · rw [if_neg h2] at HF2
                  have HF3 := Lib.hid HF2
                  clear HF2
                  go_wp2_with (fail)
                  go_quiet (fail)
                  go_wp2_with (fail)
                  go_roundw
                  case rel => exact ⟨b + 1, (o1, o2), by go_num, rfl, rfl, by omega, HF3, Z.out.drewN _⟩
                  case measure => simp [intOf]; omega
          · obtain rfl : b = l.length := by omega
            have q2 : ¬ ((l.length : Int) < (l.length : Int)) := by omega
            have HF2 := HF.out
            rw [List.drop_length] at HF2
            obtain rfl : (o1, o2) = pp := HF2
            simp only at bpp eS
            have hw1 : IntKind.i64.wrap (su + o1) = su + o1 := IntWalk.i64_in _ (by omega)
            have hw2 : IntKind.i64.wrap (su + o1 + o2) = su + o1 + o2 := IntWalk.i64_in _ (by omega)
            clear HF START
            obtain ⟨rb3, ro3, d3, c31, c32⟩ := CA.out _ (X0.out.tr (Y.out.tr Z.out)) last u hla hu
            rw [ey3.out] at c32
            have d53 : w5.cell? ⟨w.heap.size, 5, none⟩ = some (.slice (some ⟨cb, cof, none⟩) co.length d) := (B1.out.ext (Y.out.tr Z.out)).cell 5
            have p3 : w5.cell? ⟨pb, po + k, none⟩ = some (.int .i64 (u : Int)) := keepEL Z.out zp1 cp1
            by_cases hn1 : fr < 0
            · rw [if_pos hn1] at eF
              go_wp2_with (fail)
              go_quiet (fail)
              rename_i nq
              have Z2 : Hid (Ext wo (w5.drewN nq)) := Z.out.drewN nq
              go_wp2_with (fail)
              generalize w5.drewN nq = w7 at *
              obtain ⟨rb4, ro4, d4, c41, c42⟩ := CA.out _ (X0.out.tr (Y.out.tr Z2.out)) u 0 hu h0
              rw [ey2.out] at c42
              replace c42 : w7.cell? ⟨rb4, ro4, none⟩ = some (.int .i64 y2) := c42
              have d54 : w7.cell? ⟨w.heap.size, 5, none⟩ = some (.slice (some ⟨cb, cof, none⟩) co.length d) := (B1.out.ext (Y.out.tr Z2.out)).cell 5
              have p4 : w7.cell? ⟨pb, po + k, none⟩ = some (.int .i64 (u : Int)) := keepEL Z2.out zp1 cp1
              by_cases hn2 : tq < 0
              · rw [if_pos hn2] at eT
                go_wp2_with (fail)
                go_quiet (fail)
                go_wp2_with (fail)
                go_roundw
                case rel => exact ⟨k + 1, by go_num, by rw [eS.out], by rw [eF.out], by rw [eT.out], by omega, Y.out.tr (Z2.out.drewN _)⟩
                case measure => simp [intOf]; omega
              · rw [if_neg hn2] at eT
                by_cases hl2 : y2 < tq
                · rw [if_pos hl2] at eT
                  go_wp2_with (fail)
                  go_quiet (fail)
                  go_wp2_with (fail)
                  go_roundw
                  case rel => exact ⟨k + 1, by go_num, by rw [eS.out], by rw [eF.out], by rw [eT.out], by omega, Y.out.tr (Z2.out.drewN _)⟩
                  case measure => simp [intOf]; omega
                · rw [if_neg hl2] at eT
                  go_wp2_with (fail)
                  go_quiet (fail)
                  go_wp2_with (fail)
                  go_roundw
                  case rel => exact ⟨k + 1, by go_num, by rw [eS.out], by rw [eF.out], by rw [eT.out], by omega, Y.out.tr (Z2.out.drewN _)⟩
                  case measure => simp [intOf]; omega
            · rw [if_neg hn1] at eF
              by_cases hl1 : y3 < fr
              · rw [if_pos hl1] at eF
                go_wp2_with (fail)
                go_quiet (fail)
                rename_i nq
                have Z2 : Hid (Ext wo (w5.drewN nq)) := Z.out.drewN nq
                go_wp2_with (fail)
                generalize w5.drewN nq = w7 at *
                obtain ⟨rb4, ro4, d4, c41, c42⟩ := CA.out _ (X0.out.tr (Y.out.tr Z2.out)) u 0 hu h0
                rw [ey2.out] at c42
                replace c42 : w7.cell? ⟨rb4, ro4, none⟩ = some (.int .i64 y2) := c42
                have d54 : w7.cell? ⟨w.heap.size, 5, none⟩ = some (.slice (some ⟨cb, cof, none⟩) co.length d) := (B1.out.ext (Y.out.tr Z2.out)).cell 5
                have p4 : w7.cell? ⟨pb, po + k, none⟩ = some (.int .i64 (u : Int)) := keepEL Z2.out zp1 cp1
                by_cases hn2 : tq < 0
                · rw [if_pos hn2] at eT
                  go_wp2_with (fail)
                  go_quiet (fail)
                  go_wp2_with (fail)
                  go_roundw
                  case rel => exact ⟨k + 1, by go_num, by rw [eS.out], by rw [eF.out], by rw [eT.out], by omega, Y.out.tr (Z2.out.drewN _)⟩
                  case measure => simp [intOf]; omega
                · rw [if_neg hn2] at eT
                  by_cases hl2 : y2 < tq
                  · rw [if_pos hl2] at eT
                    go_wp2_with (fail)
                    go_quiet (fail)
                    go_wp2_with (fail)
                    go_roundw
                    case rel => exact ⟨k + 1, by go_num, by rw [eS.out], by rw [eF.out], by rw [eT.out], by omega, Y.out.tr (Z2.out.drewN _)⟩
                    case measure => simp [intOf]; omega
                  · rw [if_neg hl2] at eT
                    go_wp2_with (fail)
                    go_quiet (fail)
                    go_wp2_with (fail)
                    go_roundw
                    case rel => exact ⟨k + 1, by go_num, by rw [eS.out], by rw [eF.out], by rw [eT.out], by omega, Y.out.tr (Z2.out.drewN _)⟩
                    case measure => simp [intOf]; omega
              · rw [if_neg hl1] at eF
                go_wp2_with (fail)
                go_quiet (fail)
                rename_i nq
                have Z2 : Hid (Ext wo (w5.drewN nq)) := Z.out.drewN nq
                go_wp2_with (fail)
                generalize w5.drewN nq = w7 at *
                obtain ⟨rb4, ro4, d4, c41, c42⟩ := CA.out _ (X0.out.tr (Y.out.tr Z2.out)) u 0 hu h0
                rw [ey2.out] at c42
                replace c42 : w7.cell? ⟨rb4, ro4, none⟩ = some (.int .i64 y2) := c42
                have d54 : w7.cell? ⟨w.heap.size, 5, none⟩ = some (.slice (some ⟨cb, cof, none⟩) co.length d) := (B1.out.ext (Y.out.tr Z2.out)).cell 5
                have p4 : w7.cell? ⟨pb, po + k, none⟩ = some (.int .i64 (u : Int)) := keepEL Z2.out zp1 cp1
                by_cases hn2 : tq < 0
                · rw [if_pos hn2] at eT
                  go_wp2_with (fail)
                  go_quiet (fail)
                  go_wp2_with (fail)
                  go_roundw
                  case rel => exact ⟨k + 1, by go_num, by rw [eS.out], by rw [eF.out], by rw [eT.out], by omega, Y.out.tr (Z2.out.drewN _)⟩
                  case measure => simp [intOf]; omega
                · rw [if_neg hn2] at eT
                  by_cases hl2 : y2 < tq
                  · rw [if_pos hl2] at eT
                    go_wp2_with (fail)
                    go_quiet (fail)
                    go_wp2_with (fail)
                    go_roundw
                    case rel => exact ⟨k + 1, by go_num, by rw [eS.out], by rw [eF.out], by rw [eT.out], by omega, Y.out.tr (Z2.out.drewN _)⟩
                    case measure => simp [intOf]; omega
                  · rw [if_neg hl2] at eT
                    go_wp2_with (fail)
                    go_quiet (fail)
                    go_wp2_with (fail)
                    go_roundw
                    case rel => exact ⟨k + 1, by go_num, by rw [eS.out], by rw [eF.out], by rw [eT.out], by omega, Y.out.tr (Z2.out.drewN _)⟩
                    case measure => simp [intOf]; omega
    · obtain rfl : k = l.length := by omega
      have q2 : ¬ ((l.length : Int) < (l.length : Int)) := by omega
      have bs := bsum.out l.length
      have bf1 := bfr.out l.length (fun u => costAt co last u) fun x hx => num.out last x hla hx
      have bf2 := bfr.out l.length (fun u => costAt co u 0) fun x hx => num.out x 0 hx (by omega)
      rw [List.take_length] at *
      have hw1 : IntKind.i64.wrap (sumL (l.map fun u => (pairT co l last u).1 + (pairT co l last u).2) + leastN (fun u => costAt co last u) (-1) l) = sumL (l.map fun u => (pairT co l last u).1 + (pairT co l last u).2) + leastN (fun u => costAt co last u) (-1) l := IntWalk.i64_in _ (by omega)
      have hw2 : IntKind.i64.wrap (sumL (l.map fun u => (pairT co l last u).1 + (pairT co l last u).2) + leastN (fun u => costAt co last u) (-1) l + leastN (fun u => costAt co u 0) (-1) l) = endsT co l last := IntWalk.i64_in _ (by omega)
      go_wp2_with (fail)
      go_ret
      exact ⟨rfl, X0.out.tr Y.out⟩
end Go.Proofs.YtpngflmngnjjoaaDoor
