/-
  The document's kernel of a knapsack: what may follow.
  The document's kernel of a knapsack: Answer.
-/
import Derived.Test.YtpfdkocelmmllaaRefKA
namespace Go.Proofs.Ytpfdkocelmmllaa
open Go.RowKit Go.ChangeShapes Go.WideShapes Go.ChangeAt Go.Deep

set_option maxRecDepth 100000 in
set_option maxHeartbeats 4000000 in
theorem rkids_any (i : InstP) (us : List Value) (P : Option Addr) (c : Nat) (p : List Int) (w : World) (H : RInst w us i) (ok : KnapOk i) (hP : RdI w P p) (lp : p.length ≤ 1000000000) :
    Calls Try.prog 24 #[.agg (List.toArray us), .slice P p.length c] w (KidsPost (kidsP i.cap (wsP i) (vsP i) p).1 (kidsP i.cap (wsP i) (vsP i) p).2 w) := by
  have K := kok ok
  have lN := orderP_len ok
  have ST := fun (W : World) (x : Ext w W) => rstate_any i us P c p W (H.ext x) ok (hP.ext x) lp
  have LM : ∀ k q, (orderP i)[k]? = some q → q < i.weight.length := fun k q h => by
    have h1 := ratioP_lt h
    have := ok.w
    have := ok.v
    omega
  have EW : ∀ k q x, (orderP i)[k]? = some q → i.weight[q]? = some x → (wsP i)[k]? = some x := fun k q x h1 h2 => inOrder_get h1 h2
  have K2 := K.l64
  have K3 := K.lw
  generalize orderP i = l at *
  generalize wsP i = ws at *
  generalize vsP i = vs at *
  clear K ok
  obtain ⟨kind, nn, cap, xw, xv, co⟩ := i
  obtain ⟨A, a, B, b, D, d, rfl, ⟨rA, iA, lA, mA⟩, -, -⟩ := H
  simp only at *
  obtain ⟨n, rfl⟩ : ∃ n : Nat, nn = (n : Int) := ⟨nn.toNat, by omega⟩
  have hn : l.length = n := by omega
  clear lN
  have hn2 : n ≤ 64 := by omega
  replace ST := Lib.hid ST
  replace LM := Lib.hid LM
  replace EW := Lib.hid EW
  replace K3 := Lib.hid K3
  replace rA := Lib.hid rA
  replace iA := Lib.hid iA
  replace mA := Lib.hid mA
  replace hn := Lib.hid hn
  have B1 : Hid (Blk (w.alloc (.cells #[.int .i64 kind, .int .i64 n, .int .i64 cap, .slice A xw.length a, .slice B xv.length b, .slice D co.length d] 25)) w.heap.size 25 #[.int .i64 kind, .int .i64 n, .int .i64 cap, .slice A xw.length a, .slice B xv.length b, .slice D co.length d]) := .new rfl
  obtain ⟨ks, hks⟩ : ∃ ks, Hid (kidsP cap ws vs p = ks) := ⟨_, rfl⟩
  rw [hks.out]
  have HK : ∀ o, stP cap 0 ws vs p = o → ks = (match o with
    | none => ([], 1)
    | some (room, _) => match ws.drop p.length with
      | [] => ([], 0)
      | u :: _ => if u ≤ room then ([1, 0], 0) else ([0], 0)) := fun o ho => by subst ho; exact hks.out.symm
  have HL : Hid (∀ q, stP cap 0 ws vs p = some q → p.length ≤ n) := fun q hq => by
    by_cases h : ws.length < p.length
    · rw [stP_long h] at hq; cases hq
    · have h3 := K3.out; have h4 := hn.out; omega
  replace HK := Lib.hid HK
  obtain ⟨st, hst⟩ : ∃ st, Hid (stP cap 0 ws vs p = st) := ⟨_, rfl⟩
  rw [hst.out] at ST
  have HK2 := HK.out _ hst.out
  clear HK hks
  rcases st with _ | ⟨room, out⟩
  · simp only at HK2
    subst HK2
    go_enter Try.func24, Try.ntmps24
    go_wp2_with (fail)
    refine (ST.out _ (by (repeat (first | assumption | exact Ext.rf _ | apply Ext.drew | apply Ext.drewN | apply Ext.alloc)))).mono ?_
    rintro e w1 ⟨x1, rfl⟩
    have X1 := Ext.tr (a := w) (by (repeat (first | assumption | exact Ext.rf _ | apply Ext.drew | apply Ext.drewN | apply Ext.alloc))) x1
    go_wp2
    go_ret2
    exact ⟨none, 0, rfl, .inl rfl, by simp, by omega, X1⟩
  · have hle := HL.out _ hst.out
    simp only at HK2
    by_cases hpl : p.length = n
    · have hd : ws.drop p.length = [] := List.drop_of_length_le (by have h3 := K3.out; have h4 := hn.out; omega)
      rw [hd] at HK2
      simp only at HK2
      subst HK2
      have hpl' : ((p.length : Int) == (n : Int)) = true := by rw [beq_iff_eq]; omega
      clear hd hpl
      go_enter Try.func24, Try.ntmps24
      go_wp2_with (fail)
      refine (ST.out _ (by (repeat (first | assumption | exact Ext.rf _ | apply Ext.drew | apply Ext.drewN | apply Ext.alloc)))).mono ?_
      rintro e w1 ⟨x1, LA, lc, rfl, rL⟩
      have X1 := Ext.tr (a := w) (by (repeat (first | assumption | exact Ext.rf _ | apply Ext.drew | apply Ext.drewN | apply Ext.alloc))) x1
      have d1 : w1.cell? ⟨w.heap.size, 1, none⟩ = some (.int .i64 n) := (B1.out.ext x1).cell 1
      go_wp2
      go_ret2
      exact ⟨none, 0, rfl, .inl rfl, by simp, by omega, X1⟩
    · have hpn : p.length < n := by omega
      have hpl' : ((p.length : Int) == (n : Int)) = false := by rw [beq_eq_false_iff_ne]; omega
      have hkl : p.length < l.length := by rw [hn.out]; exact hpn
      obtain ⟨q, hq0⟩ : ∃ q, Hid (l[p.length]? = some q) := ⟨l[p.length], List.getElem?_eq_getElem hkl⟩
      have hqw := LM.out _ q hq0.out
      obtain ⟨wb, wo, u, rfl, zu, cu, eu, _⟩ := rA.out.at hqw
      have du : ws.drop p.length = u :: ws.drop (p.length + 1) := by
        obtain ⟨h1, h2⟩ := List.getElem?_eq_some_iff.1 (EW.out _ q u hq0.out eu.out)
        rw [List.drop_eq_getElem_cons h1, h2]
      rw [du] at HK2
      simp only at HK2
      have qi1 : (q : Int) < (xw.length : Int) := by omega
      have qi3 : (p.length : Int) < (l.length : Int) := by omega
      clear du hpl eu
      have step : ∀ (W : World), W.cell? ⟨w.heap.size, 1, none⟩ = some (.int .i64 n) → True := fun _ _ => trivial
      clear step
      by_cases hu : u ≤ room
      · rw [if_pos hu] at HK2
        subst HK2
        go_enter Try.func24, Try.ntmps24
        go_wp2_with (fail)
        refine (ST.out _ (by (repeat (first | assumption | exact Ext.rf _ | apply Ext.drew | apply Ext.drewN | apply Ext.alloc)))).mono ?_
        rintro e w1 ⟨x1, LA, lc, rfl, rL⟩
        have X1 := Ext.tr (a := w) (by (repeat (first | assumption | exact Ext.rf _ | apply Ext.drew | apply Ext.drewN | apply Ext.alloc))) x1
        have d1 : w1.cell? ⟨w.heap.size, 1, none⟩ = some (.int .i64 n) := (B1.out.ext x1).cell 1
        have d3 : w1.cell? ⟨w.heap.size, 3, none⟩ = some (.slice (some ⟨wb, wo, none⟩) xw.length a) := (B1.out.ext x1).cell 3
        obtain ⟨qb, qo, qi, rfl, zq, cq, eq, _⟩ := rL.at (k := p.length) (by rw [nl_len]; exact hkl)
        obtain rfl : qi = (q : Int) := by
          have h1 := nl_get hq0.out
          rw [eq.out] at h1
          exact Option.some.inj h1
        have ku := keepEL X1 zu cu
        clear eq rL
        go_wp2_with (go_quiet (fail))
        all_goals go_ret2
        all_goals exact ⟨some ⟨w1.heap.size, 0, none⟩, 2, rfl, .blk (by (first | exact .new (by simp) | exact .drew (.new (by simp)) | exact .alloc (.new (by simp)) _ | exact .drew (.alloc (.new (by simp)) _) | exact .alloc (.alloc (.new (by simp)) _) _ | exact .drew (.alloc (.alloc (.new (by simp)) _) _) | (repeat (first | assumption | (refine Blk.new ?_; (focus (simp; done))) | apply Blk.drew | apply Blk.drewN | apply Blk.alloc)))) rfl, by simp, by omega, by (repeat (first | assumption | exact Ext.rf _ | apply Ext.drew | apply Ext.drewN | apply Ext.alloc))⟩
      · rw [if_neg hu] at HK2
        subst HK2
        go_enter Try.func24, Try.ntmps24
        go_wp2_with (fail)
        refine (ST.out _ (by (repeat (first | assumption | exact Ext.rf _ | apply Ext.drew | apply Ext.drewN | apply Ext.alloc)))).mono ?_
        rintro e w1 ⟨x1, LA, lc, rfl, rL⟩
        have X1 := Ext.tr (a := w) (by (repeat (first | assumption | exact Ext.rf _ | apply Ext.drew | apply Ext.drewN | apply Ext.alloc))) x1
        have d1 : w1.cell? ⟨w.heap.size, 1, none⟩ = some (.int .i64 n) := (B1.out.ext x1).cell 1
        have d3 : w1.cell? ⟨w.heap.size, 3, none⟩ = some (.slice (some ⟨wb, wo, none⟩) xw.length a) := (B1.out.ext x1).cell 3
        obtain ⟨qb, qo, qi, rfl, zq, cq, eq, _⟩ := rL.at (k := p.length) (by rw [nl_len]; exact hkl)
        obtain rfl : qi = (q : Int) := by
          have h1 := nl_get hq0.out
          rw [eq.out] at h1
          exact Option.some.inj h1
        have ku := keepEL X1 zu cu
        clear eq rL
        go_wp2_with (go_quiet (fail))
        all_goals go_ret2
        all_goals exact ⟨some ⟨w1.heap.size, 0, none⟩, 1, rfl, .blk (by (first | exact .new (by simp) | exact .drew (.new (by simp)) | exact .alloc (.new (by simp)) _ | exact .drew (.alloc (.new (by simp)) _) | exact .alloc (.alloc (.new (by simp)) _) _ | exact .drew (.alloc (.alloc (.new (by simp)) _) _) | (repeat (first | assumption | (refine Blk.new ?_; (focus (simp; done))) | apply Blk.drew | apply Blk.drewN | apply Blk.alloc)))) rfl, by simp, by omega, by (repeat (first | assumption | exact Ext.rf _ | apply Ext.drew | apply Ext.drewN | apply Ext.alloc))⟩
end Go.Proofs.Ytpfdkocelmmllaa
namespace Go.Proofs.Ytpfdkocelmmllaa
open Go.RowKit Go.ChangeShapes Go.WideShapes Go.ChangeAt Go.Deep

set_option maxRecDepth 100000 in
set_option maxHeartbeats 4000000 in
theorem ranswer_any (i : InstP) (us : List Value) (P : Option Addr) (c : Nat) (p : List Int) (w : World) (H : RInst w us i) (ok : KnapOk i) (hP : RdI w P p) (lp : p.length ≤ 1000000000) :
    Calls Try.prog 25 #[.agg (List.toArray us), .slice P p.length c] w (KidsPost (answerP i.cap (orderP i) (wsP i) (vsP i) p).1 (answerP i.cap (orderP i) (wsP i) (vsP i) p).2 w) := by
  have K := kok ok
  have lN := orderP_len ok
  have ST := fun (W : World) (x : Ext w W) => rstate_any i us P c p W (H.ext x) ok (hP.ext x) lp
  have LM : ∀ q ∈ orderP i, q < (orderP i).length := fun q h => by
    have h1 := ratioP_mem.1 h
    unfold orderP
    rw [ratioP_len]
    exact h1
  have K2 := K.l64
  generalize orderP i = l at *
  generalize wsP i = ws at *
  generalize vsP i = vs at *
  clear K ok
  obtain ⟨kind, nn, cap, xw, xv, co⟩ := i
  obtain ⟨A, a, B, b, D, d, rfl, -, -, -⟩ := H
  simp only at *
  obtain ⟨n, rfl⟩ : ∃ n : Nat, nn = (n : Int) := ⟨nn.toNat, by omega⟩
  have hn : l.length = n := by omega
  clear lN
  have hn2 : n ≤ 64 := by omega
  replace ST := Lib.hid ST
  replace LM := Lib.hid LM
  have B1 : Hid (Blk (w.alloc (.cells #[.int .i64 kind, .int .i64 n, .int .i64 cap, .slice A xw.length a, .slice B xv.length b, .slice D co.length d] 25)) w.heap.size 25 #[.int .i64 kind, .int .i64 n, .int .i64 cap, .slice A xw.length a, .slice B xv.length b, .slice D co.length d]) := .new rfl
  obtain ⟨ks, hks⟩ : ∃ ks, Hid (answerP cap l ws vs p = ks) := ⟨_, rfl⟩
  rw [hks.out]
  have HK : ∀ o, stP cap 0 ws vs p = o → ks = (match o with
    | none => ([], 1)
    | some _ => if p.length = n then (ansP l p p.length, 0) else ([], 1)) := fun o ho => by subst ho; rw [← hn]; exact hks.out.symm
  replace HK := Lib.hid HK
  replace hn := Lib.hid hn
  obtain ⟨st, hst⟩ : ∃ st, Hid (stP cap 0 ws vs p = st) := ⟨_, rfl⟩
  rw [hst.out] at ST
  have HK2 := HK.out _ hst.out
  clear HK hks
  rcases st with _ | ⟨room, out⟩
  · simp only at HK2
    subst HK2
    go_enter Try.func25, Try.ntmps25
    go_wp2_with (fail)
    refine (ST.out _ (by (repeat (first | assumption | exact Ext.rf _ | apply Ext.drew | apply Ext.drewN | apply Ext.alloc)))).mono ?_
    rintro e w1 ⟨x1, rfl⟩
    have X1 := Ext.tr (a := w) (by (repeat (first | assumption | exact Ext.rf _ | apply Ext.drew | apply Ext.drewN | apply Ext.alloc))) x1
    go_wp2
    go_ret2
    exact ⟨none, 0, rfl, .inl rfl, by simp, by omega, X1⟩
  · simp only at HK2
    by_cases hpl : p.length = n
    · rw [if_pos hpl] at HK2
      subst HK2
      have hpl' : ((p.length : Int) != (n : Int)) = false := by rw [bne_eq_false_iff_eq]; omega
      have hpn : n ≤ p.length := by omega
      replace hpl := Lib.hid hpl
      go_enter Try.func25, Try.ntmps25
      go_wp2_with (fail)
      refine (ST.out _ (by (repeat (first | assumption | exact Ext.rf _ | apply Ext.drew | apply Ext.drewN | apply Ext.alloc)))).mono ?_
      rintro e w1 ⟨x1, LA, lc, rfl, rL⟩
      have X1 := Lib.hid (Ext.tr (a := w) (by (repeat (first | assumption | exact Ext.rf _ | apply Ext.drew | apply Ext.drewN | apply Ext.alloc))) x1)
      have BB := Lib.hid (B1.out.ext x1)
      have d1 : w1.cell? ⟨w.heap.size, 1, none⟩ = some (.int .i64 n) := BB.out.cell 1
      have zb := BB.out.lt
      replace rL := Lib.hid rL
      clear x1
      go_wp2_with (at_make; refine wpl_make_i _ rfl _ _ rfl w1.heap.size _ _ n rfl rfl rfl rfl (by omega) (Nat.le_refl _) ?_; rintro w3 o3 g3; have d1' : w3.cell? ⟨w.heap.size, 1, none⟩ = some (.int .i64 n) := keepEL ((Ext.rf w1).grownNone g3) zb d1)
      have X3 := Lib.hid ((Ext.rf w1).grownNone g3)
      have O3 : Hid (OwI w3 w1.heap.size (some ⟨w1.heap.size, 0, none⟩) n (ansP l p 0)) := by
        have h := o3
        rw [← hn.out] at h ⊢
        exact h
      clear o3 g3 d1'
      go_loopw [11] (fun i wr => ∃ k : Nat, i = .int .i64 k ∧ k ≤ n ∧ Hid (OwI wr w1.heap.size (some ⟨w1.heap.size, 0, none⟩) n (ansP l p k)) ∧ Ext w1 wr) (fun i _ => n - (intOf i).toNat)
      case atStart => exact ⟨0, rfl, by omega, O3, X3.out⟩
      case round =>
        obtain ⟨wo, rfl⟩ : ∃ wo : World, wo = wr := ⟨_, rfl⟩
        obtain ⟨k, rfl, hk, HO, Y⟩ := hrel
        have e1 := keepEL Y zb d1
        by_cases hlt : k < n
        · have hkl : k < l.length := by rw [hn.out]; exact hlt
          obtain ⟨pb, po, y, rfl, zy, cy, ey, _⟩ := (hP.ext (X1.out.tr Y)).at (k := k) (by omega)
          obtain ⟨qb, qo, qi, rfl, zq, cq, eq, _⟩ := (rL.out.ext Y).at (k := k) (by rw [nl_len]; exact hkl)
          obtain ⟨q, hq0⟩ : ∃ q, Hid (l[k]? = some q) := ⟨l[k], List.getElem?_eq_getElem hkl⟩
          obtain rfl : qi = (q : Int) := by
            have h1 := nl_get hq0.out
            rw [eq.out] at h1
            exact Option.some.inj h1
          have hq : q < n := by
            have := LM.out q (List.mem_of_getElem? hq0.out)
            rw [hn.out] at this
            exact this
          have ea : Hid (ansP l p (k + 1) = (ansP l p k).set q y) := by
            have h : ansP l p (k + 1) = (ansP l p k).set q y := by rw [ansP, getD_some hq0.out, getD_some ey.out]
            exact h
          obtain ⟨x, hcx, hfx, hbx, _, _⟩ := HO.out.cell (k := q) (by rw [ansP_len, hn.out]; exact hq)
          have qi1 : (q : Int) < (n : Int) := by omega
          have qi2 : (k : Int) < (l.length : Int) := by omega
          have qi3 : (k : Int) < (p.length : Int) := by omega
          clear ey eq
          go_wp2_with (fail)
          refine wp_region_any (by kernel_rfl) ?_
          change wpAny _ _ _ _ _ _ _ (World.drew _)
          refine wpAny_T (i := 0) (op := Op.move (Operand.tmp 10)) (t := 22) (d := some 38) (v := ?_) rfl (by decide +kernel) (by decide +kernel) (by decide +kernel) (fun _ _ _ h => h) ?_ ?_
          case refine_2 => (intro _; unfold exec2; go_simp; try with_reducible rfl)
          try simp only [Act.put, List.setIfInBounds_toArray, List.set_cons_zero, List.set_cons_succ]
          refine wpAny_T (i := 1) (op := Op.move (Operand.tmp 6)) (t := 22) (d := some 39) (v := ?_) rfl (by decide +kernel) (by decide +kernel) (by decide +kernel) (fun _ _ _ h => h) ?_ ?_
          case refine_2 => (intro _; unfold exec2; go_simp; try with_reducible rfl)
          try simp only [Act.put, List.setIfInBounds_toArray, List.set_cons_zero, List.set_cons_succ]
          refine wpAny_T (i := 2) (op := Op.move (Operand.tmp 11)) (t := 3) (d := some 40) (v := ?_) rfl (by decide +kernel) (by decide +kernel) (by decide +kernel) (fun _ _ _ h => h) ?_ ?_
          case refine_2 => (intro _; unfold exec2; go_simp; try with_reducible rfl)
          try simp only [Act.put, List.setIfInBounds_toArray, List.set_cons_zero, List.set_cons_succ]
          refine wpAny_T (i := 3) (op := Op.indexAddr 22 (Operand.tmp 39) (Operand.tmp 40)) (t := 0) (d := some 41) (v := ?_) rfl (by decide +kernel) (by decide +kernel) (by decide +kernel) (fun _ _ _ h => h) ?_ ?_
          case refine_2 => (intro _; unfold exec2; go_simp; try with_reducible rfl)
          try simp only [Act.put, List.setIfInBounds_toArray, List.set_cons_zero, List.set_cons_succ]
          refine wpAny_T (i := 5) (op := Op.move (Operand.tmp 1)) (t := 22) (d := some 43) (v := ?_) rfl (by decide +kernel) (by decide +kernel) (by decide +kernel) (fun _ _ _ h => h) ?_ ?_
          case refine_2 => (intro _; unfold exec2; go_simp; try with_reducible rfl)
          try simp only [Act.put, List.setIfInBounds_toArray, List.set_cons_zero, List.set_cons_succ]
          refine wpAny_T (i := 6) (op := Op.move (Operand.tmp 11)) (t := 3) (d := some 44) (v := ?_) rfl (by decide +kernel) (by decide +kernel) (by decide +kernel) (fun _ _ _ h => h) ?_ ?_
          case refine_2 => (intro _; unfold exec2; go_simp; try with_reducible rfl)
          try simp only [Act.put, List.setIfInBounds_toArray, List.set_cons_zero, List.set_cons_succ]
          refine wpAny_T (i := 7) (op := Op.indexAddr 22 (Operand.tmp 43) (Operand.tmp 44)) (t := 0) (d := some 45) (v := ?_) rfl (by decide +kernel) (by decide +kernel) (by decide +kernel) (fun _ _ _ h => h) ?_ ?_
          case refine_2 => (intro _; unfold exec2; go_simp; try with_reducible rfl)
          try simp only [Act.put, List.setIfInBounds_toArray, List.set_cons_zero, List.set_cons_succ]
          refine wpAny_core2 (n := 2) [(4, some 42), (8, some 46)] (Ext wo)
            (VF (fun | 4 => some (.int .i64 q) | 8 => some (.int .i64 y) | _ => none) (fun _ _ _ => True))
            Ext #[true, true, true, true, true, true, true, true, true, false, false] (by kernel_rfl) (VF.stab ?_) ?_ ?_ ((Ext.rf _).drew)
          · intro j v W W' _ h _
            exact h
          · intro pq hpm u W hRW hD K hK
            have r1 := keepEL hRW zq cq
            have r2 := keepEL hRW zy cy
            simp only [List.mem_cons, List.not_mem_nil, or_false] at hpm
            rcases hpm with rfl | rfl
            · exact op_ld (T := 3) rfl (.pointer (some ⟨qb, qo + k, none⟩)) (by kernel_rfl) (.int .i64 q) (by go_simp) (hK _ _ (VF.mk rfl) hRW (Ext.rf _))
            · exact op_ld (T := 3) rfl (.pointer (some ⟨pb, po + k, none⟩)) (by kernel_rfl) (.int .i64 y) (by go_simp) (hK _ _ (VF.mk rfl) hRW (Ext.rf _))
          · intro u w6 hRW hV
            have h4 := (hV (4, some 42) (by simp)).k rfl
            have h8 := (hV (8, some 46) (by simp)).k rfl
            simp only [putAll, h4, h8]
            clear hV h4 h8
            obtain ⟨x6, hc6, hf6, _, _, hset⟩ := (HO.out.ext hRW).cell (k := q) (by rw [ansP_len, hn.out]; exact hq)
            have HN : Hid (OwI (w6.setCell ⟨w1.heap.size, q, none⟩ (.int .i64 y)) w1.heap.size (some ⟨w1.heap.size, 0, none⟩) n (ansP l p (k + 1))) := by
              have h := hset.out y
              rw [← ea.out] at h
              exact h
            have YN := Lib.hid ((Y.tr hRW).setNew (p := ⟨w1.heap.size, q, none⟩) (Nat.le_refl _) (.int .i64 y))
            clear hset
            try simp only [Act.put, List.setIfInBounds_toArray, List.set_cons_zero, List.set_cons_succ]
            refine wpAny_T (i := 9) (op := Op.indexAddr 22 (Operand.tmp 38) (Operand.tmp 42)) (t := 0) (d := some 47) (v := ?_) rfl (by decide +kernel) (by decide +kernel) (by decide +kernel) (fun _ _ _ h => h) ?_ ?_
            case refine_2 => (intro _; unfold exec2; go_simp; try with_reducible rfl)
            try simp only [Act.put, List.setIfInBounds_toArray, List.set_cons_zero, List.set_cons_succ]
            refine wpAny_next 10 (by kernel_rfl) (op_st rfl (.pointer (some ⟨w1.heap.size, q, none⟩)) (.int .i64 y) (by kernel_rfl) (by kernel_rfl) (by go_simp; rfl) ?_)
            refine wpAny_done (by kernel_rfl) ?_ _
            clear hc6 hf6 hRW
            generalize w6.setCell ⟨w1.heap.size, q, none⟩ (.int .i64 y) = w8 at *
            clear w6
            go_simp
            go_wp2_with (fail)
            go_roundw
            case rel => exact ⟨k + 1, by go_num, by omega, HN, YN.out⟩
            case measure => simp [intOf]; omega
        · obtain rfl : k = n := by omega
          have HF : Hid (OwI wo w1.heap.size (some ⟨w1.heap.size, 0, none⟩) k (ansP l p p.length)) := by
            have h := HO.out
            rw [← hpl.out] at h ⊢
            exact h
          have e : (ansP l p p.length).length = k := by rw [ansP_len]; exact hn.out
          have hm := HF.out.le
          rw [e] at hm
          replace e := Lib.hid e
          go_wp2_with (fail)
          go_ret2
          exact ⟨some ⟨w1.heap.size, 0, none⟩, k, by rw [e.out]; rfl, HF.out.read, by rw [e.out]; exact hm.1, by have := hm.2; unfold maxLen at this; exact this, X1.out.tr Y⟩
    · rw [if_neg hpl] at HK2
      subst HK2
      have hpl' : ((p.length : Int) != (n : Int)) = true := by rw [bne_iff_ne]; omega
      clear hpl
      go_enter Try.func25, Try.ntmps25
      go_wp2_with (fail)
      refine (ST.out _ (by (repeat (first | assumption | exact Ext.rf _ | apply Ext.drew | apply Ext.drewN | apply Ext.alloc)))).mono ?_
      rintro e w1 ⟨x1, LA, lc, rfl, rL⟩
      have X1 := Ext.tr (a := w) (by (repeat (first | assumption | exact Ext.rf _ | apply Ext.drew | apply Ext.drewN | apply Ext.alloc))) x1
      have d1 : w1.cell? ⟨w.heap.size, 1, none⟩ = some (.int .i64 n) := (B1.out.ext x1).cell 1
      clear rL
      go_wp2
      go_ret2
      exact ⟨none, 0, rfl, .inl rfl, by simp, by omega, X1⟩
end Go.Proofs.Ytpfdkocelmmllaa
