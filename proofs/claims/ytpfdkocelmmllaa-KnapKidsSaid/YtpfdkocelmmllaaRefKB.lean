/-
  The document's kernel of a knapsack: what may follow.
-/
import Derived.Test.YtpfdkocelmmllaaRefKA
namespace Go.Proofs.Ytpfdkocelmmllaa
open Go.RowKit Go.ChangeShapes Go.WideShapes Go.ChangeAt Go.Deep

set_option maxRecDepth 100000 in
set_option maxHeartbeats 4000000 in
theorem rkids_any (i : InstP) (us : List Value) (P : Option Addr) (c : Nat) (p : List Int) (w : World) (H : RInst w us i) (ok : KnapOk i) (hP : RdI w P p) (lp : p.length ≤ 1000000000) :
    Calls Try.prog 24 #[.agg (List.toArray us), .slice P p.length c] w (KidsPost (kidsP i.cap (wsP i) (vsP i) p).1 (kidsP i.cap (wsP i) (vsP i) p).2 w) := by
  have K := kok ok
  have lN := orderP_len ok
  have ST := fun (W : World) (x : Ext w W) => rstate_any i us P c p W (H.ext x) ok (hP.ext x) lp
  have LM : ∀ k q, (orderP i)[k]? = some q → q < i.weight.length := fun k q h => by
    have h1 := ratioP_lt h
    have := ok.w
    have := ok.v
    omega
  have EW : ∀ k q x, (orderP i)[k]? = some q → i.weight[q]? = some x → (wsP i)[k]? = some x := fun k q x h1 h2 => inOrder_get h1 h2
  have K2 := K.l64
  have K3 := K.lw
  generalize orderP i = l at *
  generalize wsP i = ws at *
  generalize vsP i = vs at *
  clear K ok
  obtain ⟨kind, nn, cap, xw, xv, co⟩ := i
  obtain ⟨A, a, B, b, D, d, rfl, ⟨rA, iA, lA, mA⟩, -, -⟩ := H
  simp only at *
  obtain ⟨n, rfl⟩ : ∃ n : Nat, nn = (n : Int) := ⟨nn.toNat, by omega⟩
  have hn : l.length = n := by omega
  clear lN
  have hn2 : n ≤ 64 := by omega
  replace ST := Lib.hid ST
  replace LM := Lib.hid LM
  replace EW := Lib.hid EW
  replace K3 := Lib.hid K3
  replace rA := Lib.hid rA
  replace iA := Lib.hid iA
  replace mA := Lib.hid mA
  replace hn := Lib.hid hn
  have B1 : Hid (Blk (w.alloc (.cells #[.int .i64 kind, .int .i64 n, .int .i64 cap, .slice A xw.length a, .slice B xv.length b, .slice D co.length d] 25)) w.heap.size 25 #[.int .i64 kind, .int .i64 n, .int .i64 cap, .slice A xw.length a, .slice B xv.length b, .slice D co.length d]) := .new rfl
  obtain ⟨ks, hks⟩ : ∃ ks, Hid (kidsP cap ws vs p = ks) := ⟨_, rfl⟩
  rw [hks.out]
  have HK : ∀ o, stP cap 0 ws vs p = o → ks = (match o with
    | none => ([], 1)
    | some (room, _) => match ws.drop p.length with
      | [] => ([], 0)
      | u :: _ => if u ≤ room then ([1, 0], 0) else ([0], 0)) := fun o ho => by subst ho; exact hks.out.symm
  have HL : Hid (∀ q, stP cap 0 ws vs p = some q → p.length ≤ n) := fun q hq => by
    by_cases h : ws.length < p.length
    · rw [stP_long h] at hq; cases hq
    · have h3 := K3.out; have h4 := hn.out; omega
  replace HK := Lib.hid HK
  obtain ⟨st, hst⟩ : ∃ st, Hid (stP cap 0 ws vs p = st) := ⟨_, rfl⟩
  rw [hst.out] at ST
  have HK2 := HK.out _ hst.out
  clear HK hks
  rcases st with _ | ⟨room, out⟩
  · simp only at HK2
    subst HK2
    go_enter Try.func24, Try.ntmps24
    go_wp2_with (fail)
    refine (ST.out _ (by (repeat (first | assumption | exact Ext.rf _ | apply Ext.drew | apply Ext.drewN | apply Ext.alloc)))).mono ?_
    rintro e w1 ⟨x1, rfl⟩
    have X1 := Ext.tr (a := w) (by (repeat (first | assumption | exact Ext.rf _ | apply Ext.drew | apply Ext.drewN | apply Ext.alloc))) x1
    go_wp2
    go_ret2
    exact ⟨none, 0, rfl, .inl rfl, by simp, by omega, X1⟩
  · have hle := HL.out _ hst.out
    simp only at HK2
    by_cases hpl : p.length = n
    · have hd : ws.drop p.length = [] := List.drop_of_length_le (by have h3 := K3.out; have h4 := hn.out; omega)
      rw [hd] at HK2
      simp only at HK2
      subst HK2
      have hpl' : ((p.length : Int) == (n : Int)) = true := by rw [beq_iff_eq]; omega
      clear hd hpl
      go_enter Try.func24, Try.ntmps24
      go_wp2_with (fail)
      refine (ST.out _ (by (repeat (first | assumption | exact Ext.rf _ | apply Ext.drew | apply Ext.drewN | apply Ext.alloc)))).mono ?_
      rintro e w1 ⟨x1, LA, lc, rfl, rL⟩
      have X1 := Ext.tr (a := w) (by (repeat (first | assumption | exact Ext.rf _ | apply Ext.drew | apply Ext.drewN | apply Ext.alloc))) x1
      have d1 : w1.cell? ⟨w.heap.size, 1, none⟩ = some (.int .i64 n) := (B1.out.ext x1).cell 1
      go_wp2
      go_ret2
      exact ⟨none, 0, rfl, .inl rfl, by simp, by omega, X1⟩
    · have hpn : p.length < n := by omega
      have hpl' : ((p.length : Int) == (n : Int)) = false := by rw [beq_eq_false_iff_ne]; omega
      have hkl : p.length < l.length := by rw [hn.out]; exact hpn
      obtain ⟨q, hq0⟩ : ∃ q, Hid (l[p.length]? = some q) := ⟨l[p.length], List.getElem?_eq_getElem hkl⟩
      have hqw := LM.out _ q hq0.out
      obtain ⟨wb, wo, u, rfl, zu, cu, eu, _⟩ := rA.out.at hqw
      have du : ws.drop p.length = u :: ws.drop (p.length + 1) := by
        obtain ⟨h1, h2⟩ := List.getElem?_eq_some_iff.1 (EW.out _ q u hq0.out eu.out)
        rw [List.drop_eq_getElem_cons h1, h2]
      rw [du] at HK2
      simp only at HK2
      have qi1 : (q : Int) < (xw.length : Int) := by omega
      have qi3 : (p.length : Int) < (l.length : Int) := by omega
      clear du hpl eu
      have step : ∀ (W : World), W.cell? ⟨w.heap.size, 1, none⟩ = some (.int .i64 n) → True := fun _ _ => trivial
      clear step
      by_cases hu : u ≤ room
      · rw [if_pos hu] at HK2
        subst HK2
        go_enter Try.func24, Try.ntmps24
        go_wp2_with (fail)
        refine (ST.out _ (by (repeat (first | assumption | exact Ext.rf _ | apply Ext.drew | apply Ext.drewN | apply Ext.alloc)))).mono ?_
        rintro e w1 ⟨x1, LA, lc, rfl, rL⟩
        have X1 := Ext.tr (a := w) (by (repeat (first | assumption | exact Ext.rf _ | apply Ext.drew | apply Ext.drewN | apply Ext.alloc))) x1
        have d1 : w1.cell? ⟨w.heap.size, 1, none⟩ = some (.int .i64 n) := (B1.out.ext x1).cell 1
        have d3 : w1.cell? ⟨w.heap.size, 3, none⟩ = some (.slice (some ⟨wb, wo, none⟩) xw.length a) := (B1.out.ext x1).cell 3
        obtain ⟨qb, qo, qi, rfl, zq, cq, eq, _⟩ := rL.at (k := p.length) (by rw [nl_len]; exact hkl)
        obtain rfl : qi = (q : Int) := by
          have h1 := nl_get hq0.out
          rw [eq.out] at h1
          exact Option.some.inj h1
        have ku := keepEL X1 zu cu
        clear eq rL
        go_wp2_with (go_quiet (fail))
        all_goals go_ret2
        all_goals exact ⟨some ⟨w1.heap.size, 0, none⟩, 2, rfl, .blk (by (first | exact .new (by simp) | exact .drew (.new (by simp)) | exact .alloc (.new (by simp)) _ | exact .drew (.alloc (.new (by simp)) _) | exact .alloc (.alloc (.new (by simp)) _) _ | exact .drew (.alloc (.alloc (.new (by simp)) _) _) | (repeat (first | assumption | (refine Blk.new ?_; (focus (simp; done))) | apply Blk.drew | apply Blk.drewN | apply Blk.alloc)))) rfl, by simp, by omega, by (repeat (first | assumption | exact Ext.rf _ | apply Ext.drew | apply Ext.drewN | apply Ext.alloc))⟩
      · rw [if_neg hu] at HK2
        subst HK2
        go_enter Try.func24, Try.ntmps24
        go_wp2_with (fail)
        refine (ST.out _ (by (repeat (first | assumption | exact Ext.rf _ | apply Ext.drew | apply Ext.drewN | apply Ext.alloc)))).mono ?_
        rintro e w1 ⟨x1, LA, lc, rfl, rL⟩
        have X1 := Ext.tr (a := w) (by (repeat (first | assumption | exact Ext.rf _ | apply Ext.drew | apply Ext.drewN | apply Ext.alloc))) x1
        have d1 : w1.cell? ⟨w.heap.size, 1, none⟩ = some (.int .i64 n) := (B1.out.ext x1).cell 1
        have d3 : w1.cell? ⟨w.heap.size, 3, none⟩ = some (.slice (some ⟨wb, wo, none⟩) xw.length a) := (B1.out.ext x1).cell 3
        obtain ⟨qb, qo, qi, rfl, zq, cq, eq, _⟩ := rL.at (k := p.length) (by rw [nl_len]; exact hkl)
        obtain rfl : qi = (q : Int) := by
          have h1 := nl_get hq0.out
          rw [eq.out] at h1
          exact Option.some.inj h1
        have ku := keepEL X1 zu cu
        clear eq rL
        go_wp2_with (go_quiet (fail))
        all_goals go_ret2
        all_goals exact ⟨some ⟨w1.heap.size, 0, none⟩, 1, rfl, .blk (by (first | exact .new (by simp) | exact .drew (.new (by simp)) | exact .alloc (.new (by simp)) _ | exact .drew (.alloc (.new (by simp)) _) | exact .alloc (.alloc (.new (by simp)) _) _ | exact .drew (.alloc (.alloc (.new (by simp)) _) _) | (repeat (first | assumption | (refine Blk.new ?_; (focus (simp; done))) | apply Blk.drew | apply Blk.drewN | apply Blk.alloc)))) rfl, by simp, by omega, by (repeat (first | assumption | exact Ext.rf _ | apply Ext.drew | apply Ext.drewN | apply Ext.alloc))⟩
end Go.Proofs.Ytpfdkocelmmllaa
