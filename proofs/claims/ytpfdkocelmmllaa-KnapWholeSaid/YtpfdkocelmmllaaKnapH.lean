/-
  A knapsack's kernel: Answer; of no kernel nothing is told.
-/
import Derived.Test.YtpfdkocelmmllaaKnapG
namespace Go.Proofs.Ytpfdkocelmmllaa
open Go.RowKit Go.ChangeShapes Go.WideShapes Go.ChangeAt Go.Deep

def answerP (cap : Int) (l : List Nat) (ws vs p : List Int) : List Int × Int :=
  match stP cap 0 ws vs p with
  | none => ([], 1)
  | some _ => if p.length = l.length then (ansP l p p.length, 0) else ([], 1)
set_option maxRecDepth 100000 in
set_option maxHeartbeats 2000000 in
theorem answer_any {base g : Nat} {cap : Int} {l : List Nat} {ws vs bs : List Int} (P : Option Addr) (c : Nat) (p : List Int) (w : World) (H : KernB w base g cap l ws vs bs) (ok : KOk cap l ws vs bs) (hl : ∀ a ∈ l, a < l.length) (hP : RdI w P p) (lp : p.length ≤ 1000000000) :
    Calls Try.prog 21 #[.pointer (some ⟨g, 0, none⟩), .slice P p.length c] w (KidsPost (answerP cap l ws vs p).1 (answerP cap l ws vs p).2 w) := by
  have ST := state_any P c p w H ok hP lp
  have HD := fun W (x : Ext w W) => depth_any W (H.ext x)
  obtain ⟨PA, pc, WA, wc, VA, vc, HA, hc, hB, -, ⟨rP, -⟩, -, -, -⟩ := H
  obtain ⟨okc, l64, lw, lv, lb, sw, sv⟩ := ok
  have c1 : w.cell? ⟨g, 1, none⟩ = some (.slice PA l.length pc) := hB.cell 1
  have zg := hB.lt
  replace hB := Lib.hid hB
  replace ST := Lib.hid ST
  replace HD := Lib.hid HD
  have HK : ∀ o, stP cap 0 ws vs p = o → answerP cap l ws vs p = (match o with
    | none => ([], 1)
    | some _ => if p.length = l.length then (ansP l p p.length, 0) else ([], 1)) := fun o ho => by subst ho; rfl
  replace HK := Lib.hid HK
  obtain ⟨st, hst⟩ : ∃ st, Hid (stP cap 0 ws vs p = st) := ⟨_, rfl⟩
  rw [hst.out] at ST
  have HK2 := HK.out _ hst.out
  clear HK sw sv
  replace lw := Lib.hid lw
  replace lv := Lib.hid lv
  replace lb := Lib.hid lb
  rcases st with _ | ⟨room, out⟩
  · rw [HK2]
    clear HK2
    go_enter Try.func21, Try.ntmps21
    go_wp2_with (fail)
    refine ST.out.mono ?_
    rintro e w1 ⟨rfl, x1⟩
    unfold stVal
    go_wp2
    go_ret2
    exact ⟨none, 0, rfl, .inl rfl, by simp, by omega, x1⟩
  · simp only at HK2
    by_cases hpl : p.length = l.length
    · rw [if_pos hpl] at HK2
      rw [HK2]
      have hpl' : ((p.length : Int) != (l.length : Int)) = false := by simp [hpl]
      clear HK2
      replace hpl := Lib.hid hpl
      replace hl := Lib.hid hl
      go_enter Try.func21, Try.ntmps21
      go_wp2_with (fail)
      refine ST.out.mono ?_
      rintro e w1 ⟨rfl, x1⟩
      unfold stVal
      go_wp2_with (fail)
      refine (HD.out _ x1).mono ?_
      rintro e w2 ⟨rfl, x2⟩
      have X2 := Lib.hid (Ext.tr x1 x2)
      clear x1 x2
      go_wp2_with (at_make; refine wpl_make_i _ rfl _ _ rfl w2.heap.size _ _ p.length rfl rfl rfl rfl (by omega) (Nat.le_refl _) ?_; rintro w3 o3 g3)
      have X3 := Lib.hid ((Ext.rf w2).grownNone g3)
      have O3 : Hid (OwI w3 w2.heap.size (some ⟨w2.heap.size, 0, none⟩) p.length (ansP l p 0)) := by
        have h := o3
        rw [hpl.out] at h ⊢
        exact h
      clear o3 g3
      go_loopw [33] (fun i wr => ∃ k : Nat, i = .int .i64 k ∧ k ≤ p.length ∧ Hid (OwI wr w2.heap.size (some ⟨w2.heap.size, 0, none⟩) p.length (ansP l p k)) ∧ Ext w2 wr) (fun i _ => p.length - (intOf i).toNat)
      case atStart => exact ⟨0, rfl, by omega, O3, X3.out⟩
      case round =>
        obtain ⟨k, rfl, hk, HO, Y⟩ := hrel
        have Yw := Ext.tr X2.out Y
        by_cases hlt : k < p.length
        · have hkl : k < l.length := by rw [← hpl.out]; exact hlt
          obtain ⟨pb, po, y, rfl, _, cy, ey, _⟩ := (hP.ext Yw).at hlt
          obtain ⟨qb, qo, qi, rfl, _, cq, eq, _⟩ := (rP.ext Yw).at (k := k) (by rw [nl_len]; exact hkl)
          obtain ⟨q, hq0⟩ : ∃ q, Hid (l[k]? = some q) := ⟨l[k], List.getElem?_eq_getElem hkl⟩
          obtain rfl : qi = (q : Int) := by
            have h1 := nl_get hq0.out
            rw [eq.out] at h1
            exact Option.some.inj h1
          have hq : q < p.length := by
            have := hl.out q (List.mem_of_getElem? hq0.out)
            rw [hpl.out]
            exact this
          obtain ⟨x, hcx, hfx, hbx, _, hset⟩ := HO.out.cell (k := q) (by rw [ansP_len, ← hpl.out]; exact hq)
          have HN : Hid (OwI (wr.setCell ⟨w2.heap.size, q, none⟩ (.int .i64 y)) w2.heap.size (some ⟨w2.heap.size, 0, none⟩) p.length (ansP l p (k + 1))) := by
            have h := hset.out y
            have e : ansP l p (k + 1) = (ansP l p k).set q y := by
              rw [ansP, getD_some hq0.out, getD_some ey.out]
            rw [← e] at h
            exact h
          have YN := Lib.hid (Y.setNew (p := ⟨w2.heap.size, q, none⟩) (Nat.le_refl _) (.int .i64 y))
          have k1 := keepEL Yw zg c1
          clear hset ey eq
          go_wp2
          go_roundw
          case rel => exact ⟨k + 1, by go_num, by omega, HN, YN.out⟩
          case measure => simp [intOf]; omega
        · obtain rfl : k = p.length := by omega
          go_wp2
          go_ret2
          have e : (ansP l p p.length).length = p.length := by rw [ansP_len, hpl.out]
          have hm := HO.out.le
          rw [e] at hm
          exact ⟨some ⟨w2.heap.size, 0, none⟩, p.length, by rw [e]; rfl, HO.out.read, by rw [e]; exact hm.1, by have := hm.2; unfold maxLen at this; exact this, Yw⟩
    · rw [if_neg hpl] at HK2
      rw [HK2]
      have hpl' : ((p.length : Int) != (l.length : Int)) = true := by rw [bne_iff_ne]; omega
      clear HK2 hpl
      go_enter Try.func21, Try.ntmps21
      go_wp2_with (fail)
      refine ST.out.mono ?_
      rintro e w1 ⟨rfl, x1⟩
      unfold stVal
      go_wp2_with (fail)
      refine (HD.out _ x1).mono ?_
      rintro e w2 ⟨rfl, x2⟩
      go_wp2
      go_ret2
      exact ⟨none, 0, rfl, .inl rfl, by simp, by omega, Ext.tr x1 x2⟩
theorem depth_nil (w : World) : Calls Try.prog 22 #[.pointer none] w fun e w' => e = .returned (.int .i64 0) ∧ Ext w w' := by
  go_enter Try.func22, Try.ntmps22
  go_wp2
  go_ret
  exact ⟨rfl, Ext.rf _⟩
theorem state_nil (P : Value) (w : World) : Calls Try.prog 61 #[.pointer none, P] w fun e w' => e = .returned (stVal none) ∧ Ext w w' := by
  go_enter Try.func61, Try.ntmps61
  go_wp2
  go_ret3
  exact ⟨rfl, Ext.rf _⟩
theorem kids_nil (P : Value) (w : World) : Calls Try.prog 20 #[.pointer none, P] w fun e w' => e = .returned (.tuple #[.slice none 0 0, .int .i64 1]) ∧ Ext w w' := by
  go_enter Try.func20, Try.ntmps20
  go_wp2_with (fail)
  refine (state_nil P _).mono ?_
  rintro e w1 ⟨rfl, x1⟩
  unfold stVal
  go_wp2
  go_ret2
  exact ⟨rfl, x1⟩
theorem bound_nil (P : Value) (w : World) : Calls Try.prog 17 #[.pointer none, P] w fun e w' => e = .returned (.tuple #[.int .i64 0, .int .i64 1]) ∧ Ext w w' := by
  go_enter Try.func17, Try.ntmps17
  go_wp2_with (fail)
  refine (state_nil P _).mono ?_
  rintro e w1 ⟨rfl, x1⟩
  unfold stVal
  go_wp2
  go_ret2
  exact ⟨rfl, x1⟩
theorem answer_nil (P : Value) (w : World) : Calls Try.prog 21 #[.pointer none, P] w fun e w' => e = .returned (.tuple #[.slice none 0 0, .int .i64 1]) ∧ Ext w w' := by
  go_enter Try.func21, Try.ntmps21
  go_wp2_with (fail)
  refine (state_nil P _).mono ?_
  rintro e w1 ⟨rfl, x1⟩
  unfold stVal
  go_wp2
  go_ret2
  exact ⟨rfl, x1⟩
theorem none_any (w : World) : Calls Try.prog 19 #[] w fun e w' => e = .returned (.pointer none) ∧ Ext w w' := by
  go_enter Try.func19, Try.ntmps19
  go_wp2
  go_ret
  exact ⟨rfl, Ext.rf _⟩
end Go.Proofs.Ytpfdkocelmmllaa
