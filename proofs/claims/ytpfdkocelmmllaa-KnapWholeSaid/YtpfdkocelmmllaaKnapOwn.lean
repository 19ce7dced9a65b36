/-
  knap's Answer of a whole beginning: a list of its own.
-/
import Derived.Test.YtpfdkocelmmllaaKnapH
namespace Go.Proofs.Ytpfdkocelmmllaa
open Go.RowKit Go.ChangeShapes Go.WideShapes Go.ChangeAt Go.Deep

def AnsOwn (x : List Int) (w : World) (e : Ending) (w' : World) : Prop := ∃ A c, e = .returned (.tuple #[.slice A x.length c, .int .i64 0]) ∧ OwI w' w.heap.size A c x ∧ Ext w w'
set_option maxRecDepth 100000 in
set_option maxHeartbeats 2000000 in
theorem answer_own {base g : Nat} {cap : Int} {l : List Nat} {ws vs bs : List Int} (P : Option Addr) (c : Nat) (p : List Int) (w : World) (H : KernB w base g cap l ws vs bs) (ok : KOk cap l ws vs bs) (hl : ∀ a ∈ l, a < l.length) (hP : RdI w P p) (lp : p.length ≤ 1000000000) (hpl : p.length = l.length) {room out : Int} (hst : stP cap 0 ws vs p = some (room, out)) :
    Calls Try.prog 21 #[.pointer (some ⟨g, 0, none⟩), .slice P p.length c] w (AnsOwn (ansP l p p.length) w) := by
  have ST := state_any P c p w H ok hP lp
  have HD := fun W (x : Ext w W) => depth_any W (H.ext x)
  obtain ⟨PA, pc, WA, wc, VA, vc, HA, hc, hB, -, ⟨rP, -⟩, -, -, -⟩ := H
  obtain ⟨okc, l64, lw, lv, lb, sw, sv⟩ := ok
  have c1 : w.cell? ⟨g, 1, none⟩ = some (.slice PA l.length pc) := hB.cell 1
  have zg := hB.lt
  replace hB := Lib.hid hB
  replace HD := Lib.hid HD
  rw [hst] at ST
  replace ST := Lib.hid ST
  clear sw sv
  replace lw := Lib.hid lw
  replace lv := Lib.hid lv
  replace lb := Lib.hid lb
  have hpl' : ((p.length : Int) != (l.length : Int)) = false := by simp [hpl]
  replace hpl := Lib.hid hpl
  replace hl := Lib.hid hl
  go_enter Try.func21, Try.ntmps21
  go_wp2_with (fail)
  refine ST.out.mono ?_
  rintro e w1 ⟨rfl, x1⟩
  unfold stVal
  go_wp2_with (fail)
  refine (HD.out _ x1).mono ?_
  rintro e w2 ⟨rfl, x2⟩
  have X2 := Lib.hid (Ext.tr x1 x2)
  clear x1 x2
  go_wp2_with (at_make; refine wpl_make_i _ rfl _ _ rfl w2.heap.size _ _ p.length rfl rfl rfl rfl (by omega) (Nat.le_refl _) ?_; rintro w3 o3 g3)
  have X3 := Lib.hid ((Ext.rf w2).grownNone g3)
  have O3 : Hid (OwI w3 w2.heap.size (some ⟨w2.heap.size, 0, none⟩) p.length (ansP l p 0)) := by
    have h := o3
    rw [hpl.out] at h ⊢
    exact h
  clear o3 g3
  go_loopw [33] (fun i wr => ∃ k : Nat, i = .int .i64 k ∧ k ≤ p.length ∧ Hid (OwI wr w2.heap.size (some ⟨w2.heap.size, 0, none⟩) p.length (ansP l p k)) ∧ Ext w2 wr) (fun i _ => p.length - (intOf i).toNat)
  case atStart => exact ⟨0, rfl, by omega, O3, X3.out⟩
  case round =>
    obtain ⟨k, rfl, hk, HO, Y⟩ := hrel
    have Yw := Ext.tr X2.out Y
    by_cases hlt : k < p.length
    · have hkl : k < l.length := by rw [← hpl.out]; exact hlt
      obtain ⟨pb, po, y, rfl, _, cy, ey, _⟩ := (hP.ext Yw).at hlt
      obtain ⟨qb, qo, qi, rfl, _, cq, eq, _⟩ := (rP.ext Yw).at (k := k) (by rw [nl_len]; exact hkl)
      obtain ⟨q, hq0⟩ : ∃ q, Hid (l[k]? = some q) := ⟨l[k], List.getElem?_eq_getElem hkl⟩
      obtain rfl : qi = (q : Int) := by
        have h1 := nl_get hq0.out
        rw [eq.out] at h1
        exact Option.some.inj h1
      have hq : q < p.length := by
        have := hl.out q (List.mem_of_getElem? hq0.out)
        rw [hpl.out]
        exact this
      obtain ⟨x, hcx, hfx, hbx, _, hset⟩ := HO.out.cell (k := q) (by rw [ansP_len, ← hpl.out]; exact hq)
      have HN : Hid (OwI (wr.setCell ⟨w2.heap.size, q, none⟩ (.int .i64 y)) w2.heap.size (some ⟨w2.heap.size, 0, none⟩) p.length (ansP l p (k + 1))) := by
        have h := hset.out y
        have e : ansP l p (k + 1) = (ansP l p k).set q y := by
          rw [ansP, getD_some hq0.out, getD_some ey.out]
        rw [← e] at h
        exact h
      have YN := Lib.hid (Y.setNew (p := ⟨w2.heap.size, q, none⟩) (Nat.le_refl _) (.int .i64 y))
      have k1 := keepEL Yw zg c1
      clear hset ey eq
      go_wp2
      go_roundw
      case rel => exact ⟨k + 1, by go_num, by omega, HN, YN.out⟩
      case measure => simp [intOf]; omega
    · obtain rfl : k = p.length := by omega
      go_wp2
      go_ret2
      have e : (ansP l p p.length).length = p.length := by rw [ansP_len, hpl.out]
      have hm := HO.out.le
      rw [e] at hm
      exact ⟨some ⟨w2.heap.size, 0, none⟩, p.length, by rw [e]; rfl, HO.out.more X2.out.size, Yw⟩
end Go.Proofs.Ytpfdkocelmmllaa
