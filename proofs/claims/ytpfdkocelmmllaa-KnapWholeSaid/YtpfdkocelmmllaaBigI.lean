/-
  The document's ByRatio.
-/
import Derived.Test.YtpfdkocelmmllaaBigH
namespace Go.Proofs.Ytpfdkocelmmllaa
open Go.RowKit Go.ChangeShapes Go.WideShapes Go.ChangeAt Go.Deep

def RRatioPost (l : List Nat) (w : World) (e : Ending) (w' : World) : Prop := ∃ A c, e = .returned (.tuple #[.slice A l.length c, .int .i64 0]) ∧ OwI w' w.heap.size A c (nl l) ∧ Ext w w'
set_option maxRecDepth 100000 in
set_option maxHeartbeats 4000000 in
theorem rratio_any (A B : Option Addr) (a b : Nat) (vs ws : List Int) (w : World) (hA : RdI w A vs) (hB : RdI w B ws) (hl : vs.length = ws.length) (h64 : vs.length ≤ 64) (sv : Small31 vs) (sw : Small31 ws) :
    Calls Try.prog 98 #[.slice A vs.length a, .slice B ws.length b] w (RRatioPost (ratioP vs ws) w) := by
  have hne : ((vs.length : Int) != (ws.length : Int)) = false := by simp [hl]
  have h64' : (vs.length : Int) ≤ 64 := by omega
  have BT := fun (i j : Nat) (hi : i < vs.length) (hj : j < vs.length) (W : World) (x : Ext w W) => better_any A B a b vs ws i j W (hA.ext x) (hB.ext x) sv sw hi hj (by omega) (by omega) (by omega) (by omega)
  have PR := place_ratio (v := vs) (w := ws) (fun x hx => (sw x hx).1)
  have RL := ratioP_len vs ws
  have AL := fun i m => aheads_le vs ws i m
  have PA : Hid (∀ i, i < vs.length → aheads vs ws i vs.length < vs.length) := fun i hi => by
    have hm := (ratioP_mem (v := vs) (w := ws) (a := i)).2 hi
    obtain ⟨k, hk, he⟩ := List.mem_iff_getElem.1 hm
    have := aheads_at (v := vs) (w := ws) (fun x hx => (sw x hx).1) (k := k) (a := i) (by rw [List.getElem?_eq_getElem hk, he])
    rw [ratioP_len] at hk
    omega
  replace hl := Lib.hid hl
  replace BT := Lib.hid BT
  replace PR := Lib.hid PR
  replace RL := Lib.hid RL
  replace AL := Lib.hid AL
  go_enter Try.func98, Try.ntmps98
  go_wp2_with (fail)
  go_loopw [6] (fun i wr => ∃ k : Nat, i = .int .i64 k ∧ k ≤ vs.length ∧ Ext w wr) (fun i _ => vs.length - (intOf i).toNat)
  case atStart => exact ⟨0, rfl, by omega, Ext.rf _⟩
  case round =>
    obtain ⟨w1, rfl⟩ : ∃ w1 : World, w1 = wr := ⟨_, rfl⟩
    obtain ⟨k, rfl, hk, Y⟩ := hrel
    by_cases hlt : k < vs.length
    · obtain ⟨g1, o1, x, rfl, _, c1, e1, _⟩ := (hA.ext Y).at hlt
      obtain ⟨g2, o2, y, rfl, _, c2, e2, _⟩ := (hB.ext Y).at (k := k) (by rw [← hl.out]; exact hlt)
      have b1 := sv.get e1.out
      have b2 := sw.get e2.out
      have hkw : k < ws.length := by rw [← hl.out]; exact hlt
      clear e1 e2
      go_wp2
      go_roundw
      case rel => exact ⟨k + 1, by go_num, by omega, Y⟩
      case measure => simp [intOf]; omega
    · obtain rfl : k = vs.length := by omega
      clear hlt
      have Yo := Lib.hid Y
      go_wp2_with (at_make; refine wpl_make_i _ rfl _ _ rfl w.heap.size _ _ vs.length rfl rfl rfl rfl (by omega) Y.size ?_; rintro w3 o3 g3)
      have X3 := Lib.hid (Y.grownNone g3)
      have O3 : Hid (OwI w3 w.heap.size (some ⟨w1.heap.size, 0, none⟩) vs.length (placeL (fun i => aheads vs ws i vs.length) vs.length 0)) := o3
      have zr := Y.size
      clear o3 g3
      go_loopw [8] (fun i wq => ∃ m : Nat, i = .int .i64 m ∧ m ≤ vs.length ∧ Hid (OwI wq w.heap.size (some ⟨w1.heap.size, 0, none⟩) vs.length (placeL (fun i => aheads vs ws i vs.length) vs.length m)) ∧ Ext w wq) (fun i _ => vs.length - (intOf i).toNat)
      case atStart => exact ⟨0, rfl, by omega, O3, X3.out⟩
      case round =>
        obtain ⟨wo, rfl⟩ : ∃ wo : World, wo = wr := ⟨_, rfl⟩
        obtain ⟨m, rfl, hm, HO, Z⟩ := hrel
        by_cases hlm : m < vs.length
        · go_wp2_with (fail)
          go_loopw [9, 10] (fun n i wq => ∃ (j c : Nat), i = .int .i64 j ∧ n = .int .i64 c ∧ j ≤ vs.length ∧ c ≤ j ∧ Hid (c = aheads vs ws m j) ∧ Ext wo wq) (fun _ i _ => vs.length - (intOf i).toNat)
          case atStart => exact ⟨0, 0, rfl, rfl, by omega, by omega, by exact rfl, Ext.rf _⟩
          case round =>
            obtain ⟨j, c, rfl, rfl, hj, hcj, HC, V⟩ := hrel
            have HN : Hid (aheads vs ws m (j + 1) = c + if (decide (j ≠ m) && betterB vs ws j m) = true then 1 else 0) := by
              have h := aheads_succ vs ws m j
              rw [← HC.out] at h
              exact h
            by_cases hlj : j < vs.length
            · by_cases hjm : j = m
              · subst hjm
                have HN2 : Hid (c = aheads vs ws j (j + 1)) := by
                  have h := HN.out
                  simp at h
                  exact h.symm
                go_wp2_with (fail)
                go_roundw
                case rel => exact ⟨j + 1, c, by go_num, rfl, by omega, by omega, HN2, V⟩
                case measure => simp [intOf]; omega
              · have hb : ((j : Int) != (m : Int)) = true := by rw [bne_iff_ne]; omega
                have K := BT.out j m hlj hlm _ (Z.tr V)
                cases hq : betterB vs ws j m with
                | true =>
                  rw [hq] at K
                  have HN2 : Hid (c + 1 = aheads vs ws m (j + 1)) := by
                    have h := HN.out
                    rw [hq] at h
                    simp [hjm] at h
                    exact h.symm
                  clear hq hjm
                  go_wp2_with (fail)
                  refine K.mono ?_
                  rintro e w5 ⟨rfl, x5⟩
                  go_wp2
                  go_roundw
                  case rel => exact ⟨j + 1, c + 1, by go_num, by go_num, by omega, by omega, HN2, V.tr x5⟩
                  case measure => simp [intOf]; omega
                | false =>
                  rw [hq] at K
                  have HN2 : Hid (c = aheads vs ws m (j + 1)) := by
                    have h := HN.out
                    rw [hq] at h
                    simp at h
                    exact h.symm
                  clear hq hjm
                  go_wp2_with (fail)
                  refine K.mono ?_
                  rintro e w5 ⟨rfl, x5⟩
                  go_wp2
                  go_roundw
                  case rel => exact ⟨j + 1, c, by go_num, rfl, by omega, by omega, HN2, V.tr x5⟩
                  case measure => simp [intOf]; omega
            · obtain rfl : j = vs.length := by omega
              have hc : c < vs.length := by rw [HC.out]; exact PA.out m hlm
              have HO2 := HO.out.ext V
              obtain ⟨x, hcx, hfx, hbx, _, hset⟩ := HO2.cell (k := c) (by rw [placeL_len]; exact hc)
              have HN2 : Hid (OwI (wr.setCell ⟨w1.heap.size, c, none⟩ (.int .i64 m)) w.heap.size (some ⟨w1.heap.size, 0, none⟩) vs.length (placeL (fun i => aheads vs ws i vs.length) vs.length (m + 1))) := by
                have h := hset.out m
                rw [HC.out] at h ⊢
                exact h
              have ZN := Lib.hid ((Z.tr V).setNew (p := ⟨w1.heap.size, c, none⟩) zr (.int .i64 m))
              clear hset HO2 HN
              go_wp2
              go_roundw
              case rel => exact ⟨m + 1, by go_num, by omega, HN2, ZN.out⟩
              case measure => simp [intOf]; omega
        · obtain rfl : m = vs.length := by omega
          have HF : Hid (OwI wo w.heap.size (some ⟨w1.heap.size, 0, none⟩) vs.length (nl (ratioP vs ws))) := by
            have h := HO.out
            rw [PR.out] at h
            exact h
          clear hlm HO
          go_wp2
          go_ret2
          exact ⟨_, _, by rw [RL.out]; rfl, HF.out, Z⟩
end Go.Proofs.Ytpfdkocelmmllaa
