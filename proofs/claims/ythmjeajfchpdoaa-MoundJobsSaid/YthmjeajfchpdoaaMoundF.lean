/-
  mound: sink: a place's list goes down.
-/
import Derived.Test.YthmjeajfchpdoaaMoundU
import Derived.BigRegion
import Derived.StillTailTactics
namespace Go.Proofs.Ythmjeajfchpdoaa
open Go.RowKit Go.ChangeShapes Go.WideShapes Go.ChangeAt

def kidP (ls : Ls) (i : Nat) : Nat := if lessP ls (2 * i + 1) (2 * i) then 2 * i + 1 else 2 * i
def swapP (ls : Ls) (i k : Nat) : Ls := (ls.set i (ls.getD k [])).set k (ls.getD i [])
theorem swapP_len (ls : Ls) (i k : Nat) : (swapP ls i k).length = ls.length := by simp [swapP]
theorem sinkP_stop (f : Nat) (ls : Ls) (i : Nat) (h : ¬ i < ls.length / 2) : sinkP f ls i = ls := by
  cases f with
  | zero => rfl
  | succ f => rw [sinkP, if_neg h]
theorem sinkP_done (f : Nat) (ls : Ls) (i : Nat) (h : i < ls.length / 2) (h2 : lessP ls (kidP ls i) i = false) : sinkP (f + 1) ls i = ls := by
  rw [kidP] at h2
  rw [sinkP, if_pos h, h2]
  simp
theorem sinkP_step (f : Nat) (ls : Ls) (i : Nat) (h : i < ls.length / 2) (h2 : lessP ls (kidP ls i) i = true) : sinkP (f + 1) ls i = sinkP f (swapP ls i (kidP ls i)) (kidP ls i) := by
  rw [sinkP, if_pos h, ← kidP, h2]
  simp [swapP]
theorem sinkP_len : ∀ (f : Nat) (ls : Ls) (i : Nat), (sinkP f ls i).length = ls.length
  | 0, _, _ => rfl
  | f + 1, ls, i => by
    by_cases h : i < ls.length / 2
    · cases h2 : lessP ls (kidP ls i) i with
      | true => rw [sinkP_step _ _ _ h h2, sinkP_len, swapP_len]
      | false => rw [sinkP_done _ _ _ h h2]
    · rw [sinkP_stop _ _ _ h]

theorem swap_rep {w : World} {base g hh i k : Nat} {ls : Ls} {sz : Int} {A B : Option Addr} {c d : Nat} {l m : List It} (hb : Blk w g 101 #[.slice (some ⟨hh, 0, none⟩) ls.length ls.length, .int .i64 sz]) (hbg : base ≤ g) (hbh : base ≤ hh) (hH : HeadsAt w 61 82 hh ls)
    (hi : ls.getD i [] = l) (hk : ls.getD k [] = m) (hr : RdV w 61 A (flat l)) (hl : l.length ≤ c) (hs : RdV w 61 B (flat m)) (hm : m.length ≤ d) :
    MoundRep ((w.setCell ⟨hh, i, none⟩ (.slice B m.length d)).setCell ⟨hh, k, none⟩ (.slice A l.length c)) base g (swapP ls i k) sz ∧
    ModT base [101, 82] w ((w.setCell ⟨hh, i, none⟩ (.slice B m.length d)).setCell ⟨hh, k, none⟩ (.slice A l.length c)) := by
  have hH0 := hH
  obtain ⟨cs, hb2, _, _⟩ := hH0
  have hne : ¬ g = hh := Blk.ne hb hb2 (by decide)
  have k1 : ModT base [101, 82] w (w.setCell ⟨hh, i, none⟩ (.slice B m.length d)) := ModT.set w hb2 (by simp) hbh i _
  have k1' : ModT base [82] w (w.setCell ⟨hh, i, none⟩ (.slice B m.length d)) := ModT.set w hb2 (by simp) hbh i _
  have hH1 := hH.set (by decide) i hs hm
  have hH2 := hH1.set (by decide) k (hr.modT k1' (by decide)) hl
  refine ⟨⟨hh, ?_, hbg, hbh, ?_⟩, k1.tr (ModT.set _ (hb2.set i _) (by simp) hbh k _)⟩
  · rw [swapP_len]
    exact (hb.far hne _).far hne _
  · rw [swapP, hi, hk]
    exact hH2

set_option maxRecDepth 100000 in
set_option maxHeartbeats 2000000 in
theorem sink_any (top g base : Nat) (ls : Ls) (sz : Int) (i0 n : Nat) (w : World) (H : MoundRep w base g ls sz) (hn : ls.length = 2 * n) (h32 : n ≤ 32) (hi1 : 1 ≤ i0) (hi2 : i0 < 2 * n) (U : Und w g top) :
    Calls Try.prog 63 #[.pointer (some ⟨g, 0, none⟩), .int .i64 (i0 : Int)] w fun e w' => e = .returned (.tuple #[]) ∧ MoundRep w' base g (sinkP (2 * n) ls i0) sz ∧ ModT base [101, 82] w w' ∧ Und w' g top := by
  go_enter Try.func63, Try.ntmps63
  go_wp2_with fail
  go_loopw [1] (fun i wr => ∃ (k f : Nat) (ls' : Ls), i = .int .i64 k ∧ 1 ≤ k ∧ k < 2 * n ∧ 2 * n ≤ f + k ∧ ls'.length = 2 * n ∧ MoundRep wr base g ls' sz ∧ Hid (sinkP (2 * n) ls i0 = sinkP f ls' k) ∧ ModT base [101, 82] w wr ∧ Und wr g top) (fun i _ => 2 * n - (intOf i).toNat)
  case atStart => exact ⟨i0, 2 * n, ls, rfl, hi1, hi2, by omega, hn, H, rfl, ModT.rf _, U⟩
  case round =>
    clear hi1 hi2 hn H U
    obtain ⟨k, f, ls', rfl, hk1, hk2, hf, hlen, HR, hS, hM, hU⟩ := hrel
    replace hU := Lib.hid hU
    have hl64 : ls'.length ≤ 64 := by omega
    have hdiv : ls'.length / 2 = n := by omega
    have KL := leaves_any g base ls' sz wr HR hl64
    rw [hdiv] at KL
    replace KL := Lib.hid KL
    by_cases hlt : k < n
    · obtain ⟨f', rfl⟩ : ∃ f', f = f' + 1 := ⟨f - 1, by omega⟩
      have L1 := fun W (h : Ext wr W) => less_any g base ls' sz (2 * k + 1) (2 * k) W (HR.ext h) hl64 (by omega) (by omega)
      have L2 := fun W (h : Ext wr W) => less_any g base ls' sz (kidP ls' k) k W (HR.ext h) hl64 (by rw [kidP]; split <;> omega) (by omega)
      have e1 : ((2 * k + 1 : Nat) : Int) = 2 * (k : Int) + 1 := by omega
      have e2 : ((2 * k : Nat) : Int) = 2 * (k : Int) := by omega
      replace hlen := Lib.hid hlen
      cases hb1 : lessP ls' (2 * k + 1) (2 * k) with
      | true =>
        have hkid : kidP ls' k = 2 * k + 1 := by rw [kidP, hb1]; rfl
        rw [hb1] at L1
        rw [hkid] at L2
        simp only [e1, e2] at L1 L2
        cases hb2 : lessP ls' (2 * k + 1) k with
        | false =>
          have hdone := sinkP_done f' ls' k (by have := hlen.out; omega) (by rw [hkid]; exact hb2)
          rw [hb2] at L2
          replace L1 := Lib.hid L1
          replace L2 := Lib.hid L2
          go_wp2_with (first
            | (go_at_call 75; refine KL.out.mono ?_; rintro e w' ⟨rfl, rfl⟩)
            | (go_at_call 77; have hx := x1; refine (L2.out _ hx).mono ?_; rintro e w2 ⟨rfl, x2⟩)
            | (go_at_call 77; refine (L1.out _ (Ext.rf _)).mono ?_; rintro e w1 ⟨rfl, x1⟩))
          exact bodyPost_ret (results_none rfl _ _ _) rfl ⟨rfl, by rw [hS.out, hdone]; exact HR.ext (x1.tr x2), hM.ext (x1.tr x2), hU.out.ext HR (x1.tr x2)⟩
        | true =>
          have hstep := sinkP_step f' ls' k (by have := hlen.out; omega) (by rw [hkid]; exact hb2)
          rw [hkid] at hstep
          rw [hb2] at L2
          replace hstep := Lib.hid hstep
          replace L1 := Lib.hid L1
          replace L2 := Lib.hid L2
          replace hkid := Lib.hid hkid
          clear hb1 hb2
          have hkk : 2 * k + 1 < 2 * n := by omega
          obtain ⟨l, hl⟩ : ∃ l, ls'[k]? = some l := ⟨_, List.getElem?_eq_getElem (by have := hlen.out; omega)⟩
          obtain ⟨m, hm⟩ : ∃ m, ls'[2 * k + 1]? = some m := ⟨_, List.getElem?_eq_getElem (by have := hlen.out; omega)⟩
          have hkl : k < ls'.length := by have := hlen.out; omega
          have hkl2 : 2 * k + 1 < ls'.length := by have := hlen.out; omega
          go_wp2_with (first
            | (go_at_call 75; refine KL.out.mono ?_; rintro e w' ⟨rfl, rfl⟩)
            | (go_at_call 77; have hx := x1; refine (L2.out _ hx).mono ?_; rintro e w2 ⟨rfl, x2⟩)
            | (go_at_call 77; refine (L1.out _ (Ext.rf _)).mono ?_; rintro e w1 ⟨rfl, x1⟩))
          obtain ⟨hh, hb, hbg, hbh, hH⟩ := HR.ext (x1.tr x2)
          obtain ⟨A, c, hcA, hfA, hrA, hlA⟩ := hH.at hl
          obtain ⟨B, d, hcB, hfB, hrB, hlB⟩ := hH.at hm
          have c0 := hb.cell 0
          simp at c0
          have hgh : hh ≠ g := by obtain ⟨cs, hb2, _⟩ := hH; exact fun h => Blk.ne hb hb2 (by decide) h.symm
          have XM := hM.ext (x1.tr x2)
          replace hl := Lib.hid hl
          replace hm := Lib.hid hm
          have HS := Lib.hid (swap_rep (w := w2.drew) (i := k) (k := 2 * k + 1) hb.drew hbg hbh (hH.ext ((Ext.rf _).drew)) (getD_nil hl.out) (getD_nil hm.out) (hrA.ext ((Ext.rf _).drew)) hlA (hrB.ext ((Ext.rf _).drew)) hlB)
          have hH0 := hH
          obtain ⟨cs0, hb20, hx01, hx02⟩ := hH0
          have US := Lib.hid (Und.swap (i := k) (hU.out.ext HR ((x1.tr x2).drew)) hb.drew hb20.drew ((hb20.cell k).symm.trans hcA) ((hb20.cell _).symm.trans hcB))
          clear hx01 hx02 hb20 cs0
          replace hb := Lib.hid hb
          replace hH := Lib.hid hH
          replace hrA := Lib.hid hrA
          replace hrB := Lib.hid hrB
          have hk0 : k ≠ 2 * k + 1 := by omega
          generalize hKK : 2 * k + 1 = KK at *
          have hKe : 2 * (k : Int) + 1 = (KK : Int) := by rw [← hKK]; omega
          simp only [hKe]
          clear e1 e2
          replace hKe := Lib.hid hKe
          replace hKK := Lib.hid hKK
          go_region
          go_wp2_with (fail)
          go_roundw
          case rel => exact ⟨KK, f', swapP ls' k KK, by go_num, by have := hKK.out; omega, hkk, by have := hKK.out; omega, by rw [swapP_len]; exact hlen.out, HS.out.1, Lib.hid (hS.out.trans hstep.out), (XM.ext ((Ext.rf _).drew)).tr HS.out.2, US.out⟩
          case measure => simp [intOf]; have := hKK.out; omega
      | false =>
        have hkid : kidP ls' k = 2 * k := by rw [kidP, hb1]; rfl
        rw [hb1] at L1
        rw [hkid] at L2
        simp only [e1, e2] at L1 L2
        cases hb2 : lessP ls' (2 * k) k with
        | false =>
          have hdone := sinkP_done f' ls' k (by have := hlen.out; omega) (by rw [hkid]; exact hb2)
          rw [hb2] at L2
          replace L1 := Lib.hid L1
          replace L2 := Lib.hid L2
          go_wp2_with (first
            | (go_at_call 75; refine KL.out.mono ?_; rintro e w' ⟨rfl, rfl⟩)
            | (go_at_call 77; have hx := x1; refine (L2.out _ hx).mono ?_; rintro e w2 ⟨rfl, x2⟩)
            | (go_at_call 77; refine (L1.out _ (Ext.rf _)).mono ?_; rintro e w1 ⟨rfl, x1⟩))
          exact bodyPost_ret (results_none rfl _ _ _) rfl ⟨rfl, by rw [hS.out, hdone]; exact HR.ext (x1.tr x2), hM.ext (x1.tr x2), hU.out.ext HR (x1.tr x2)⟩
        | true =>
          have hstep := sinkP_step f' ls' k (by have := hlen.out; omega) (by rw [hkid]; exact hb2)
          rw [hkid] at hstep
          rw [hb2] at L2
          replace hstep := Lib.hid hstep
          replace L1 := Lib.hid L1
          replace L2 := Lib.hid L2
          replace hkid := Lib.hid hkid
          clear hb1 hb2
          have hkk : 2 * k < 2 * n := by omega
          obtain ⟨l, hl⟩ : ∃ l, ls'[k]? = some l := ⟨_, List.getElem?_eq_getElem (by have := hlen.out; omega)⟩
          obtain ⟨m, hm⟩ : ∃ m, ls'[2 * k]? = some m := ⟨_, List.getElem?_eq_getElem (by have := hlen.out; omega)⟩
          have hkl : k < ls'.length := by have := hlen.out; omega
          have hkl2 : 2 * k < ls'.length := by have := hlen.out; omega
          go_wp2_with (first
            | (go_at_call 75; refine KL.out.mono ?_; rintro e w' ⟨rfl, rfl⟩)
            | (go_at_call 77; have hx := x1; refine (L2.out _ hx).mono ?_; rintro e w2 ⟨rfl, x2⟩)
            | (go_at_call 77; refine (L1.out _ (Ext.rf _)).mono ?_; rintro e w1 ⟨rfl, x1⟩))
          obtain ⟨hh, hb, hbg, hbh, hH⟩ := HR.ext (x1.tr x2)
          obtain ⟨A, c, hcA, hfA, hrA, hlA⟩ := hH.at hl
          obtain ⟨B, d, hcB, hfB, hrB, hlB⟩ := hH.at hm
          have c0 := hb.cell 0
          simp at c0
          have hgh : hh ≠ g := by obtain ⟨cs, hb2, _⟩ := hH; exact fun h => Blk.ne hb hb2 (by decide) h.symm
          have XM := hM.ext (x1.tr x2)
          replace hl := Lib.hid hl
          replace hm := Lib.hid hm
          have HS := Lib.hid (swap_rep (w := w2.drew) (i := k) (k := 2 * k) hb.drew hbg hbh (hH.ext ((Ext.rf _).drew)) (getD_nil hl.out) (getD_nil hm.out) (hrA.ext ((Ext.rf _).drew)) hlA (hrB.ext ((Ext.rf _).drew)) hlB)
          have hH0 := hH
          obtain ⟨cs0, hb20, hx01, hx02⟩ := hH0
          have US := Lib.hid (Und.swap (i := k) (hU.out.ext HR ((x1.tr x2).drew)) hb.drew hb20.drew ((hb20.cell k).symm.trans hcA) ((hb20.cell _).symm.trans hcB))
          clear hx01 hx02 hb20 cs0
          replace hb := Lib.hid hb
          replace hH := Lib.hid hH
          replace hrA := Lib.hid hrA
          replace hrB := Lib.hid hrB
          have hk0 : k ≠ 2 * k := by omega
          generalize hKK : 2 * k = KK at *
          have hKe : 2 * (k : Int) = (KK : Int) := by rw [← hKK]; omega
          simp only [hKe]
          clear e1 e2
          replace hKe := Lib.hid hKe
          replace hKK := Lib.hid hKK
          go_region
          go_wp2_with (fail)
          go_roundw
          case rel => exact ⟨KK, f', swapP ls' k KK, by go_num, by have := hKK.out; omega, hkk, by have := hKK.out; omega, by rw [swapP_len]; exact hlen.out, HS.out.1, Lib.hid (hS.out.trans hstep.out), (XM.ext ((Ext.rf _).drew)).tr HS.out.2, US.out⟩
          case measure => simp [intOf]; have := hKK.out; omega
    · have hstop := sinkP_stop f ls' k (by omega)
      replace hlen := Lib.hid hlen
      go_wp2_with (go_at_call 75; refine KL.out.mono ?_; rintro e w' ⟨rfl, rfl⟩)
      go_end0
      exact ⟨rfl, by rw [hS.out, hstop]; exact HR, hM, hU.out⟩
end Go.Proofs.Ythmjeajfchpdoaa
