/-
  The law package's same: a mound and the document's, of the same lists.
-/
import Derived.Test.YthmjeajfchpdoaaRefD
import Derived.IntWalk
namespace Go.Proofs.Ythmjeajfchpdoaa
open Go.RowKit Go.ChangeShapes Go.WideShapes Go.ChangeAt

set_option maxRecDepth 100000 in
set_option maxHeartbeats 2000000 in
theorem same19_any (g g2 base n k : Nat) (ls : Ls) (sz lv : Int) (w : World) (R : MoundRep w base g ls sz) (Q : RefRep w base g2 ls lv) (K : Kept ls sz n k) (n1 : 1 ≤ n) (n32 : n ≤ 32) (hk60 : k ≤ 60) :
    Calls Try.prog 49 #[.pointer (some ⟨g, 0, none⟩), .pointer (some ⟨g2, 0, none⟩)] w fun e w' => e = .returned (.bool true) ∧ Ext w w' := by
  have hlen := K.len
  have hlm : ∀ l ∈ ls, l.length ≤ 2 ^ 40 := fun l hl => Nat.le_trans (K.lens l hl) (by omega)
  obtain rfl : sz = (sizeP ls : Int) := K.size
  have KL := lists_any g base ls (sizeP ls) w R (by omega) (by omega) hlm
  have KM := fun W (h : Ext w W) => min_any g base ls (sizeP ls) W (R.ext h) (by omega) (by omega)
  have KZ := fun W (h : Ext w W) => size_any g base ls (sizeP ls) W (R.ext h)
  have KR := fun W (h : Ext w W) => rsize_any g2 base ls lv W (Q.ext h) (by omega) hlm
  obtain ⟨h2, hb, _, _, hH⟩ := Q
  have zg := hb.lt
  have zh := hH.lt
  have c0 : w.cell? ⟨g2, 1, none⟩ = some (.slice (some ⟨h2, 0, none⟩) ls.length ls.length) := hb.cell 1
  have hl64 : ls.length ≤ 64 := by omega
  have hl2 : 2 ≤ ls.length := by omega
  unfold ListsPost at KL
  have hm : ls.length = (ls.length - 1) + 1 := by omega
  have hneq : (((ls.length - 1 : Nat) : Int) != (ls.length : Int) - 1) = false := by simp; omega
  have htl : ∀ i, i < ls.length - 1 → (ls.drop 1)[i]? = ls[i + 1]? := fun i _ => by rw [List.getElem?_drop, Nat.add_comm]
  have htlen : (ls.drop 1).length = ls.length - 1 := by simp
  simp only [itV] at KM
  generalize ls.length - 1 = m at *
  generalize ls.drop 1 = tl at *
  replace KL := Lib.hid KL
  replace KM := Lib.hid KM
  replace KZ := Lib.hid KZ
  replace KR := Lib.hid KR
  replace htl := Lib.hid htl
  replace htlen := Lib.hid htlen
  replace hlen := Lib.hid hlen
  replace hm := Lib.hid hm
  replace hlm := Lib.hid hlm
  replace hb := Lib.hid hb
  clear R K
  go_enter Try.func49, Try.ntmps49
  go_wp2_with (fail)
  refine KL.out.mono ?_
  rintro e w1 ⟨A, c, rfl, L1, x1⟩
  have d0 := (x1.cells.1 _ 1 zg).trans c0
  go_wp2_with (first
    | (go_at_call 41; refine (KZ.out _ x1).mono ?_; rintro e w' ⟨rfl, rfl⟩)
    | (go_at_call 68; refine (KR.out _ x1).mono ?_; rintro e w' ⟨rfl, rfl⟩))
  replace hneq := Lib.hid hneq
  replace L1 := Lib.hid L1
  go_loopw [6] (fun i wr => ∃ ii : Nat, i = .int .i64 ii ∧ ii ≤ m ∧ Ext w1 wr) (fun i _ => m - (intOf i).toNat)
  case atStart => exact ⟨0, rfl, by omega, Ext.rf _⟩
  case round =>
    obtain ⟨i, rfl, hi, X⟩ := hrel
    by_cases hlt : i < m
    · obtain ⟨b1, o1, A1, c1, l, rfl, hb1, hc1, hr1, hl1, hli⟩ := (L1.out.ext X).at (i := i) (by rw [htlen.out]; exact hlt)
      have hls : ls[i + 1]? = some l := by rw [← htl.out i hlt]; exact hli.out
      obtain ⟨B, d, hcB, _, hrB, hlB⟩ := hH.at hls
      have hl40 := hlm.out l (List.mem_of_getElem? hls)
      have q0 := ((x1.tr X).cells.1 _ 1 zg).trans c0
      have q1 := ((x1.tr X).cells.1 _ (i + 1) zh).trans hcB
      have hrB' := Lib.hid (hrB.ext (x1.tr X))
      have zg' : g2 < wr.heap.size := by have := (x1.tr X).size; omega
      have zh' : h2 < wr.heap.size := by have := (x1.tr X).size; omega
      have hi1 : i + 1 < ls.length := by have := hm.out; omega
      have hi2 : (i : Int) + 1 < (ls.length : Int) := by omega
      have hw1 : IntKind.i64.wrap ((i : Int) + 1) = (i : Int) + 1 := IntWalk.i64_in _ (by omega)
      have hw2 : (0 : Int) ≤ (i : Int) + 1 := by omega
      have hw3 : ((i : Int) + 1).toNat = i + 1 := by omega
      replace hls := Lib.hid hls
      replace hli := Lib.hid hli
      replace hr1 := Lib.hid hr1
      clear hcB hrB
      go_wp2_with (fail)
      go_region_held3 (fun w' => w'.cell? ⟨b1, o1 + i, none⟩ = some (.slice A1 l.length c1) ∧ w'.cell? ⟨g2, 1, none⟩ = some (.slice (some ⟨h2, 0, none⟩) ls.length ls.length) ∧ w'.cell? ⟨h2, i + 1, none⟩ = some (.slice B l.length d)) (go_keep)
        (first
          | (go_at_call 70; refine (from_any A1 c1 l _ (hr1.out.ext (by (repeat (first | assumption | exact Ext.rf _ | apply Ext.drew | apply Ext.drewN | apply Ext.alloc)))) hl40).mono ?_; rintro e w3 ⟨A3, c3, rfl, r3, x3⟩; have y3 := Ext.tr (a := wr) (by (repeat (first | assumption | exact Ext.rf _ | apply Ext.drew | apply Ext.drewN | apply Ext.alloc))) x3; have s1 := keepE y3 hb1 hc1; have s2 := keepE y3 zg' q0; have s3 := keepE y3 zh' q1)
          | (go_at_call 69; refine (rsame_any A3 B c3 d l l _ (by exact r3) (hrB'.out.ext (by exact y3)) hl40 hl40).mono ?_; rintro e w4 ⟨rfl, x4⟩; have y4 := y3.tr x4; have s1 := keepE y4 hb1 hc1; have s2 := keepE y4 zg' q0; have s3 := keepE y4 zh' q1))
      all_goals
        clear hw1 hw2 hw3 s1 s2 s3
        go_wp2_with (fail)
        go_roundw
        case rel => exact ⟨i + 1, by go_num, by omega, X.tr y4⟩
        case measure => simp [intOf]; omega
    · have hml : ls.length = m + 1 := hm.out
      replace hml := Lib.hid hml
      have X1 := x1.tr X
      go_wp2_with (fail)
      refine (KM.out _ X1).mono ?_
      rintro e w5 ⟨rfl, x5⟩
      have X5 := X1.tr x5
      have p0 := (X5.cells.1 _ 1 zg).trans c0
      have zg5 : g2 < w5.heap.size := by have := X5.size; omega
      have zh5 : h2 < w5.heap.size := by have := X5.size; omega
      have h1i : (1 : Int) < (ls.length : Int) := by omega
      rcases (hH.ext X5).look (i := 1) (by omega) with ⟨hn, A', c', hc⟩ | ⟨p, l, b, off, c', hn, hc, k0, k1, hlc⟩
      · have hmp : minP ls = ((0, 0), false) := by rw [minP, hn.out]
        simp only [hmp]
        clear hmp
        go_wp2_with (go_quiet (fail))
        go_ret
        exact ⟨rfl, by repeat (first | assumption | apply Ext.drewN | apply Ext.alloc | (refine Ext.setNew ?_ (by simp) _))⟩
      · have hmp : minP ls = (p, true) := by rw [minP, hn.out]
        simp only [hmp]
        clear hmp
        have hne : decide ((0 : Int) < (l.length : Int) + 1) = true := by simp <;> omega
        have hne' : (0 : Int) < (l.length : Int) + 1 := by omega
        have zb := World.block_lt_of_cell? w5 _ k0
        go_wp2_with (go_quiet (fail))
        go_ret
        exact ⟨rfl, by repeat (first | assumption | apply Ext.drewN | apply Ext.alloc | (refine Ext.setNew ?_ (by simp) _))⟩
end Go.Proofs.Ythmjeajfchpdoaa
