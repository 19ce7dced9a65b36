/-
  The document's Reduce, of squares that miss some numbers.
-/
import Derived.Test.YtpngflmngnjjoaaDoorRefFcd
namespace Go.Proofs.YtpngflmngnjjoaaDoor
open Go.RowKit Go.ChangeShapes Go.WideShapes Go.ChangeAt Go.Deep

/-- the least one of a row that isn't below nought -/
def leastG : Int → List Int → Int
  | b, [] => b
  | b, x :: l => leastG (if 0 ≤ x ∧ (b < 0 ∨ x < b) then x else b) l
theorem leastG_bd {B : Int} : ∀ {l : List Int} {b : Int}, (∀ x ∈ l, x ≤ B) → b ≤ B → leastG b l ≤ B
  | [], b, _, h => h
  | x :: l, b, h, hb => by
    unfold leastG
    refine leastG_bd (fun y hy => h y (by simp [hy])) ?_
    have := h x (by simp)
    split <;> omega
def colG (c : Nat) (b : Int) : List (List Int) → List Int → Int
  | row :: rows, o :: off => colG c (if 0 ≤ row.getD c 0 ∧ (b < 0 ∨ row.getD c 0 - o < b) then row.getD c 0 - o else b) rows off
  | _, _ => b
theorem colG_bd {c : Nat} {B : Int} : ∀ {rows : List (List Int)} {off : List Int} {b : Int}, (∀ row ∈ rows, row.getD c 0 ≤ B) → (∀ o ∈ off, 0 ≤ o) → b ≤ B → colG c b rows off ≤ B
  | [], off, b, _, _, h => by cases off <;> exact h
  | _ :: _, [], b, _, _, h => h
  | row :: rows, o :: off, b, hr, ho, hb => by
    have h1 := hr row (by simp)
    have h2 := ho o (by simp)
    unfold colG
    refine colG_bd (fun q hq => hr q (by simp [hq])) (fun q hq => ho q (by simp [hq])) ?_
    split <;> omega
def offG (ms : List (List Int)) : List Int := ms.map fun row => max (leastG (-1) row) 0
def rcolG (ms : List (List Int)) (L : Nat) : List Int := (List.range L).map fun c => max (colG c (-1) ms (offG ms)) 0
def rreduceG (ms : List (List Int)) (L : Nat) : Int := sumL (offG ms) + sumL (rcolG ms L)
set_option maxRecDepth 100000 in
set_option maxHeartbeats 8000000 in
theorem rreduceg_any (ms : List (List Int)) (L : Nat) (M : Option Addr) (mc : Nat) (w : World) (hM : RdE 1 RInts w M ms) (hl : ∀ row ∈ ms, row.length = L) (h0 : 0 < L) (hL : L ≤ 24) (hn0 : 0 < ms.length) (hn : ms.length ≤ 24) (num : ∀ row ∈ ms, ∀ x ∈ row, x ≤ 2147483647) :
    Calls Tryd.prog 52 #[.slice M ms.length mc] w fun e w' => e = .returned (.int .i64 (rreduceG ms L)) ∧ Ext w w' := by
  have LO : (offG ms).length = ms.length := by simp [offG]
  have OB : ∀ x ∈ offG ms, 0 ≤ x ∧ x ≤ 2147483647 := fun x hx => by
    obtain ⟨row, hr, rfl⟩ := List.mem_map.1 hx
    have := leastG_bd (b := -1) (num row hr) (by omega)
    omega
  have OG : ∀ k row, ms[k]? = some row → (offG ms)[k]? = some (max (leastG (-1) row) 0) := fun k row h => by unfold offG; rw [List.getElem?_map, h]; rfl
  have CB : ∀ x ∈ rcolG ms L, 0 ≤ x ∧ x ≤ 2147483647 := fun x hx => by
    obtain ⟨c, hc, rfl⟩ := List.mem_map.1 hx
    have := colG_bd (c := c) (b := -1) (B := 2147483647) (rows := ms) (off := offG ms) (fun row hr => by
      have hcl : c < row.length := by rw [hl row hr]; exact List.mem_range.1 hc
      have e : row.getD c 0 = row[c] := by simp [List.getD, hcl]
      rw [e]
      exact num row hr _ (List.getElem_mem hcl)) (fun o ho => (OB o ho).1) (by omega)
    omega
  have CG : ∀ c, c < L → (rcolG ms L)[c]? = some (max (colG c (-1) ms (offG ms)) 0) := fun c hc => by simp [rcolG, hc]
  have LC : (rcolG ms L).length = L := by simp [rcolG]
  have TOT : Hid (rreduceG ms L = sumL (offG ms) + sumL (rcolG ms L)) := rfl
  generalize rreduceG ms L = tot at *
  have SB := sum_take_bd OB (by omega)
  have SC := sum_take_bd CB (by omega)
  have LZ := lessC_zero (offG ms)
  generalize offG ms = off at *
  generalize rcolG ms L = cols at *
  have START : Hid (Ext w (w.alloc (.cells #[.int .i64 0, .int .i64 0, .int .i64 0, .int .i64 0, .int .i64 0, .int .i64 0, .int .i64 0, .int .i64 0, .int .i64 0, .int .i64 0, .int .i64 0, .int .i64 0, .int .i64 0, .int .i64 0, .int .i64 0, .int .i64 0, .int .i64 0, .int .i64 0, .int .i64 0, .int .i64 0, .int .i64 0, .int .i64 0, .int .i64 0, .int .i64 0, .int .i64 0, .int .i64 0, .int .i64 0, .int .i64 0, .int .i64 0, .int .i64 0] 83)) ∧ Blk (w.alloc (.cells #[.int .i64 0, .int .i64 0, .int .i64 0, .int .i64 0, .int .i64 0, .int .i64 0, .int .i64 0, .int .i64 0, .int .i64 0, .int .i64 0, .int .i64 0, .int .i64 0, .int .i64 0, .int .i64 0, .int .i64 0, .int .i64 0, .int .i64 0, .int .i64 0, .int .i64 0, .int .i64 0, .int .i64 0, .int .i64 0, .int .i64 0, .int .i64 0, .int .i64 0, .int .i64 0, .int .i64 0, .int .i64 0, .int .i64 0, .int .i64 0] 83)) w.heap.size 83 (lessC off 0)) :=
    ⟨(Ext.rf _).alloc _, by rw [LZ]; exact .new rfl⟩
  replace LO := Lib.hid LO
  replace OB := Lib.hid OB
  replace OG := Lib.hid OG
  replace CB := Lib.hid CB
  replace CG := Lib.hid CG
  replace LC := Lib.hid LC
  replace SB := Lib.hid SB
  replace SC := Lib.hid SC
  replace hl := Lib.hid hl
  replace num := Lib.hid num
  replace hM := Lib.hid hM
  clear LZ
  go_enter Tryd.func52, Tryd.ntmps52
  go_wp2_with (fail)
  go_loopw [5, 3] (fun v s wr => ∃ k : Nat, v = .int .i64 k ∧ s = .int .i64 (sumL (off.take k)) ∧ k ≤ ms.length ∧ Hid (Ext w wr ∧ Blk wr w.heap.size 83 (lessC off k))) (fun v _ _ => ms.length - (intOf v).toNat)
  case atStart => exact ⟨0, rfl, rfl, by omega, START⟩
  case round =>
    obtain ⟨wo, rfl⟩ : ∃ wo : World, wo = wr := ⟨_, rfl⟩
    obtain ⟨k, rfl, rfl, hk, HH⟩ := hrel
    clear START
    by_cases hlt : k < ms.length
    · obtain ⟨Y, bL⟩ := HH.out
      obtain ⟨mb, mo, D, row, d, rfl, _, cD, er, _, rD, iD, ld, md⟩ := (hM.out.ext Y fun _ _ h => h.ext Y).ints hlt
      have hr := List.mem_of_getElem? er.out
      have eo := OG.out k row er.out
      have ob := OB.out _ (List.mem_of_getElem? eo)
      have hrl : Hid (row.length = L) := hl.out row hr
      have q1 : (k : Int) < (ms.length : Int) := by omega
      obtain ⟨o0, ho⟩ : ∃ o0, Hid (leastG (-1) row = o0) := ⟨_, rfl⟩
      rw [ho.out] at eo ob
      obtain ⟨o, hoo⟩ : ∃ o, Hid (o = max o0 0) := ⟨_, rfl⟩
      rw [← hoo.out] at eo ob
      have SN := sum_take_snoc eo
      have sb1 := SB.out k
      obtain ⟨s, hs⟩ : ∃ s, Hid (s = sumL (off.take k)) := ⟨_, rfl⟩
      rw [← hs.out] at SN sb1 ⊢
      have hnum := Lib.hid (num.out row hr)
      have zD := World.block_lt_of_cell? _ _ cD
      replace SN := Lib.hid SN
      replace eo := Lib.hid eo
      replace Y := Lib.hid Y
      replace bL := Lib.hid bL
      replace rD := Lib.hid rD
      replace iD := Lib.hid iD
      clear er HH hr
      go_wp2_with (fail)
      go_loopw [7, 6] (fun v bv wr => ∃ (j : Nat) (bb : Int), v = .int .i64 j ∧ bv = .int .i64 bb ∧ j ≤ row.length ∧ Hid (leastG bb (row.drop j) = o0) ∧ Hid (Ext wo wr)) (fun v _ _ => row.length - (intOf v).toNat)
      case atStart => exact ⟨0, -1, rfl, rfl, by omega, ho, Ext.rf _⟩
      case round =>
        obtain ⟨wi, rfl⟩ : ∃ wi : World, wi = wr := ⟨_, rfl⟩
        obtain ⟨j, bb, rfl, rfl, hj, HB, YI⟩ := hrel
        have cD' : wi.cell? ⟨mb, mo + k, none⟩ = some (.slice D row.length d) := keepEL YI.out zD cD
        by_cases hjl : j < row.length
        · obtain ⟨rb, ro, x, rfl, _, cx, ex, dx⟩ := (rD.out.ext YI.out).at hjl
          have q2 : (j : Int) < (row.length : Int) := by omega
          have hx := hnum.out x (List.mem_of_getElem? ex.out)
          have HB2 : Hid (leastG (if 0 ≤ x ∧ (bb < 0 ∨ x < bb) then x else bb) (row.drop (j + 1)) = o0) := by
            have h := HB.out
            rw [dx.out] at h
            exact h
          clear HB ex dx hx
          by_cases hx0 : 0 ≤ x
          · by_cases hb0 : bb < 0
            · rw [if_pos ⟨hx0, .inl hb0⟩] at HB2
              go_wp2_with (fail)
              go_roundw
              case rel => exact ⟨j + 1, x, by go_num, rfl, by omega, HB2, YI⟩
              case measure => simp [intOf]; omega
            · by_cases hxb : x < bb
              · rw [if_pos ⟨hx0, .inr hxb⟩] at HB2
                go_wp2_with (fail)
                go_roundw
                case rel => exact ⟨j + 1, x, by go_num, rfl, by omega, HB2, YI⟩
                case measure => simp [intOf]; omega
              · rw [if_neg (by omega)] at HB2
                go_wp2_with (fail)
                go_roundw
                case rel => exact ⟨j + 1, bb, by go_num, rfl, by omega, HB2, YI⟩
                case measure => simp [intOf]; omega
          · rw [if_neg (by omega)] at HB2
            go_wp2_with (fail)
            go_roundw
            case rel => exact ⟨j + 1, bb, by go_num, rfl, by omega, HB2, YI⟩
            case measure => simp [intOf]; omega
        · have q2 : ¬ (j : Int) < (row.length : Int) := by omega
          have hbo : bb = o0 := by
            have h := HB.out
            rw [List.drop_of_length_le (by omega)] at h
            exact h
          obtain rfl := hbo
          have bI := bL.out.ext YI.out
          have fl := bI.free k
          have k30 : (k : Int) < 30 := by omega
          have hw1 : IntKind.i64.wrap (s + o) = s + o := IntWalk.i64_in _ (by omega)
          have NX : Hid (Ext w (wi.setCell ⟨w.heap.size, k, none⟩ (.int .i64 o)) ∧ Blk (wi.setCell ⟨w.heap.size, k, none⟩ (.int .i64 o)) w.heap.size 83 (lessC off (k + 1))) := by
            refine ⟨(Y.out.tr YI.out).setNew (p := ⟨w.heap.size, k, none⟩) (Nat.le_refl _) _, ?_⟩
            rw [← lessC_set (by omega) eo.out]
            exact bI.set k _
          have cl : wi.cell? ⟨w.heap.size, k, none⟩ = some (.int .i64 (if k < k then off.getD k 0 else 0)) := by rw [bI.cell, lessC_at (by omega)]
          clear HB bI ho
          by_cases nb : bb < 0
          · obtain rfl : o = 0 := by rw [hoo.out]; omega
            clear hoo
            go_wp2_with (first | go_quiet (fail) | go_region)
            go_roundw
            case rel => exact ⟨k + 1, by go_num, by rw [SN.out]; first | rfl | (congr 1; omega) | simp, by omega, NX.out⟩
            case measure => simp [intOf]; omega
          · obtain rfl : o = bb := by rw [hoo.out]; omega
            clear hoo
            go_wp2_with (first | go_quiet (fail) | go_region)
            go_roundw
            case rel => exact ⟨k + 1, by go_num, by rw [SN.out], by omega, NX.out⟩
            case measure => simp [intOf]; omega
    · obtain rfl : k = ms.length := by omega
      have q1 : ¬ (ms.length : Int) < (ms.length : Int) := by omega
      have SO : Hid (sumL (off.take ms.length) = sumL off) := by
        have h : sumL (off.take ms.length) = sumL off := by rw [← LO.out, List.take_length]
        exact h
      have so := SB.out ms.length
      rw [SO.out] at so ⊢
      obtain ⟨Y, bL⟩ := HH.out
      replace Y := Lib.hid Y
      replace bL := Lib.hid bL
      have TOT2 : Hid (tot = sumL off + sumL cols) := TOT.out
      obtain ⟨s0, hs0⟩ : ∃ s0, Hid (s0 = sumL off) := ⟨_, rfl⟩
      rw [← hs0.out] at so TOT2 ⊢
      clear HH SO TOT SB
      go_wp2_with (fail)
      go_loopw [8, 3] (fun v s wr => ∃ c : Nat, v = .int .i64 c ∧ s = .int .i64 (s0 + sumL (cols.take c)) ∧ c ≤ L ∧ Hid (Ext wo wr)) (fun v _ _ => L - (intOf v).toNat)
      case atStart => exact ⟨0, rfl, by rw [List.take_zero]; simp [sumL], by omega, Ext.rf _⟩
      case round =>
        obtain ⟨wp, rfl⟩ : ∃ wp : World, wp = wr := ⟨_, rfl⟩
        obtain ⟨c, rfl, rfl, hc, YP⟩ := hrel
        have sc1 := SC.out c
        obtain ⟨mb, mo, D0, row0, d0, rfl, zb, cD0, er0, _, _, _, _, _⟩ := (hM.out.ext (Y.out.tr YP.out) fun _ _ h => h.ext (Y.out.tr YP.out)).ints (r := 0) hn0
        have hl0 : row0.length = L := hl.out row0 (List.mem_of_getElem? er0.out)
        rw [hl0] at cD0
        rw [Nat.add_zero] at cD0
        clear er0 hl0
        by_cases hcl : c < L
        · have q2 : (c : Int) < (L : Int) := by omega
          have ec := CG.out c hcl
          obtain ⟨c0v, hcv⟩ : ∃ cv, Hid (colG c (-1) ms off = cv) := ⟨_, rfl⟩
          rw [hcv.out] at ec
          obtain ⟨cv, hcc⟩ : ∃ cv, Hid (cv = max c0v 0) := ⟨_, rfl⟩
          rw [← hcc.out] at ec
          have cb := CB.out _ (List.mem_of_getElem? ec)
          have SN := sum_take_snoc ec
          obtain ⟨s1, hs1⟩ : ∃ s1, Hid (s1 = sumL (cols.take c)) := ⟨_, rfl⟩
          rw [← hs1.out] at SN sc1 ⊢
          replace SN := Lib.hid SN
          clear ec
          go_wp2_with (fail)
          go_loopw [10, 9] (fun v bv wr => ∃ (k : Nat) (bb : Int), v = .int .i64 k ∧ bv = .int .i64 bb ∧ k ≤ ms.length ∧ Hid (colG c bb (ms.drop k) (off.drop k) = c0v) ∧ Hid (Ext wp wr)) (fun v _ _ => ms.length - (intOf v).toNat)
          case atStart => exact ⟨0, -1, rfl, rfl, by omega, hcv, Ext.rf _⟩
          case round =>
            obtain ⟨wi, rfl⟩ : ∃ wi : World, wi = wr := ⟨_, rfl⟩
            obtain ⟨k, bb, rfl, rfl, hk, HB, YI⟩ := hrel
            by_cases hkl : k < ms.length
            · have YA := (Y.out.tr YP.out).tr YI.out
              obtain ⟨mb', mo', D, row, d, hq, _, cD, er, dr, rD, iD, ld, md⟩ := (hM.out.ext YA fun _ _ h => h.ext YA).ints hkl
              obtain ⟨rfl, rfl⟩ : mb = mb' ∧ mo = mo' := by simpa using hq
              have hr := List.mem_of_getElem? er.out
              have eo := OG.out k row er.out
              have hrl := hl.out row hr
              obtain ⟨rb, ro, x, rfl, _, cx, ex, _⟩ := rD.at (k := c) (by omega)
              have hx := num.out row hr x (List.mem_of_getElem? ex.out)
              have ob := OB.out _ (List.mem_of_getElem? eo)
              obtain ⟨o, ho⟩ : ∃ o, Hid (max (leastG (-1) row) 0 = o) := ⟨_, rfl⟩
              rw [ho.out] at eo ob
              have dof : off.drop k = o :: off.drop (k + 1) := by
                have hkl2 : k < off.length := by rw [LO.out]; exact hkl
                rw [List.drop_eq_getElem_cons hkl2]
                rw [List.getElem?_eq_getElem hkl2] at eo
                rw [Option.some.inj eo]
              have HB2 : Hid (colG c (if 0 ≤ x ∧ (bb < 0 ∨ x - o < bb) then x - o else bb) (ms.drop (k + 1)) (off.drop (k + 1)) = c0v) := by
                have h := HB.out
                rw [dr.out, dof, colG, getD_some ex.out] at h
                exact h
              have cl : wi.cell? ⟨w.heap.size, k, none⟩ = some (.int .i64 o) := by
                rw [((bL.out.ext YP.out).ext YI.out).cell, lessC_at (by omega), if_pos hkl, getD_some eo]
              have q3 : (k : Int) < (ms.length : Int) := by omega
              have q4 : (c : Int) < (row.length : Int) := by omega
              have k30 : (k : Int) < 30 := by omega
              replace hrl := Lib.hid hrl
              clear HB ex er dr eo dof hr hq rD
              by_cases hx0 : 0 ≤ x
              · have t0 : decide (0 ≤ x) = true := decide_eq_true hx0
                have hw2 : IntKind.i64.wrap (x - o) = x - o := IntWalk.i64_in _ (by omega)
                by_cases hb0 : bb < 0
                · rw [if_pos ⟨hx0, .inl hb0⟩] at HB2
                  have t1 : decide (bb < 0) = true := decide_eq_true hb0
                  go_wp2_with (fail)
                  go_quiet (fail)
                  go_wp2_with (fail)
                  go_quiet (fail)
                  go_wp2_with (fail)
                  go_roundw
                  case rel => exact ⟨k + 1, x - o, by go_num, rfl, by omega, HB2, YI.out.drewN _⟩
                  case measure => simp [intOf]; omega
                · have t1 : decide (bb < 0) = false := decide_eq_false hb0
                  by_cases hxb : x - o < bb
                  · rw [if_pos ⟨hx0, .inr hxb⟩] at HB2
                    have t2 : decide (x - o < bb) = true := decide_eq_true hxb
                    go_wp2_with (fail)
                    go_quiet (fail)
                    go_wp2_with (fail)
                    go_quiet (fail)
                    go_wp2_with (fail)
                    go_roundw
                    case rel => exact ⟨k + 1, x - o, by go_num, rfl, by omega, HB2, YI.out.drewN _⟩
                    case measure => simp [intOf]; omega
                  · rw [if_neg (by omega)] at HB2
                    have t2 : decide (x - o < bb) = false := decide_eq_false hxb
                    go_wp2_with (fail)
                    go_quiet (fail)
                    go_wp2_with (fail)
                    go_roundw
                    case rel => exact ⟨k + 1, bb, by go_num, rfl, by omega, HB2, YI.out.drewN _⟩
                    case measure => simp [intOf]; omega
              · have t0 : decide (0 ≤ x) = false := decide_eq_false hx0
                rw [if_neg (by omega)] at HB2
                go_wp2_with (fail)
                go_quiet (fail)
                go_wp2_with (fail)
                go_roundw
                case rel => exact ⟨k + 1, bb, by go_num, rfl, by omega, HB2, YI.out.drewN _⟩
                case measure => simp [intOf]; omega
            · have q3 : ¬ (k : Int) < (ms.length : Int) := by omega
              have hbo : bb = c0v := by
                have h := HB.out
                rw [List.drop_of_length_le (by omega)] at h
                exact h
              obtain rfl := hbo
              have hw1 : IntKind.i64.wrap (s0 + s1 + cv) = s0 + s1 + cv := IntWalk.i64_in _ (by omega)
              clear HB hcv
              by_cases nb : bb < 0
              · obtain rfl : cv = 0 := by rw [hcc.out]; omega
                clear hcc
                go_wp2_with (fail)
                go_roundw
                case rel => exact ⟨c + 1, by go_num, by rw [SN.out]; first | (rw [Int.add_zero]) | rfl | simp, by omega, YP.out.tr YI.out⟩
                case measure => simp [intOf]; omega
              · obtain rfl : cv = bb := by rw [hcc.out]; omega
                clear hcc
                go_wp2_with (fail)
                go_roundw
                case rel => exact ⟨c + 1, by go_num, by rw [SN.out, Int.add_assoc], by omega, YP.out.tr YI.out⟩
                case measure => simp [intOf]; omega
        · obtain rfl : c = L := by omega
          have q2 : ¬ (c : Int) < (c : Int) := by omega
          have FIN : Hid (s0 + sumL (cols.take c) = tot) := by
            have h : s0 + sumL (cols.take c) = tot := by rw [TOT2.out, ← LC.out, List.take_length]
            exact h
          go_wp2_with (fail)
          go_ret
          exact ⟨ret_i FIN.out, Y.out.tr YP.out⟩
end Go.Proofs.YtpngflmngnjjoaaDoor
