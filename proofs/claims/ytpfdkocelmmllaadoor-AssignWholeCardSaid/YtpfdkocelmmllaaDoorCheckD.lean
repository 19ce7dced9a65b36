/-
  The program's rows: each number of a square by itself, and none from a city to itself.
-/
import Derived.Test.YtpfdkocelmmllaaDoorCheckC
namespace Go.Proofs.YtpfdkocelmmllaaDoor
open Go.RowKit Go.ChangeShapes Go.WideShapes Go.ChangeAt Go.Deep

/-- of row r, from column c on: the first error -/
def rowE (k : Int) (r c : Nat) : List Int → Int
  | [] => 0
  | n :: l => if numP n = 0 then (if k = 3 ∧ r = c ∧ n ≠ 0 then 8 else rowE k r (c + 1) l) else numP n
/-- from row r on -/
def rowsE (k : Int) (r : Nat) : List (List Int) → Int
  | [] => 0
  | row :: l => if rowE k r 0 row = 0 then rowsE k (r + 1) l else rowE k r 0 row
theorem RdE.ints {w : World} {A : Option Addr} {l : List (List Int)} (h : RdE 1 RInts w A l) {r : Nat} (hr : r < l.length) :
    ∃ b off B row c, A = some ⟨b, off, none⟩ ∧ b < w.heap.size ∧ w.cell? ⟨b, off + r, none⟩ = some (.slice B row.length c) ∧ Hid (l[r]? = some row) ∧ Hid (l.drop r = row :: l.drop (r + 1)) ∧ RdI w B row ∧ Ints row ∧ row.length ≤ c ∧ c ≤ 9223372036854775807 := by
  obtain ⟨b, off, cs, row, rfl, hb, ⟨B, c, rfl, h1, h2, h3, h4⟩, _, hc, he⟩ := h.at hr
  have hc0 := hc 0 _ rfl
  unfold maxLen at h4
  have he' := he.out
  refine ⟨b, off, B, row, c, rfl, hb, by simpa using hc0, he, ?_, h1, h2, h3, h4⟩
  obtain ⟨hl, hv⟩ := List.getElem?_eq_some_iff.1 he'
  exact (by rw [List.drop_eq_getElem_cons hl, hv] : l.drop r = row :: l.drop (r + 1))
set_option maxRecDepth 100000 in
set_option maxHeartbeats 2000000 in
theorem rows_any (k n cap : Int) (A B : Value) (C : Option Addr) (c : Nat) (l : List (List Int)) (w : World) (hC : RdE 1 RInts w C l) (lc : l.length ≤ c) (mc : c ≤ maxLen) :
    Calls Tryd.prog 44 #[.agg #[.int .i64 k, .int .i64 n, .int .i64 cap, A, B, .slice C l.length c]] w fun e w' => e = .returned (.int .i64 (rowsE k 0 l)) ∧ Ext w w' := by
  unfold maxLen at mc
  have B1 : Hid (Blk (w.alloc (.cells #[.int .i64 k, .int .i64 n, .int .i64 cap, A, B, .slice C l.length c] 25)) w.heap.size 25 #[.int .i64 k, .int .i64 n, .int .i64 cap, A, B, .slice C l.length c]) := .new rfl
  go_enter Tryd.func44, Tryd.ntmps44
  go_wp2_with (fail)
  go_loopw [11] (fun i wr => ∃ r : Nat, i = .int .i64 r ∧ r ≤ l.length ∧ Hid (rowsE k 0 l = rowsE k r (l.drop r)) ∧ Ext w wr ∧ Hid (Blk wr w.heap.size 25 #[.int .i64 k, .int .i64 n, .int .i64 cap, A, B, .slice C l.length c])) (fun i _ => l.length - (intOf i).toNat)
  case atStart => exact ⟨0, rfl, by omega, by exact rfl, by (repeat (first | assumption | exact Ext.rf _ | apply Ext.drew | apply Ext.drewN | apply Ext.alloc)), B1⟩
  case round =>
    obtain ⟨wo, rfl⟩ : ∃ wo : World, wo = wr := ⟨_, rfl⟩
    obtain ⟨r, rfl, hr, HT, Y, B2⟩ := hrel
    by_cases hlt : r < l.length
    · obtain ⟨b, off, D, row, d, rfl, _, hc1, _, HD, rr, ir, ld, md⟩ := (hC.ext Y fun _ _ h => h.ext Y).ints hlt
      go_wp2_with (fail)
      go_loopw [18] (fun i wr => ∃ j : Nat, i = .int .i64 j ∧ j ≤ row.length ∧ Hid (rowE k r 0 row = rowE k r j (row.drop j)) ∧ Ext w wr ∧ Ext wo wr ∧ Hid (Blk wr w.heap.size 25 #[.int .i64 k, .int .i64 n, .int .i64 cap, A, B, .slice (some ⟨b, off, none⟩) l.length c])) (fun i _ => row.length - (intOf i).toNat)
      case atStart => exact ⟨0, rfl, by omega, by exact rfl, Y, Ext.rf _, B2⟩
      case round =>
        obtain ⟨j, rfl, hj, HJ, Y2, X2, B3⟩ := hrel
        by_cases hlj : j < row.length
        · obtain ⟨bb, off', x, rfl, _, hc2, _, hd2⟩ := (rr.ext X2).at hlj
          go_wp2_with (fail)
          refine (pnumber_any x _).mono ?_
          rintro e w3 ⟨rfl, x3⟩
          have Y3 := Ext.tr Y2 x3
          have X3 := Ext.tr X2 x3
          have B4 := Lib.hid (B3.out.ext x3)
          have k0 : w3.cell? ⟨w.heap.size, 0, none⟩ = some (.int .i64 k) := B4.out.cell 0
          by_cases hn : numP x = 0
          · have hn' : (numP x != 0) = false := by simpa using hn
            have HN := Lib.hid hn
            clear hn hc1 hc2
            by_cases k3 : k = 3
            · subst k3
              by_cases hrj : r = j
              · subst hrj
                by_cases hx : x = 0
                · have hx' : (x != 0) = false := by simpa using hx
                  have HR : Hid (rowE 3 r 0 row = rowE 3 r (r + 1) (row.drop (r + 1))) := by
                    have h1 := HJ.out
                    rw [hd2.out, rowE, if_pos HN.out, if_neg (by simp [hx])] at h1
                    exact h1
                  clear hx
                  go_wp2
                  go_roundw
                  case rel => exact ⟨r + 1, by go_num, by omega, HR, Y3, X3, B4⟩
                  case measure => simp [intOf]; omega
                · have hx' : (x != 0) = true := by simpa using hx
                  have HR : Hid (rowsE 3 0 l = 8) := by
                    have h1 := HJ.out
                    rw [hd2.out, rowE, if_pos HN.out, if_pos ⟨rfl, rfl, hx⟩] at h1
                    have h2 := HT.out
                    rw [HD.out, rowsE, h1] at h2
                    exact h2
                  clear hx
                  go_wp2
                  go_ret
                  exact ⟨ret_i HR.out.symm, Y3⟩
              · have hrj' : ((r : Int) == (j : Int)) = false := by rw [beq_eq_false_iff_ne]; omega
                have HR : Hid (rowE 3 r 0 row = rowE 3 r (j + 1) (row.drop (j + 1))) := by
                  have h1 := HJ.out
                  rw [hd2.out, rowE, if_pos HN.out, if_neg (by simp [hrj])] at h1
                  exact h1
                go_wp2
                go_roundw
                case rel => exact ⟨j + 1, by go_num, by omega, HR, Y3, X3, B4⟩
                case measure => simp [intOf]; omega
            · have k3' : (k == 3) = false := by rw [beq_eq_false_iff_ne]; exact k3
              have HR : Hid (rowE k r 0 row = rowE k r (j + 1) (row.drop (j + 1))) := by
                have h1 := HJ.out
                rw [hd2.out, rowE, if_pos HN.out, if_neg (by simp [k3])] at h1
                exact h1
              clear k3
              go_wp2
              go_roundw
              case rel => exact ⟨j + 1, by go_num, by omega, HR, Y3, X3, B4⟩
              case measure => simp [intOf]; omega
          · have hn' : (numP x != 0) = true := by simpa using hn
            have HR : Hid (rowsE k 0 l = numP x) := by
              have h1 := HJ.out
              rw [hd2.out, rowE, if_neg hn] at h1
              have h2 := HT.out
              rw [HD.out, rowsE, h1, if_neg hn] at h2
              exact h2
            clear hn hc1 hc2
            go_wp2
            go_ret
            exact ⟨ret_i HR.out.symm, Y3⟩
        · have hd2 := drop_nil (xs := row) (k := j) (by omega)
          have HR : Hid (rowsE k 0 l = rowsE k (r + 1) (l.drop (r + 1))) := by
            have h1 := HJ.out
            rw [hd2.out, rowE] at h1
            have h2 := HT.out
            rw [HD.out, rowsE, if_pos h1] at h2
            exact h2
          clear hc1
          go_wp2
          go_roundw
          case rel => exact ⟨r + 1, by go_num, by omega, HR, Y2, B3⟩
          case measure => simp [intOf]; omega
    · have hd := drop_nil (xs := l) (k := r) (by omega)
      have HR : Hid (rowsE k 0 l = 0) := by
        have h1 := HT.out
        rw [hd.out, rowsE] at h1
        exact h1
      clear hd
      go_wp2
      go_ret
      exact ⟨ret_i HR.out.symm, Y⟩
end Go.Proofs.YtpfdkocelmmllaaDoor
