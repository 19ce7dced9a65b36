/-
  The document's great numbers: which is less, and a difference.
-/
import Derived.Test.YtpfdkocelmmllaaBigD
namespace Go.Proofs.Ytpfdkocelmmllaa
open Go.RowKit Go.ChangeShapes Go.WideShapes Go.ChangeAt Go.Deep

def dig (lo hi : Int) (k : Nat) : Int := if k = 0 then lo else if k = 1 then hi else 0
/-- from place k down -/
def lessD (lo hi lo' hi' : Int) : Nat → Bool
  | 0 => false
  | k + 1 => if dig lo hi k = dig lo' hi' k then lessD lo hi lo' hi' k else decide (dig lo hi k < dig lo' hi' k)
theorem lessD_nine {p q : Int} : lessD (lowP p) (highP p) (lowP q) (highP q) 9 = decide (p < q) := by
  simp only [lessD, dig]
  simp
  unfold lowP highP
  by_cases h1 : p / 2147483648 = q / 2147483648
  · rw [if_pos h1, Bool.eq_iff_iff]
    simp
    omega
  · rw [if_neg h1, decide_eq_decide]
    omega
set_option maxRecDepth 100000 in
set_option maxHeartbeats 2000000 in
theorem less_any (p q : Int) (w : World) : Calls Try.prog 161 #[bigV (lowP p) (highP p), bigV (lowP q) (highP q)] w fun e w' => e = .returned (.bool (decide (p < q))) ∧ Ext w w' := by
  have HL := Lib.hid (@lessD_nine p q)
  generalize lowP p = lo at *
  generalize highP p = hi at *
  generalize lowP q = lo' at *
  generalize highP q = hi' at *
  have BA : Hid (Blk ((w.alloc (.cells (bigC lo hi) 162)).alloc (.cells (bigC lo' hi') 162)) w.heap.size 162 (bigC lo hi)) := .alloc (.new rfl) _
  have BB : Hid (Blk ((w.alloc (.cells (bigC lo hi) 162)).alloc (.cells (bigC lo' hi') 162)) (w.heap.size + 1) 162 (bigC lo' hi')) := .new (by simp)
  have Y0 : Hid (Ext w ((w.alloc (.cells (bigC lo hi) 162)).alloc (.cells (bigC lo' hi') 162))) := ((Ext.rf _).alloc _).alloc _
  obtain ⟨res, hres⟩ : ∃ res, Hid (res = decide (p < q)) := ⟨_, rfl⟩
  rw [← hres.out] at HL ⊢
  unfold bigV
  go_enter Try.func161, Try.ntmps161
  go_wp2_with (fail)
  go_loopw [5] (fun i wr => ∃ (k : Nat) (z : Int), i = .int .i64 z ∧ z + 1 = (k : Int) ∧ k ≤ 9 ∧ Hid (lessD lo hi lo' hi' k = res) ∧ Ext w wr ∧ Hid (Blk wr w.heap.size 162 (bigC lo hi)) ∧ Hid (Blk wr (w.heap.size + 1) 162 (bigC lo' hi'))) (fun i _ => (intOf i + 1).toNat)
  case atStart => exact ⟨9, 8, rfl, by omega, by omega, HL, Y0.out, BA, BB⟩
  case round =>
    obtain ⟨wo, rfl⟩ : ∃ wo : World, wo = wr := ⟨_, rfl⟩
    obtain ⟨k, z, rfl, hz, hk, HS, Y, A1, B1⟩ := hrel
    by_cases h0 : 1 ≤ k
    · obtain ⟨m, rfl⟩ : ∃ m, k = m + 1 := ⟨k - 1, by omega⟩
      obtain rfl : z = (m : Int) := by omega
      have gA := A1.out.cell m
      have gB := B1.out.cell m
      rw [bigC_get _ _ _ (by omega)] at gA gB
      have HT : Hid (res = if dig lo hi m = dig lo' hi' m then lessD lo hi lo' hi' m else decide (dig lo hi m < dig lo' hi' m)) := HS.out.symm
      obtain ⟨x, hx⟩ : ∃ x, Hid (x = dig lo hi m) := ⟨_, rfl⟩
      obtain ⟨y, hy⟩ : ∃ y, Hid (y = dig lo' hi' m) := ⟨_, rfl⟩
      have gA' : wo.cell? ⟨w.heap.size, m, none⟩ = some (.int .i64 x) := by rw [hx.out]; exact gA
      have gB' : wo.cell? ⟨w.heap.size + 1, m, none⟩ = some (.int .i64 y) := by rw [hy.out]; exact gB
      rw [← hx.out, ← hy.out] at HT
      have q3 : (m : Int) < 9 := by omega
      clear gA gB hz h0 hx hy HS
      by_cases hxy : x = y
      · subst hxy
        have HN : Hid (lessD lo hi lo' hi' m = res) := by
          have h := HT.out
          rw [if_pos rfl] at h
          exact h.symm
        go_wp2_with (go_quiet (fail))
        go_roundw
        case rel => exact ⟨m, _, rfl, by omega, by omega, HN, by repeat (first | exact Y | apply Ext.drewN), A1, B1⟩
        case measure => simp [intOf]
      · have hne : (x != y) = true := by simpa using hxy
        have HN : Hid (res = decide (x < y)) := by
          have h := HT.out
          rw [if_neg hxy] at h
          exact h
        clear hxy
        go_wp2_with (go_quiet (fail))
        all_goals go_ret
        all_goals exact ⟨ret_b HN.out.symm, by repeat (first | exact Y | apply Ext.drewN)⟩
    · obtain rfl : k = 0 := by omega
      obtain rfl : z = -1 := by omega
      go_wp2_with (fail)
      go_ret
      exact ⟨ret_b HS.out, Y⟩
/-- where the difference stands -/
def MinAt (p q : Int) (k : Nat) (x y u : Int) : Prop := (k = 0 ∧ x = 0 ∧ y = 0 ∧ u = 0) ∨ (k = 1 ∧ x = lowP (p - q) ∧ y = 0 ∧ u = if lowP p < lowP q then 1 else 0) ∨ (2 ≤ k ∧ x = lowP (p - q) ∧ y = highP (p - q) ∧ u = 0)
theorem min_step {p q : Int} (hq : 0 ≤ q) (hpq : q ≤ p) (hp : p ≤ 4611686014132420609) {k : Nat} (hk : k < 9) {x y u : Int} (h : MinAt p q k x y u) :
    ∃ a b d d' u' x' y' : Int, a = dig (lowP p) (highP p) k ∧ b = dig (lowP q) (highP q) k ∧ d = a - b - u ∧ d' = (if d < 0 then d + 2147483648 else d) ∧ u' = (if d < 0 then 1 else 0) ∧ (0 ≤ a ∧ a ≤ 2147483647) ∧ (0 ≤ b ∧ b ≤ 2147483647) ∧ (0 ≤ u ∧ u ≤ 1) ∧
      (bigC x y).setIfInBounds k (.int .i64 d') = bigC x' y' ∧ MinAt p q (k + 1) x' y' u' := by
  have b1 := parts_bd (p := p) ⟨by omega, hp⟩
  have b2 := parts_bd (p := q) ⟨hq, by omega⟩
  unfold MinAt at h ⊢
  unfold lowP highP at *
  rcases h with ⟨rfl, rfl, rfl, rfl⟩ | ⟨rfl, rfl, rfl, rfl⟩ | ⟨h, rfl, rfl, rfl⟩
  · refine ⟨p % 2147483648, q % 2147483648, _, (p - q) % 2147483648, _, _, 0, rfl, rfl, rfl, ?_, rfl, by omega, by omega, by omega, rfl, .inr (.inl ⟨rfl, rfl, rfl, ?_⟩)⟩
    · split <;> omega
    · split <;> split <;> omega
  · refine ⟨p / 2147483648, q / 2147483648, _, (p - q) / 2147483648, 0, _, _, rfl, rfl, rfl, ?_, ?_, by omega, by omega, by split <;> omega, rfl, .inr (.inr ⟨by omega, rfl, rfl, rfl⟩)⟩
    · split <;> split <;> omega
    · split <;> split <;> omega
  · refine ⟨0, 0, _, 0, 0, _, _, ?_, ?_, rfl, by simp, by simp, by omega, by omega, by omega, ?_, .inr (.inr ⟨by omega, rfl, rfl, rfl⟩)⟩
    · unfold dig; rw [if_neg (by omega), if_neg (by omega)]
    · unfold dig; rw [if_neg (by omega), if_neg (by omega)]
    · have e := bigC_same ((p - q) % 2147483648) ((p - q) / 2147483648) k hk
      rw [if_neg (by omega), if_neg (by omega)] at e
      exact e
set_option maxRecDepth 100000 in
set_option maxHeartbeats 4000000 in
theorem minus_any (p q : Int) (w : World) (hq : 0 ≤ q) (hpq : q ≤ p) (hp : p ≤ 4611686014132420609) : Calls Try.prog 162 #[bigV (lowP p) (highP p), bigV (lowP q) (highP q)] w fun e w' => e = .returned (bigV (lowP (p - q)) (highP (p - q))) ∧ Ext w w' := by
  have Y0 : Ext w ((((w.alloc (.cells (bigC (lowP p) (highP p)) 162)).alloc (.cells (bigC (lowP q) (highP q)) 162)).alloc (.cells (bigC 0 0) 162)).alloc (.cells (bigC 0 0) 162)) := ((((Ext.rf _).alloc _).alloc _).alloc _).alloc _
  have BA : Blk ((((w.alloc (.cells (bigC (lowP p) (highP p)) 162)).alloc (.cells (bigC (lowP q) (highP q)) 162)).alloc (.cells (bigC 0 0) 162)).alloc (.cells (bigC 0 0) 162)) w.heap.size 162 (bigC (lowP p) (highP p)) := .alloc (.alloc (.alloc (.new rfl) _) _) _
  have BB : Blk ((((w.alloc (.cells (bigC (lowP p) (highP p)) 162)).alloc (.cells (bigC (lowP q) (highP q)) 162)).alloc (.cells (bigC 0 0) 162)).alloc (.cells (bigC 0 0) 162)) (w.heap.size + 1) 162 (bigC (lowP q) (highP q)) := .alloc (.alloc (.new (by simp)) _) _
  have BR : Blk ((((w.alloc (.cells (bigC (lowP p) (highP p)) 162)).alloc (.cells (bigC (lowP q) (highP q)) 162)).alloc (.cells (bigC 0 0) 162)).alloc (.cells (bigC 0 0) 162)) (w.heap.size + 1 + 1) 162 (bigC 0 0) := .alloc (.new (by simp)) _
  have BC : Blk ((((w.alloc (.cells (bigC (lowP p) (highP p)) 162)).alloc (.cells (bigC (lowP q) (highP q)) 162)).alloc (.cells (bigC 0 0) 162)).alloc (.cells (bigC 0 0) 162)) (w.heap.size + 1 + 1 + 1) 162 (bigC 0 0) := .new (by simp)
  replace Y0 := Lib.hid Y0
  replace BA := Lib.hid BA
  replace BB := Lib.hid BB
  replace BR := Lib.hid BR
  replace BC := Lib.hid BC
  have STEP : Hid (∀ (k : Nat), k < 9 → ∀ x y u : Int, MinAt p q k x y u → ∃ a b d d' u' x' y' : Int, a = dig (lowP p) (highP p) k ∧ b = dig (lowP q) (highP q) k ∧ d = a - b - u ∧ d' = (if d < 0 then d + 2147483648 else d) ∧ u' = (if d < 0 then 1 else 0) ∧ (0 ≤ a ∧ a ≤ 2147483647) ∧ (0 ≤ b ∧ b ≤ 2147483647) ∧ (0 ≤ u ∧ u ≤ 1) ∧ (bigC x y).setIfInBounds k (.int .i64 d') = bigC x' y' ∧ MinAt p q (k + 1) x' y' u') := fun k hk x y u h => min_step hq hpq hp hk h
  clear hq hpq hp
  unfold bigV
  go_enter Try.func162, Try.ntmps162
  go_wp2_with (fail)
  go_loopw [6, 7] (fun o i wr => ∃ (k : Nat) (x y u : Int), i = .int .i64 k ∧ o = .int .i64 u ∧ k ≤ 9 ∧ Hid (MinAt p q k x y u) ∧ Ext w wr ∧ Hid (Blk wr w.heap.size 162 (bigC (lowP p) (highP p))) ∧ Hid (Blk wr (w.heap.size + 1) 162 (bigC (lowP q) (highP q))) ∧ Hid (Blk wr (w.heap.size + 1 + 1) 162 (bigC 0 0)) ∧ Hid (Blk wr (w.heap.size + 1 + 1 + 1) 162 (bigC x y))) (fun _ i _ => 9 - (intOf i).toNat)
  case atStart => exact ⟨0, 0, 0, 0, rfl, rfl, by omega, .inl ⟨rfl, rfl, rfl, rfl⟩, Y0.out, BA, BB, BR, BC⟩
  case round =>
    obtain ⟨wo, rfl⟩ : ∃ wo : World, wo = wr := ⟨_, rfl⟩
    obtain ⟨k, x, y, u, rfl, rfl, hk, HM, Y, A1, B1, R1, C1⟩ := hrel
    by_cases hlt : k < 9
    · obtain ⟨a, b, d, d', u', x', y', ha, hb, hd, hd', hu', ba, bb, bu, hset, HM2⟩ := STEP.out k hlt x y u HM.out
      have gA := A1.out.cell k
      have gB := B1.out.cell k
      have gC := C1.out.cell k
      have fC := C1.out.free k
      rw [bigC_get _ _ _ hlt] at gA gB gC
      have gA' : wo.cell? ⟨w.heap.size, k, none⟩ = some (.int .i64 a) := by rw [ha]; exact gA
      have gB' : wo.cell? ⟨w.heap.size + 1, k, none⟩ = some (.int .i64 b) := by rw [hb]; exact gB
      have w1 : Hid (IntKind.i64.wrap (a - b) = a - b) := IntWalk.i64_in _ (by omega)
      have w2 : Hid (IntKind.i64.wrap (a - b - u) = d) := by
        have h : IntKind.i64.wrap (a - b - u) = d := by rw [hd]; exact IntWalk.i64_in _ (by omega)
        exact h
      have bd : -2147483649 ≤ d ∧ d ≤ 2147483647 := by omega
      obtain ⟨bd1, bd2⟩ := bd
      have q3 : (k : Int) < 9 := by omega
      have n1 : ¬ w.heap.size = w.heap.size + 1 + 1 + 1 := by omega
      replace hset := Lib.hid hset
      replace HM2 := Lib.hid HM2
      replace hd' := Lib.hid hd'
      replace hu' := Lib.hid hu'
      clear gA gB ha hb hd HM ba bb bu
      have w1' := w1.out
      have w2' := w2.out
      by_cases hneg : d < 0
      · have e1 : Hid (d' = d + 2147483648) := by
          have h := hd'.out
          rw [if_pos hneg] at h
          exact h
        have e2 : Hid (u' = 1) := by
          have h := hu'.out
          rw [if_pos hneg] at h
          exact h
        rw [e1.out] at hset
        rw [e2.out] at HM2
        go_wp2_with (go_quiet (fail))
        go_roundw
        case rel => exact ⟨k + 1, x', y', 1, by go_num, rfl, by omega, HM2, (Y.drewN _).setNew (by simp <;> omega) _, (A1.out.drewN _).far (by simp <;> omega) _, (B1.out.drewN _).far (by simp <;> omega) _, (R1.out.drewN _).far (by simp <;> omega) _, by rw [← hset.out]; exact (C1.out.drewN _).set k _⟩
        case measure => simp [intOf]; omega
      · have e1 : Hid (d' = d) := by
          have h := hd'.out
          rw [if_neg hneg] at h
          exact h
        have e2 : Hid (u' = 0) := by
          have h := hu'.out
          rw [if_neg hneg] at h
          exact h
        rw [e1.out] at hset
        rw [e2.out] at HM2
        go_wp2_with (go_quiet (fail))
        go_roundw
        case rel => exact ⟨k + 1, x', y', 0, by go_num, rfl, by omega, HM2, (Y.drewN _).setNew (by simp <;> omega) _, (A1.out.drewN _).far (by simp <;> omega) _, (B1.out.drewN _).far (by simp <;> omega) _, (R1.out.drewN _).far (by simp <;> omega) _, by rw [← hset.out]; exact (C1.out.drewN _).set k _⟩
        case measure => simp [intOf]; omega
    · obtain rfl : k = 9 := by omega
      have HM4 : Hid (x = lowP (p - q) ∧ y = highP (p - q)) := by
        rcases HM.out with ⟨h, _⟩ | ⟨h, _⟩ | ⟨_, h1, h2, _⟩
        · omega
        · omega
        · exact ⟨h1, h2⟩
      obtain ⟨rfl, rfl⟩ := HM4.out
      clear HM HM4 STEP
      have c0 : wo.cell? ⟨w.heap.size + 1 + 1 + 1, 0, none⟩ = some (.int .i64 (lowP (p - q))) := C1.out.cell 0
      have c1 : wo.cell? ⟨w.heap.size + 1 + 1 + 1, 1, none⟩ = some (.int .i64 (highP (p - q))) := C1.out.cell 1
      have c2 : wo.cell? ⟨w.heap.size + 1 + 1 + 1, 2, none⟩ = some (.int .i64 0) := C1.out.cell 2
      have c3 : wo.cell? ⟨w.heap.size + 1 + 1 + 1, 3, none⟩ = some (.int .i64 0) := C1.out.cell 3
      have c4 : wo.cell? ⟨w.heap.size + 1 + 1 + 1, 4, none⟩ = some (.int .i64 0) := C1.out.cell 4
      have c5 : wo.cell? ⟨w.heap.size + 1 + 1 + 1, 5, none⟩ = some (.int .i64 0) := C1.out.cell 5
      have c6 : wo.cell? ⟨w.heap.size + 1 + 1 + 1, 6, none⟩ = some (.int .i64 0) := C1.out.cell 6
      have c7 : wo.cell? ⟨w.heap.size + 1 + 1 + 1, 7, none⟩ = some (.int .i64 0) := C1.out.cell 7
      have c8 : wo.cell? ⟨w.heap.size + 1 + 1 + 1, 8, none⟩ = some (.int .i64 0) := C1.out.cell 8
      have z0 : wo.cell? ⟨w.heap.size + 1 + 1, 0, none⟩ = some (.int .i64 0) := R1.out.cell 0
      have z1 : wo.cell? ⟨w.heap.size + 1 + 1, 1, none⟩ = some (.int .i64 0) := R1.out.cell 1
      have z2 : wo.cell? ⟨w.heap.size + 1 + 1, 2, none⟩ = some (.int .i64 0) := R1.out.cell 2
      have z3 : wo.cell? ⟨w.heap.size + 1 + 1, 3, none⟩ = some (.int .i64 0) := R1.out.cell 3
      have z4 : wo.cell? ⟨w.heap.size + 1 + 1, 4, none⟩ = some (.int .i64 0) := R1.out.cell 4
      have z5 : wo.cell? ⟨w.heap.size + 1 + 1, 5, none⟩ = some (.int .i64 0) := R1.out.cell 5
      have z6 : wo.cell? ⟨w.heap.size + 1 + 1, 6, none⟩ = some (.int .i64 0) := R1.out.cell 6
      have z7 : wo.cell? ⟨w.heap.size + 1 + 1, 7, none⟩ = some (.int .i64 0) := R1.out.cell 7
      have z8 : wo.cell? ⟨w.heap.size + 1 + 1, 8, none⟩ = some (.int .i64 0) := R1.out.cell 8
      have f0 : wo.frozen? ⟨w.heap.size + 1 + 1, 0, none⟩ = false := R1.out.free 0
      have f1 : wo.frozen? ⟨w.heap.size + 1 + 1, 1, none⟩ = false := R1.out.free 1
      have f2 : wo.frozen? ⟨w.heap.size + 1 + 1, 2, none⟩ = false := R1.out.free 2
      have f3 : wo.frozen? ⟨w.heap.size + 1 + 1, 3, none⟩ = false := R1.out.free 3
      have f4 : wo.frozen? ⟨w.heap.size + 1 + 1, 4, none⟩ = false := R1.out.free 4
      have f5 : wo.frozen? ⟨w.heap.size + 1 + 1, 5, none⟩ = false := R1.out.free 5
      have f6 : wo.frozen? ⟨w.heap.size + 1 + 1, 6, none⟩ = false := R1.out.free 6
      have f7 : wo.frozen? ⟨w.heap.size + 1 + 1, 7, none⟩ = false := R1.out.free 7
      have f8 : wo.frozen? ⟨w.heap.size + 1 + 1, 8, none⟩ = false := R1.out.free 8
      have Y9 := Lib.hid (setNine Y (g := w.heap.size + 1 + 1) (by omega) (.int .i64 (lowP (p - q))) (.int .i64 (highP (p - q))) (.int .i64 0) (.int .i64 0) (.int .i64 0) (.int .i64 0) (.int .i64 0) (.int .i64 0) (.int .i64 0))
      go_wp2_with (fail)
      exact bodyPost_ret (v := bigV (lowP (p - q)) (highP (p - q))) (by simp [results, Try.results162, go_sem, bigV, *]) rfl ⟨rfl, Y9.out⟩
end Go.Proofs.Ytpfdkocelmmllaa
