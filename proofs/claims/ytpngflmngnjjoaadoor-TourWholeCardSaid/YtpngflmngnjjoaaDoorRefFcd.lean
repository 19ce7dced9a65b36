/-
  The document's kernel of an assignment: what a square of numbers costs at least, by rows and then by columns.
  The document's kernel of an assignment: Bound, Answer, Depth.
-/
import Derived.Test.YtpngflmngnjjoaaDoorRefFab
import Derived.Test.YtpngflmngnjjoaaDoorInstLaw
namespace Go.Proofs.YtpngflmngnjjoaaDoor
open Go.RowKit Go.ChangeShapes Go.WideShapes Go.ChangeAt Go.Deep

/-- the least one of a row -/
def leastL : Int → List Int → Int
  | b, [] => b
  | b, x :: l => leastL (if b < 0 then x else if x < b then x else b) l
theorem leastL_bd {B : Int} : ∀ {l : List Int} {b : Int}, (∀ x ∈ l, 0 ≤ x ∧ x ≤ B) → b ≤ B → (0 ≤ b ∨ l ≠ []) → 0 ≤ leastL b l ∧ leastL b l ≤ B
  | [], b, _, h1, h2 => by
    rcases h2 with h2 | h2
    · exact ⟨h2, h1⟩
    · exact absurd rfl h2
  | x :: l, b, h, h1, h2 => by
    have hx := h x (by simp)
    unfold leastL
    refine leastL_bd (fun y hy => h y (by simp [hy])) ?_ (.inl ?_) <;> split <;> (try split) <;> omega
theorem leastL_le : ∀ {l : List Int} {b : Int}, (∀ x ∈ l, 0 ≤ x) → (∀ x ∈ l, leastL b l ≤ x) ∧ (0 ≤ b → leastL b l ≤ b)
  | [], b, _ => ⟨fun x hx => absurd hx List.not_mem_nil, fun _ => Int.le_refl _⟩
  | x :: l, b, h => by
    have hx := h x (by simp)
    have ih := leastL_le (l := l) (b := if b < 0 then x else if x < b then x else b) fun y hy => h y (by simp [hy])
    unfold leastL
    refine ⟨fun y hy => ?_, fun hb => ?_⟩
    · rcases List.mem_cons.1 hy with rfl | hy
      · refine Int.le_trans (ih.2 ?_) ?_ <;> split <;> (try split) <;> omega
      · exact ih.1 y hy
    · refine Int.le_trans (ih.2 ?_) ?_ <;> split <;> (try split) <;> omega
theorem leastL_map (f : Nat → Int) : ∀ (l : List Nat) (b : Int), leastL b (l.map f) = leastN f b l
  | [], b => rfl
  | x :: l, b => by
    show leastL _ (l.map f) = _
    rw [leastL_map f l]
    rfl
def offs (ms : List (List Int)) : List Int := ms.map (leastL (-1))
def rcols (ms : List (List Int)) (L : Nat) : List Int := (List.range L).map fun c => colF c (-1) ms (offs ms)
def rreduceP (ms : List (List Int)) (L : Nat) : Int := sumL (offs ms) + sumL (rcols ms L)
theorem colF_map {g : Nat → Nat} {h : List Int → List Int} {c : Nat} : ∀ (rows : List (List Int)) (o : List Int) (b : Int), (∀ row ∈ rows, (h row).getD c 0 = row.getD (g c) 0) → colF c b (rows.map h) o = colF (g c) b rows o
  | [], o, b, _ => by cases o <;> rfl
  | row :: rows, [], b, _ => rfl
  | row :: rows, x :: o, b, hh => by
    have h1 := hh row (by simp)
    simp only [List.map_cons, colF]
    rw [h1]
    exact colF_map rows o _ fun q hq => hh q (by simp [hq])
theorem rreduce_eq (rows : List (List Int)) (l : List Nat) : rreduceP (rows.map fun row => l.map fun c => row.getD c 0) l.length = reduceP rows l := by
  have ho : offs (rows.map fun row => l.map fun c => row.getD c 0) = offL rows l := by
    unfold offs offL
    rw [List.map_map]
    refine List.map_congr_left fun row _ => ?_
    exact leastL_map (fun c => row.getD c 0) l (-1)
  unfold rreduceP reduceP rcols
  rw [ho]
  congr 2
  apply List.ext_getElem
  · simp
  intro k h1 h2
  simp only [List.length_map, List.length_range] at h1 h2
  rw [List.getElem_map, List.getElem_map, List.getElem_range]
  have := colF_map (g := fun k => l.getD k 0) (h := fun row => l.map fun c => row.getD c 0) (c := k) rows (offL rows l) (-1) (fun row _ => by
    simp [List.getD, h2])
  rw [this]
  simp [List.getD, h2]
theorem colF_pos {c : Nat} {B : Int} : ∀ {rows : List (List Int)} {off : List Int} {b : Int}, (∀ (k : Nat) (x : List Int) (o : Int), rows[k]? = some x → off[k]? = some o → 0 ≤ x.getD c 0 - o ∧ x.getD c 0 - o ≤ B) → rows.length = off.length → b ≤ B → (0 ≤ b ∨ rows ≠ []) → 0 ≤ colF c b rows off ∧ colF c b rows off ≤ B
  | [], off, b, _, _, h1, h2 => by
    rcases h2 with h2 | h2
    · cases off <;> exact ⟨h2, h1⟩
    · exact absurd rfl h2
  | row :: rows, [], b, _, hl, _, _ => by simp at hl
  | row :: rows, o :: off, b, h, hl, h1, h2 => by
    have hx := h 0 row o rfl rfl
    unfold colF
    refine colF_pos (fun k x o h3 h4 => h (k + 1) x o h3 h4) (by simpa using hl) ?_ (.inl ?_) <;> split <;> (try split) <;> omega
theorem sum_take_snoc {l : List Int} {k : Nat} {x : Int} (h : l[k]? = some x) : sumL (l.take (k + 1)) = sumL (l.take k) + x := by
  rw [List.take_add_one, h, sumL_app]
  simp [sumL]
theorem sum_take_bd {B : Int} {l : List Int} (h : ∀ x ∈ l, 0 ≤ x ∧ x ≤ B) (hB : 0 ≤ B) : ∀ k : Nat, 0 ≤ sumL (l.take k) ∧ sumL (l.take k) ≤ B * k
  | 0 => by simp [sumL]
  | k + 1 => by
    have h1 := sum_take_bd h hB k
    have e : B * ((k + 1 : Nat) : Int) = B * k + B := by rw [Int.natCast_add, Int.mul_add]; simp
    rw [e]
    by_cases hk : k < l.length
    · have ek : l[k]? = some l[k] := List.getElem?_eq_getElem hk
      rw [sum_take_snoc ek]
      have := h _ (List.getElem_mem hk)
      omega
    · rw [List.take_of_length_le (by omega)]
      rw [List.take_of_length_le (by omega)] at h1
      omega
/-- the rows' least ones, as the cells say -/
def lessC (off : List Int) (k : Nat) : Array Value := ((List.range 30).map fun j => Value.int .i64 (if j < k then off.getD j 0 else 0)).toArray
theorem lessC_at {off : List Int} {k j : Nat} (hj : j < 30) : (lessC off k)[j]? = some (.int .i64 (if j < k then off.getD j 0 else 0)) := by
  unfold lessC
  simp [hj]
theorem lessC_set {off : List Int} {k : Nat} {x : Int} (hk : k < 30) (hx : off[k]? = some x) : (lessC off k).setIfInBounds k (.int .i64 x) = lessC off (k + 1) := by
  apply Array.ext_getElem?
  intro i
  by_cases hi : i < 30
  · rw [lessC_at hi]
    by_cases e : k = i
    · subst e
      rw [Array.getElem?_setIfInBounds_self_of_lt (by unfold lessC; simp; omega), if_pos (by omega), getD_some hx]
    · rw [Array.getElem?_setIfInBounds_ne e, lessC_at hi]
      by_cases hik : i < k
      · rw [if_pos hik, if_pos (by omega)]
      · rw [if_neg hik, if_neg (by omega)]
  · rw [Array.getElem?_eq_none (by unfold lessC; simp; omega), Array.getElem?_eq_none (by unfold lessC; simp; omega)]
abbrev less0 : Array Value := #[.int .i64 0, .int .i64 0, .int .i64 0, .int .i64 0, .int .i64 0, .int .i64 0, .int .i64 0, .int .i64 0, .int .i64 0, .int .i64 0, .int .i64 0, .int .i64 0, .int .i64 0, .int .i64 0, .int .i64 0, .int .i64 0, .int .i64 0, .int .i64 0, .int .i64 0, .int .i64 0, .int .i64 0, .int .i64 0, .int .i64 0, .int .i64 0, .int .i64 0, .int .i64 0, .int .i64 0, .int .i64 0, .int .i64 0, .int .i64 0]
theorem lessC_zero (off : List Int) : lessC off 0 = less0 := by
  apply Array.ext_getElem?
  intro i
  by_cases hi : i < 30
  · rw [lessC_at hi, if_neg (by omega)]
    have : i = 0 ∨ i = 1 ∨ i = 2 ∨ i = 3 ∨ i = 4 ∨ i = 5 ∨ i = 6 ∨ i = 7 ∨ i = 8 ∨ i = 9 ∨ i = 10 ∨ i = 11 ∨ i = 12 ∨ i = 13 ∨ i = 14 ∨ i = 15 ∨ i = 16 ∨ i = 17 ∨ i = 18 ∨ i = 19 ∨ i = 20 ∨ i = 21 ∨ i = 22 ∨ i = 23 ∨ i = 24 ∨ i = 25 ∨ i = 26 ∨ i = 27 ∨ i = 28 ∨ i = 29 := by omega
    rcases this with rfl | rfl | rfl | rfl | rfl | rfl | rfl | rfl | rfl | rfl | rfl | rfl | rfl | rfl | rfl | rfl | rfl | rfl | rfl | rfl | rfl | rfl | rfl | rfl | rfl | rfl | rfl | rfl | rfl | rfl <;> rfl
  · rw [Array.getElem?_eq_none (by unfold lessC; simp; omega), Array.getElem?_eq_none (by simp; omega)]

set_option maxRecDepth 100000 in
theorem rreduce_nil (A : Option Addr) (mc : Nat) (w : World) : Calls Tryd.prog 52 #[.slice A 0 mc] w fun e w' => e = .returned (.int .i64 0) ∧ Ext w w' := by
  go_enter Tryd.func52, Tryd.ntmps52
  go_wp2_with (fail)
  refine wp_loop_rounds 1 ?_
  rw [rounds_succ]
  go_wp2_with (fail)
  refine wp_loop_rounds 1 ?_
  rw [rounds_succ]
  go_wp2_with (fail)
  go_ret
  exact ⟨rfl, by (repeat (first | assumption | exact Ext.rf _ | apply Ext.drew | apply Ext.drewN | apply Ext.alloc))⟩
set_option maxRecDepth 100000 in
set_option maxHeartbeats 8000000 in
theorem rreduce_any (ms : List (List Int)) (L : Nat) (M : Option Addr) (mc : Nat) (w : World) (hM : RdE 1 RInts w M ms) (hl : ∀ row ∈ ms, row.length = L) (h0 : 0 < L) (hL : L ≤ 24) (hn0 : 0 < ms.length) (hn : ms.length ≤ 24) (num : ∀ row ∈ ms, ∀ x ∈ row, 0 ≤ x ∧ x ≤ 2147483647) :
    Calls Tryd.prog 52 #[.slice M ms.length mc] w fun e w' => e = .returned (.int .i64 (rreduceP ms L)) ∧ Ext w w' := by
  have LO : (offs ms).length = ms.length := by simp [offs]
  have OB : ∀ x ∈ offs ms, 0 ≤ x ∧ x ≤ 2147483647 := fun x hx => by
    obtain ⟨row, hr, rfl⟩ := List.mem_map.1 hx
    exact leastL_bd (num row hr) (by omega) (.inr (by intro e; have := hl row hr; rw [e] at this; simp at this; omega))
  have OG : ∀ k row, ms[k]? = some row → (offs ms)[k]? = some (leastL (-1) row) := fun k row h => by unfold offs; rw [List.getElem?_map, h]; rfl
  have CB : ∀ x ∈ rcols ms L, 0 ≤ x ∧ x ≤ 2147483647 := fun x hx => by
    obtain ⟨c, hc, rfl⟩ := List.mem_map.1 hx
    have hc := List.mem_range.1 hc
    refine colF_pos (fun k row o h1 h2 => ?_) LO.symm (by omega) (.inr (by intro e; rw [e] at hn0; simp at hn0))
    rw [OG k row h1] at h2
    obtain rfl := Option.some.inj h2
    have hr := List.mem_of_getElem? h1
    have hcl : c < row.length := by rw [hl row hr]; exact hc
    have e : row.getD c 0 = row[c] := by simp [List.getD, hcl]
    have h3 := (leastL_le (b := -1) fun x hx => (num row hr x hx).1).1 _ (List.getElem_mem hcl)
    have h4 := num row hr _ (List.getElem_mem hcl)
    have h5 := OB _ (List.mem_map.2 ⟨row, hr, rfl⟩)
    rw [e]
    omega
  have CG : ∀ c, c < L → (rcols ms L)[c]? = some (colF c (-1) ms (offs ms)) := fun c hc => by simp [rcols, hc]
  have LC : (rcols ms L).length = L := by simp [rcols]
  have TOT : Hid (rreduceP ms L = sumL (offs ms) + sumL (rcols ms L)) := rfl
  generalize rreduceP ms L = tot at *
  have SB := sum_take_bd OB (by omega)
  have SC := sum_take_bd CB (by omega)
  have LZ := lessC_zero (offs ms)
  generalize offs ms = off at *
  generalize rcols ms L = cols at *
  have START : Hid (Ext w (w.alloc (.cells #[.int .i64 0, .int .i64 0, .int .i64 0, .int .i64 0, .int .i64 0, .int .i64 0, .int .i64 0, .int .i64 0, .int .i64 0, .int .i64 0, .int .i64 0, .int .i64 0, .int .i64 0, .int .i64 0, .int .i64 0, .int .i64 0, .int .i64 0, .int .i64 0, .int .i64 0, .int .i64 0, .int .i64 0, .int .i64 0, .int .i64 0, .int .i64 0, .int .i64 0, .int .i64 0, .int .i64 0, .int .i64 0, .int .i64 0, .int .i64 0] 83)) ∧ Blk (w.alloc (.cells #[.int .i64 0, .int .i64 0, .int .i64 0, .int .i64 0, .int .i64 0, .int .i64 0, .int .i64 0, .int .i64 0, .int .i64 0, .int .i64 0, .int .i64 0, .int .i64 0, .int .i64 0, .int .i64 0, .int .i64 0, .int .i64 0, .int .i64 0, .int .i64 0, .int .i64 0, .int .i64 0, .int .i64 0, .int .i64 0, .int .i64 0, .int .i64 0, .int .i64 0, .int .i64 0, .int .i64 0, .int .i64 0, .int .i64 0, .int .i64 0] 83)) w.heap.size 83 (lessC off 0)) :=
    ⟨(Ext.rf _).alloc _, by rw [LZ]; exact .new rfl⟩
  replace LO := Lib.hid LO
  replace OB := Lib.hid OB
  replace OG := Lib.hid OG
  replace CB := Lib.hid CB
  replace CG := Lib.hid CG
  replace LC := Lib.hid LC
  replace SB := Lib.hid SB
  replace SC := Lib.hid SC
  replace hl := Lib.hid hl
  replace num := Lib.hid num
  replace hM := Lib.hid hM
  clear LZ
  go_enter Tryd.func52, Tryd.ntmps52
  go_wp2_with (fail)
  go_loopw [5, 3] (fun v s wr => ∃ k : Nat, v = .int .i64 k ∧ s = .int .i64 (sumL (off.take k)) ∧ k ≤ ms.length ∧ Hid (Ext w wr ∧ Blk wr w.heap.size 83 (lessC off k))) (fun v _ _ => ms.length - (intOf v).toNat)
  case atStart => exact ⟨0, rfl, rfl, by omega, START⟩
  case round =>
    obtain ⟨wo, rfl⟩ : ∃ wo : World, wo = wr := ⟨_, rfl⟩
    obtain ⟨k, rfl, rfl, hk, HH⟩ := hrel
    clear START
    by_cases hlt : k < ms.length
    · obtain ⟨Y, bL⟩ := HH.out
      obtain ⟨mb, mo, D, row, d, rfl, _, cD, er, _, rD, iD, ld, md⟩ := (hM.out.ext Y fun _ _ h => h.ext Y).ints hlt
      have hr := List.mem_of_getElem? er.out
      have eo := OG.out k row er.out
      have ob := OB.out _ (List.mem_of_getElem? eo)
      have hrl : Hid (row.length = L) := hl.out row hr
      have q1 : (k : Int) < (ms.length : Int) := by omega
      obtain ⟨o, ho⟩ : ∃ o, Hid (leastL (-1) row = o) := ⟨_, rfl⟩
      rw [ho.out] at eo ob
      have SN := sum_take_snoc eo
      have sb1 := SB.out k
      obtain ⟨s, hs⟩ : ∃ s, Hid (s = sumL (off.take k)) := ⟨_, rfl⟩
      rw [← hs.out] at SN sb1 ⊢
      have hnum := Lib.hid (num.out row hr)
      have zD := World.block_lt_of_cell? _ _ cD
      replace SN := Lib.hid SN
      replace eo := Lib.hid eo
      replace Y := Lib.hid Y
      replace bL := Lib.hid bL
      replace rD := Lib.hid rD
      replace iD := Lib.hid iD
      clear er HH hr
      go_wp2_with (fail)
      go_loopw [7, 6] (fun v bv wr => ∃ (j : Nat) (bb : Int), v = .int .i64 j ∧ bv = .int .i64 bb ∧ j ≤ row.length ∧ Hid (leastL bb (row.drop j) = o) ∧ Hid (Ext wo wr)) (fun v _ _ => row.length - (intOf v).toNat)
      case atStart => exact ⟨0, -1, rfl, rfl, by omega, ho, Ext.rf _⟩
      case round =>
        obtain ⟨wi, rfl⟩ : ∃ wi : World, wi = wr := ⟨_, rfl⟩
        obtain ⟨j, bb, rfl, rfl, hj, HB, YI⟩ := hrel
        have cD' : wi.cell? ⟨mb, mo + k, none⟩ = some (.slice D row.length d) := keepEL YI.out zD cD
        by_cases hjl : j < row.length
        · obtain ⟨rb, ro, x, rfl, _, cx, ex, dx⟩ := (rD.out.ext YI.out).at hjl
          have q2 : (j : Int) < (row.length : Int) := by omega
          have hx := hnum.out x (List.mem_of_getElem? ex.out)
          have x0 : (0 : Int) ≤ x := hx.1
          have HB2 : Hid (leastL (if bb < 0 then x else if x < bb then x else bb) (row.drop (j + 1)) = o) := by
            have h := HB.out
            rw [dx.out] at h
            exact h
          clear HB ex dx hx
          by_cases hb0 : bb < 0
          · rw [if_pos hb0] at HB2
            go_wp2_with (fail)
            go_roundw
            case rel => exact ⟨j + 1, x, by go_num, rfl, by omega, HB2, YI⟩
            case measure => simp [intOf]; omega
          · rw [if_neg hb0] at HB2
            by_cases hxb : x < bb
            · rw [if_pos hxb] at HB2
              go_wp2_with (fail)
              go_roundw
              case rel => exact ⟨j + 1, x, by go_num, rfl, by omega, HB2, YI⟩
              case measure => simp [intOf]; omega
            · rw [if_neg hxb] at HB2
              go_wp2_with (fail)
              go_roundw
              case rel => exact ⟨j + 1, bb, by go_num, rfl, by omega, HB2, YI⟩
              case measure => simp [intOf]; omega
        · have q2 : ¬ (j : Int) < (row.length : Int) := by omega
          have hbo : bb = o := by
            have h := HB.out
            rw [List.drop_of_length_le (by omega)] at h
            exact h
          obtain rfl := hbo
          have nb : ¬ bb < 0 := by omega
          have bI := bL.out.ext YI.out
          have fl := bI.free k
          have k30 : (k : Int) < 30 := by omega
          have hw1 : IntKind.i64.wrap (s + bb) = s + bb := IntWalk.i64_in _ (by omega)
          have NX : Hid (Ext w (wi.setCell ⟨w.heap.size, k, none⟩ (.int .i64 bb)) ∧ Blk (wi.setCell ⟨w.heap.size, k, none⟩ (.int .i64 bb)) w.heap.size 83 (lessC off (k + 1))) := by
            refine ⟨(Y.out.tr YI.out).setNew (p := ⟨w.heap.size, k, none⟩) (Nat.le_refl _) _, ?_⟩
            rw [← lessC_set (by omega) eo.out]
            exact bI.set k _
          have cl : wi.cell? ⟨w.heap.size, k, none⟩ = some (.int .i64 (if k < k then off.getD k 0 else 0)) := by rw [bI.cell, lessC_at (by omega)]
          clear HB bI ho
          go_wp2_with (first | go_quiet (fail) | go_region)
          go_roundw
          case rel => exact ⟨k + 1, by go_num, by rw [SN.out], by omega, NX.out⟩
          case measure => simp [intOf]; omega
    · obtain rfl : k = ms.length := by omega
      have q1 : ¬ (ms.length : Int) < (ms.length : Int) := by omega
      have SO : Hid (sumL (off.take ms.length) = sumL off) := by
        have h : sumL (off.take ms.length) = sumL off := by rw [← LO.out, List.take_length]
        exact h
      have so := SB.out ms.length
      rw [SO.out] at so ⊢
      obtain ⟨Y, bL⟩ := HH.out
      replace Y := Lib.hid Y
      replace bL := Lib.hid bL
      have TOT2 : Hid (tot = sumL off + sumL cols) := TOT.out
      obtain ⟨s0, hs0⟩ : ∃ s0, Hid (s0 = sumL off) := ⟨_, rfl⟩
      rw [← hs0.out] at so TOT2 ⊢
      clear HH SO TOT SB
      go_wp2_with (fail)
      go_loopw [8, 3] (fun v s wr => ∃ c : Nat, v = .int .i64 c ∧ s = .int .i64 (s0 + sumL (cols.take c)) ∧ c ≤ L ∧ Hid (Ext wo wr)) (fun v _ _ => L - (intOf v).toNat)
      case atStart => exact ⟨0, rfl, by rw [List.take_zero]; simp [sumL], by omega, Ext.rf _⟩
      case round =>
        obtain ⟨wp, rfl⟩ : ∃ wp : World, wp = wr := ⟨_, rfl⟩
        obtain ⟨c, rfl, rfl, hc, YP⟩ := hrel
        have sc1 := SC.out c
        obtain ⟨mb, mo, D0, row0, d0, rfl, zb, cD0, er0, _, _, _, _, _⟩ := (hM.out.ext (Y.out.tr YP.out) fun _ _ h => h.ext (Y.out.tr YP.out)).ints (r := 0) hn0
        have hl0 : row0.length = L := hl.out row0 (List.mem_of_getElem? er0.out)
        rw [hl0] at cD0
        rw [Nat.add_zero] at cD0
        clear er0 hl0
        by_cases hcl : c < L
        · have q2 : (c : Int) < (L : Int) := by omega
          have ec := CG.out c hcl
          obtain ⟨cv, hcv⟩ : ∃ cv, Hid (colF c (-1) ms off = cv) := ⟨_, rfl⟩
          rw [hcv.out] at ec
          have cb := CB.out _ (List.mem_of_getElem? ec)
          have SN := sum_take_snoc ec
          obtain ⟨s1, hs1⟩ : ∃ s1, Hid (s1 = sumL (cols.take c)) := ⟨_, rfl⟩
          rw [← hs1.out] at SN sc1 ⊢
          replace SN := Lib.hid SN
          clear ec
          go_wp2_with (fail)
          go_loopw [10, 9] (fun v bv wr => ∃ (k : Nat) (bb : Int), v = .int .i64 k ∧ bv = .int .i64 bb ∧ k ≤ ms.length ∧ Hid (colF c bb (ms.drop k) (off.drop k) = cv) ∧ Hid (Ext wp wr)) (fun v _ _ => ms.length - (intOf v).toNat)
          case atStart => exact ⟨0, -1, rfl, rfl, by omega, hcv, Ext.rf _⟩
          case round =>
            obtain ⟨wi, rfl⟩ : ∃ wi : World, wi = wr := ⟨_, rfl⟩
            obtain ⟨k, bb, rfl, rfl, hk, HB, YI⟩ := hrel
            by_cases hkl : k < ms.length
            · have YA := (Y.out.tr YP.out).tr YI.out
              obtain ⟨mb', mo', D, row, d, hq, _, cD, er, dr, rD, iD, ld, md⟩ := (hM.out.ext YA fun _ _ h => h.ext YA).ints hkl
              obtain ⟨rfl, rfl⟩ : mb = mb' ∧ mo = mo' := by simpa using hq
              have hr := List.mem_of_getElem? er.out
              have eo := OG.out k row er.out
              have hrl := hl.out row hr
              obtain ⟨rb, ro, x, rfl, _, cx, ex, _⟩ := rD.at (k := c) (by omega)
              have hx := num.out row hr x (List.mem_of_getElem? ex.out)
              have x0 : (0 : Int) ≤ x := hx.1
              have ob := OB.out _ (List.mem_of_getElem? eo)
              obtain ⟨o, ho⟩ : ∃ o, Hid (leastL (-1) row = o) := ⟨_, rfl⟩
              rw [ho.out] at eo ob
              have dof : off.drop k = o :: off.drop (k + 1) := by
                have hkl2 : k < off.length := by rw [LO.out]; exact hkl
                rw [List.drop_eq_getElem_cons hkl2]
                rw [List.getElem?_eq_getElem hkl2] at eo
                rw [Option.some.inj eo]
              have HB2 : Hid (colF c (if bb < 0 then x - o else if x - o < bb then x - o else bb) (ms.drop (k + 1)) (off.drop (k + 1)) = cv) := by
                have h := HB.out
                rw [dr.out, dof, colF, getD_some ex.out] at h
                exact h
              have cl : wi.cell? ⟨w.heap.size, k, none⟩ = some (.int .i64 o) := by
                rw [((bL.out.ext YP.out).ext YI.out).cell, lessC_at (by omega), if_pos hkl, getD_some eo]
              have q3 : (k : Int) < (ms.length : Int) := by omega
              have q4 : (c : Int) < (row.length : Int) := by omega
              have k30 : (k : Int) < 30 := by omega
              have hw2 : IntKind.i64.wrap (x - o) = x - o := IntWalk.i64_in _ (by omega)
              replace hrl := Lib.hid hrl
              clear HB ex er dr eo dof hr hq rD
              by_cases hb0 : bb < 0
              · rw [if_pos hb0] at HB2
                have t1 : decide (bb < 0) = true := decide_eq_true hb0
                go_wp2_with (fail)
                go_quiet (fail)
                go_wp2_with (fail)
                go_quiet (fail)
                go_wp2_with (fail)
                go_roundw
                case rel => exact ⟨k + 1, x - o, by go_num, rfl, by omega, HB2, YI.out.drewN _⟩
                case measure => simp [intOf]; omega
              · rw [if_neg hb0] at HB2
                have t1 : decide (bb < 0) = false := decide_eq_false hb0
                by_cases hxb : x - o < bb
                · rw [if_pos hxb] at HB2
                  have t2 : decide (x - o < bb) = true := decide_eq_true hxb
                  go_wp2_with (fail)
                  go_quiet (fail)
                  go_wp2_with (fail)
                  go_quiet (fail)
                  go_wp2_with (fail)
                  go_roundw
                  case rel => exact ⟨k + 1, x - o, by go_num, rfl, by omega, HB2, YI.out.drewN _⟩
                  case measure => simp [intOf]; omega
                · rw [if_neg hxb] at HB2
                  have t2 : decide (x - o < bb) = false := decide_eq_false hxb
                  go_wp2_with (fail)
                  go_quiet (fail)
                  go_wp2_with (fail)
                  go_roundw
                  case rel => exact ⟨k + 1, bb, by go_num, rfl, by omega, HB2, YI.out.drewN _⟩
                  case measure => simp [intOf]; omega
            · have q3 : ¬ (k : Int) < (ms.length : Int) := by omega
              have hbo : bb = cv := by
                have h := HB.out
                rw [List.drop_of_length_le (by omega)] at h
                exact h
              obtain rfl := hbo
              have nb : ¬ bb < 0 := by omega
              have hw1 : IntKind.i64.wrap (s0 + s1 + bb) = s0 + s1 + bb := IntWalk.i64_in _ (by omega)
              clear HB hcv
              go_wp2_with (fail)
              go_roundw
              case rel => exact ⟨c + 1, by go_num, by rw [SN.out, Int.add_assoc], by omega, YP.out.tr YI.out⟩
              case measure => simp [intOf]; omega
        · obtain rfl : c = L := by omega
          have q2 : ¬ (c : Int) < (c : Int) := by omega
          have FIN : Hid (s0 + sumL (cols.take c) = tot) := by
            have h : s0 + sumL (cols.take c) = tot := by rw [TOT2.out, ← LC.out, List.take_length]
            exact h
          go_wp2_with (fail)
          go_ret
          exact ⟨ret_i FIN.out, Y.out.tr YP.out⟩
end Go.Proofs.YtpngflmngnjjoaaDoor
namespace Go.Proofs.YtpngflmngnjjoaaDoor
open Go.RowKit Go.ChangeShapes Go.WideShapes Go.ChangeAt Go.Deep

theorem rde_of {w : World} {base n c : Nat} {C : Option Addr} {us : List Value} {rows : List (List Int)} (h3 : OwV w base 22 1 C n c us) (h4 : RowsO w base us rows) (hi : ∀ r ∈ rows, Ints r) : RdE 1 RInts w C rows := by
  rcases h3.read with h0 | ⟨b', off, cur, hA, hb, hc⟩
  · left
    have := h4.1
    rw [h0] at this
    exact List.eq_nil_of_length_eq_zero this.symm
  · refine .inr ⟨b', off, hA, (Array.getElem?_eq_some_iff.1 hb).1, fun k r hr => ?_⟩
    obtain ⟨A', c', hu, ho⟩ := h4.2 k r hr
    refine ⟨[.slice A' r.length c'], ⟨A', c', rfl, ho.read, hi r (List.mem_of_getElem? hr), ho.le.1, ho.le.2⟩, rfl, fun j v hj => ?_⟩
    cases j with
    | zero =>
      simp at hj
      subst hj
      rw [cell_of_row w b' _ cur _ (0, 0) hb]
      simpa using hc k _ hu
    | succ j => simp at hj
def subM (rows : List (List Int)) (l : List Nat) : List (List Int) := rows.map fun row => l.map fun c => row.getD c 0
set_option maxRecDepth 100000 in
set_option maxHeartbeats 8000000 in
theorem rbound12_any (i : InstP) (us : List Value) (P : Option Addr) (pc : Nat) (p : List Int) (w : World) (H : RInst w us i) (ok : SquareOk i) (hP : RdI w P p) (lp : p.length ≤ 1000000000) :
    Calls Tryd.prog 18 #[.agg (List.toArray us), .slice P p.length pc] w fun e w' => e = .returned (.tuple #[.int .i64 (boundA i.cost p).1, .int .i64 (boundA i.cost p).2]) ∧ Ext w w' := by
  have rok := rows_ok ok
  have l1 := rok.n1
  have l2 := rok.n2
  have hnn : i.n = (i.cost.length : Int) := ok.len.symm
  have FR := fun (W : World) (x : Ext w W) => rfree_any i us P pc p W (H.ext x) i.cost.length hnn l1 l2 (hP.ext x) lp
  clear ok
  obtain ⟨kind, nn, cap, xw, xv, co⟩ := i
  obtain ⟨A, a, B, b, D, d, rfl, -, -, ⟨hC, -, -⟩⟩ := H
  simp only at *
  subst hnn
  obtain ⟨r, hr⟩ : ∃ r, Hid (freeP co.length p = r) := ⟨_, rfl⟩
  rw [hr.out] at FR
  replace hP := Lib.hid hP
  replace hC := Lib.hid hC
  have B1 : Hid (Blk (w.alloc (.cells #[.int .i64 kind, .int .i64 co.length, .int .i64 cap, .slice A xw.length a, .slice B xv.length b, .slice D co.length d] 25)) w.heap.size 25 #[.int .i64 kind, .int .i64 co.length, .int .i64 cap, .slice A xw.length a, .slice B xv.length b, .slice D co.length d]) := .new rfl
  cases r with
  | none =>
    have e : boundA co p = (0, 1) := by unfold boundA; rw [hr.out]
    rw [e]
    unfold RFree at FR
    replace FR := Lib.hid FR
    go_enter Tryd.func18, Tryd.ntmps18
    go_wp2_with (fail)
    refine (FR.out _ (by (repeat (first | assumption | exact Ext.rf _ | apply Ext.drew | apply Ext.drewN | apply Ext.alloc)))).mono ?_
    rintro e w1 ⟨rfl, x1⟩
    have X1 := Lib.hid (Ext.tr (a := w) (by (repeat (first | assumption | exact Ext.rf _ | apply Ext.drew | apply Ext.drewN | apply Ext.alloc))) x1)
    clear x1
    go_wp2_with (fail)
    go_ret2
    exact ⟨rfl, X1.out⟩
  | some m =>
    obtain ⟨hpl, hin, hS⟩ := freeP_in l2 hr.out
    have hlen := freeP_len l2 hr.out
    obtain ⟨tot, ht⟩ : ∃ tot, Hid (tot = costF co p + (if p.length < co.length then reduceP (co.drop p.length) (memsM m) else 0)) := ⟨_, rfl⟩
    have e : boundA co p = (tot, 0) := by unfold boundA; rw [hr.out]; simp only [← ht.out]
    rw [e]
    clear e
    have RB := Lib.hid (reduceP_bd (rows := co.drop p.length) (m := m) (by rw [List.length_drop]; omega) (fun row hr c hc => rok.get (List.mem_of_mem_drop hr) (hS.2 c hc)))
    have hsub := Lib.hid hS.2
    replace FR := fun (W : World) (x : Ext w W) => (show Calls _ _ _ W (FreeSome m W) from FR W x)
    unfold FreeSome at FR
    replace FR := Lib.hid FR
    clear hr hS
    generalize memsM m = l at *
    replace hin := Lib.hid hin
    replace rok := Lib.hid rok
    go_enter Tryd.func18, Tryd.ntmps18
    go_wp2_with (fail)
    refine (FR.out _ (by (repeat (first | assumption | exact Ext.rf _ | apply Ext.drew | apply Ext.drewN | apply Ext.alloc)))).mono ?_
    rintro e w1 ⟨A1, c1, rfl, o1, x1⟩
    have X1 := Lib.hid (Ext.tr (a := w) (by (repeat (first | assumption | exact Ext.rf _ | apply Ext.drew | apply Ext.drewN | apply Ext.alloc))) x1)
    have BB := Lib.hid (B1.out.ext x1)
    replace o1 := Lib.hid o1.read
    clear x1
    go_wp2_with (fail)
    go_loopw [9, 8] (fun v s wr => ∃ (k : Nat) (su : Int), v = .int .i64 k ∧ s = .int .i64 su ∧ k ≤ p.length ∧ Hid (costF co (p.take k) = su) ∧ Hid (Ext w1 wr)) (fun v _ _ => p.length - (intOf v).toNat)
    case atStart => exact ⟨0, 0, rfl, rfl, by omega, (by cases co <;> rfl : costF co (p.take 0) = 0), Ext.rf _⟩
    case round =>
      obtain ⟨wo, rfl⟩ : ∃ wo : World, wo = wr := ⟨_, rfl⟩
      obtain ⟨k, su, rfl, rfl, hk, HS, Y⟩ := hrel
      have bdS : Hid (0 ≤ su ∧ su ≤ 2147483647 * 24) := by
        have h1 := costF_bd (B := 2147483647) (rows := co) (p := p.take k) (by omega) fun row hr c hc => by
          have := hin.out c (List.mem_of_mem_take hc)
          exact rok.out.get hr (by omega)
        have h2 : (p.take k).length ≤ 24 := by rw [List.length_take]; omega
        have h : 0 ≤ su ∧ su ≤ 2147483647 * 24 := by
          rw [← HS.out]
          omega
        exact h
      have d5 : wo.cell? ⟨w.heap.size, 5, none⟩ = some (.slice D co.length d) := (BB.out.ext Y.out).cell 5
      have d1 : wo.cell? ⟨w.heap.size, 1, none⟩ = some (.int .i64 co.length) := (BB.out.ext Y.out).cell 1
      have XW := Lib.hid (X1.out.tr Y.out)
      by_cases hlt : k < p.length
      · have hkr : k < co.length := by omega
        obtain ⟨cb, cof, D', row, d', rfl, _, cD, er, _, rD, iD, ld, md⟩ := (hC.out.ext XW.out fun _ _ h => h.ext XW.out).ints hkr
        have hmem := List.mem_of_getElem? er.out
        obtain ⟨pb, po, c, rfl, zp, cp, ep, _⟩ := (hP.out.ext XW.out).at hlt
        have hc := hin.out c (List.mem_of_getElem? ep.out)
        obtain ⟨i, rfl⟩ : ∃ i : Nat, c = (i : Int) := ⟨c.toNat, by omega⟩
        have lrow := rok.out.row row hmem
        obtain ⟨rb, ro, y, rfl, zy, cy, ey, _⟩ := rD.at (k := i) (by omega)
        have yb := rok.out.get hmem (c := i) (by omega)
        rw [getD_some ey.out] at yb
        have b1 := bdS.out
        have hw : IntKind.i64.wrap (su + y) = su + y := IntWalk.i64_in _ (by omega)
        have HS2 : Hid (costF co (p.take (k + 1)) = su + y) := by
          have h : costF co (p.take (k + 1)) = su + y := by
            rw [costF_snoc er.out ep.out, HS.out, Int.toNat_natCast, getD_some ey.out]
          exact h
        have q1 : (k : Int) < (co.length : Int) := by omega
        have q2 : (k : Int) < (p.length : Int) := by omega
        have q3 : (i : Int) < (row.length : Int) := by omega
        clear er ep ey lrow b1 yb HS hc rD hmem d1
        go_wp2_with (fail)
        go_quiet (fail)
        go_wp2_with (fail)
        go_roundw
        case rel => exact ⟨k + 1, su + y, by go_num, rfl, by omega, HS2, Y.out.drewN _⟩
        case measure => simp [intOf]; omega
      · obtain rfl : k = p.length := by omega
        have HS2 : Hid (costF co p = su) := by
          have h := HS.out
          rw [List.take_length] at h
          exact h
        have q0 : ¬ ((p.length : Int) < (p.length : Int)) := by omega
        obtain ⟨i0, hi, hz0, hz1, hz2⟩ := info_parts (row_info)
        replace hi := Lib.hid hi
        replace hz0 := Lib.hid hz0
        replace hz1 := Lib.hid hz1
        replace hz2 := Lib.hid hz2
        have START : Hid (OwV wo w1.heap.size 22 1 none 0 0 [] ∧ RowsO wo w1.heap.size [] ((subM (co.drop p.length) l).take 0) ∧ Ext w1 wo) := ⟨OwV.nil _ _ _ _, RowsO.nil _ _, Y.out⟩
        clear HS d1 d5
        go_wp2_with (fail)
        go_loopw [11, 10] (fun v mv wr => ∃ (r k : Nat) (M' : Option Addr) (mc : Nat) (ws : List Value), v = .int .i64 r ∧ mv = .slice M' k mc ∧ Hid (r = p.length + k) ∧ r ≤ co.length ∧ Hid (OwV wr w1.heap.size 22 1 M' k mc ws ∧ RowsO wr w1.heap.size ws ((subM (co.drop p.length) l).take k) ∧ Ext w1 wr)) (fun v _ _ => co.length - (intOf v).toNat)
        case atStart => exact ⟨p.length, 0, none, 0, [], rfl, rfl, rfl, by omega, START⟩
        case round =>
          obtain ⟨wp, rfl⟩ : ∃ wp : World, wp = wr := ⟨_, rfl⟩
          obtain ⟨r, k, M', mc, ws, rfl, rfl, hrk, hr, HH⟩ := hrel
          clear START
          obtain ⟨oV, oR, YP⟩ := HH.out
          have XP := Lib.hid (X1.out.tr YP)
          have d1 : wp.cell? ⟨w.heap.size, 1, none⟩ = some (.int .i64 co.length) := (BB.out.ext YP).cell 1
          by_cases hrn : r < co.length
          · have q1 : (r : Int) < (co.length : Int) := by omega
            obtain ⟨cb, cof, D', row, d', rfl, zcb, cD, er, _, rD, iD, ld, md⟩ := (hC.out.ext XP.out fun _ _ h => h.ext XP.out).ints hrn
            have hmem := List.mem_of_getElem? er.out
            have lrow := Lib.hid (rok.out.row row hmem)
            have etk : Hid ((subM (co.drop p.length) l).take (k + 1) = (subM (co.drop p.length) l).take k ++ [l.map fun c => row.getD c 0]) := by
              have e0 : (subM (co.drop p.length) l)[k]? = some (l.map fun c => row.getD c 0) := by
                unfold subM
                rw [List.getElem?_map, List.getElem?_drop, ← hrk.out, er.out]
                rfl
              have h : (subM (co.drop p.length) l).take (k + 1) = (subM (co.drop p.length) l).take k ++ [l.map fun c => row.getD c 0] := by rw [List.take_add_one, e0]; rfl
              exact h
            have z1p := YP.size
            have S0 : Hid (OwI (wp.alloc (.cells #[] 3)) wp.heap.size (some ⟨wp.heap.size, 0, none⟩) 0 []) := OwI.new (xs := []) rfl (Nat.le_refl _) zero_le_maxLen
            have X0 : Hid (Ext wp (wp.alloc (.cells #[] 3))) := (Ext.rf _).alloc _
            have hk24 : k ≤ 24 := by have := hrk.out; omega
            replace oV := Lib.hid oV
            replace oR := Lib.hid oR
            replace YP := Lib.hid YP
            replace rD := Lib.hid rD
            have zD := World.block_lt_of_cell? _ _ cD
            clear er hmem HH
            go_wp2_with (fail)
            go_loopw [13, 12] (fun v rv wr => ∃ (j : Nat) (R' : Option Addr) (rc : Nat) (xs : List Int), v = .int .i64 j ∧ rv = .slice R' xs.length rc ∧ j ≤ l.length ∧ Hid (xs = (l.take j).map fun c => row.getD c 0) ∧ Hid (OwI wr wp.heap.size R' rc xs) ∧ Hid (Ext wp wr)) (fun v _ _ => l.length - (intOf v).toNat)
            case atStart => exact ⟨0, _, _, [], rfl, rfl, by omega, rfl, S0, X0⟩
            case round =>
              obtain ⟨wi, rfl⟩ : ∃ wi : World, wi = wr := ⟨_, rfl⟩
              obtain ⟨j, R', rc, xs, rfl, rfl, hj, hxs, oX, YI⟩ := hrel
              clear S0 X0
              have lxs : xs.length = j := by rw [hxs.out, List.length_map, List.length_take]; omega
              by_cases hjl : j < l.length
              · have YA := Lib.hid (YP.out.tr YI.out)
                have q2 : (j : Int) < (l.length : Int) := by omega
                have e5 : wp.cell? ⟨w.heap.size, 5, none⟩ = some (.slice (some ⟨cb, cof, none⟩) co.length d) := (BB.out.ext YP.out).cell 5
                have z5 : w.heap.size < wp.heap.size := (BB.out.ext YP.out).lt
                have d5 := keepEL YI.out z5 e5
                have cD' : wi.cell? ⟨cb, cof + r, none⟩ = some (.slice D' row.length d') := keepEL YI.out zD cD
                have ej : l[j]? = some l[j] := List.getElem?_eq_getElem hjl
                have hjs := hsub.out _ (List.getElem_mem hjl)
                have hxs2 : Hid (xs ++ [row.getD l[j] 0] = (l.take (j + 1)).map fun c => row.getD c 0) := by
                  have h : xs ++ [row.getD l[j] 0] = (l.take (j + 1)).map fun c => row.getD c 0 := by
                    rw [List.take_add_one, ej, List.map_append, ← hxs.out]; rfl
                  exact h
                generalize l[j] = c at *
                obtain ⟨lb, lo, xk, rfl, zl, ck, exk, _⟩ := (o1.out.ext YP.out).at (k := j) (by rw [intsN_len]; exact hjl)
                obtain rfl : xk = (c : Int) := by
                  have h := exk.out
                  rw [intsN_get ej] at h
                  exact (Option.some.inj h).symm
                obtain ⟨rb, ro, y, rfl, zy, cy, ey, _⟩ := rD.out.at (k := c) (by rw [lrow.out]; exact hjs)
                rw [getD_some ey.out] at hxs2
                have q3 : (c : Int) < (row.length : Int) := by rw [lrow.out]; omega
                have ck' := keepEL YI.out zl ck
                have cy' := keepEL YI.out zy cy
                have zpi := YI.out.size
                replace lxs := Lib.hid lxs
                have hj24 : j < 24 := by omega
                clear exk ej ey hjs
                go_wp2_with (fail)
                go_region_held3 (fun w' => w'.cell? ⟨w.heap.size, 5, none⟩ = some (.slice (some ⟨cb, cof, none⟩) co.length d) ∧ w'.cell? ⟨cb, cof + r, none⟩ = some (.slice (some ⟨rb, ro, none⟩) row.length d') ∧ w'.cell? ⟨lb, lo + j, none⟩ = some (.int .i64 (c : Int)) ∧ w'.cell? ⟨rb, ro + c, none⟩ = some (.int .i64 y)) (go_keep)
                  (first | (refine step_app_i _ (by rfl) _ _ (by rfl) wp.heap.size R' xs.length rc xs [y] (some ⟨wi.heap.size, 0, none⟩) 1 (by rfl) (by rfl) (by rfl) ?_ ?_ ?_ ?_ ?_; (refine OwI.ext oX.out ?_; (repeat (first | assumption | exact Ext.rf _ | apply Ext.drew | apply Ext.drewN | apply Ext.alloc))); (exact .blk (by (first | exact .new (by simp) | exact .drew (.new (by simp)) | exact .alloc (.new (by simp)) _ | exact .drew (.alloc (.new (by simp)) _) | exact .alloc (.alloc (.new (by simp)) _) _ | exact .drew (.alloc (.alloc (.new (by simp)) _) _) | (repeat (first | assumption | (refine Blk.new ?_; (focus (simp; done))) | apply Blk.drew | apply Blk.drewN | apply Blk.alloc)))) rfl); (have h8 := lxs.out; simp; omega); (simp; omega); rintro A7 c7 w7 o7 g7 _; have Y7 : Ext wp w7 := Ext.grow (a := wp) (Ext.tr YI.out (by (repeat (first | assumption | exact Ext.rf _ | apply Ext.drew | apply Ext.drewN | apply Ext.alloc)))) g7 (fun kk hkk => (oX.out.lt kk hkk).1); have s1 := keepEL Y7 z5 e5; have s2 := keepEL Y7 zD cD; have s3 := keepEL Y7 zl ck; have s4 := keepEL Y7 zy cy))
                have O7 : Hid (OwI w7 wp.heap.size A7 c7 (xs ++ [y])) := o7
                replace Y7 := Lib.hid Y7
                clear o7 g7 s1 s2 s3 s4
                go_wp2_with (fail)
                go_roundw
                case rel => exact ⟨j + 1, A7, c7, xs ++ [y], by go_num, by first | rfl | simp, by omega, hxs2, OwI.ext O7.out (by (repeat (first | assumption | exact Ext.rf _ | apply Ext.drew | apply Ext.drewN | apply Ext.alloc))), Ext.tr Y7.out (by (repeat (first | assumption | exact Ext.rf _ | apply Ext.drew | apply Ext.drewN | apply Ext.alloc)))⟩
                case measure => simp [intOf]; omega
              · obtain rfl : j = l.length := by omega
                have q2 : ¬ (l.length : Int) < (l.length : Int) := by omega
                have hxs2 : Hid (xs = l.map fun c => row.getD c 0) := by
                  have h := hxs.out
                  rw [List.take_length] at h
                  exact h
                have X6 := Lib.hid ((Ext.tr YI.out ((Ext.rf wi).alloc (.cells #[.slice R' xs.length rc] 22))))
                have oV5 := oV.out.ext YI.out
                have zz := YI.out.size
                have M5 := Lib.hid (oV5.ext ((Ext.rf wi).alloc (.cells #[.slice R' xs.length rc] 22)))
                clear oV5 hxs
                replace lxs := Lib.hid lxs
                go_wp2_with (at_builtin; refine wpl_app_v _ (e := 22) Tryd.underlying23 hi.out hz0.out hz1.out hz2.out (by simp [Value.cells]) (by omega) rfl _ _ rfl w1.heap.size M' k mc ws (some ⟨wi.heap.size, 0, none⟩) 1 1 [.slice R' xs.length rc] rfl rfl M5.out (RdV.blk (.new (by simp))).rdC (by simp) (by simp [Value.oneCell']) (by simp only [maxLen]; omega) (by omega) (by simp; omega) ?_; rintro C6 c6 w6 o6 g6 _)
                have M6 := M5.out.grownT g6
                have NEW : Hid (OwV w6 w1.heap.size 22 1 C6 (k + 1) c6 (ws ++ [.slice R' xs.length rc]) ∧ RowsO w6 w1.heap.size (ws ++ [.slice R' xs.length rc]) ((subM (co.drop p.length) l).take (k + 1)) ∧ Ext w1 w6) := by
                  refine ⟨o6, ?_, (YP.out.tr X6.out).modT M6 (Nat.le_refl _)⟩
                  rw [etk.out, ← hxs2.out]
                  exact ((oR.out.ext X6.out).modT M6 (by decide)).snoc (((oX.out.more z1p).ext ((Ext.rf _).alloc _)).modT M6 (by decide))
                clear o6 g6 M6
                go_wp2_with (fail)
                go_roundw
                case rel => exact ⟨r + 1, k + 1, C6, c6, _, by go_num, rfl, by have := hrk.out; show r + 1 = _ + (k + 1); omega, by omega, NEW⟩
                case measure => simp [intOf]; omega
          · obtain rfl : r = co.length := by omega
            have q1 : ¬ (co.length : Int) < (co.length : Int) := by omega
            have hk := hrk.out
            have lsub : (subM (co.drop p.length) l).length = k := by unfold subM; rw [List.length_map, List.length_drop]; omega
            rw [← lsub, List.take_length] at oR
            have bd1 := bdS.out
            have ht2 := ht.out
            rw [HS2.out] at ht2
            by_cases hk0 : k = 0
            · subst hk0
              have e0 : tot = su := by rw [ht2, if_neg (by omega)]; omega
              have RN := Lib.hid (fun (W : World) => rreduce_nil M' mc W)
              have hw9 : IntKind.i64.wrap (su + 0) = su := by rw [Int.add_zero]; exact IntWalk.i64_in _ (by omega)
              replace e0 := Lib.hid e0
              have YP' := Lib.hid YP
              clear HH oV oR YP ht2 hk lsub
              go_wp2_with (fail)
              refine (RN.out _).mono ?_
              rintro e w9 ⟨rfl, x9⟩
              go_wp2_with (fail)
              go_ret2
              rw [e0.out]
              exact ⟨by first | rfl | (congr 2; simp), XP.out.tr x9⟩
            · have e0 : tot = su + reduceP (co.drop p.length) l := by rw [ht2, if_pos (by omega)]
              have RE : Hid (∀ W, Ext wp W → Calls Tryd.prog 52 #[.slice M' k mc] W fun e w' => e = .returned (.int .i64 (reduceP (co.drop p.length) l)) ∧ Ext W w') := by
                intro W x
                have hsm : ∀ row ∈ subM (co.drop p.length) l, ∃ q ∈ co, row = l.map fun c => q.getD c 0 := fun row h => by
                  obtain ⟨q, hq, rfl⟩ := List.mem_map.1 h
                  exact ⟨q, List.mem_of_mem_drop hq, rfl⟩
                have hnum : ∀ row ∈ subM (co.drop p.length) l, ∀ x ∈ row, 0 ≤ x ∧ x ≤ 2147483647 := fun row h x hx => by
                  obtain ⟨q, hq, rfl⟩ := hsm row h
                  obtain ⟨c, hc, rfl⟩ := List.mem_map.1 hx
                  exact rok.out.get hq (hsub.out c hc)
                have h := rreduce_any (subM (co.drop p.length) l) l.length M' mc W (rde_of (oV.ext x) (oR.ext x) (fun r hr x hx => by have := hnum r hr x hx; omega)) (fun row h => by obtain ⟨q, _, rfl⟩ := hsm row h; simp) (by omega) (by omega) (by omega) (by omega) hnum
                rw [show rreduceP (subM (co.drop p.length) l) l.length = reduceP (co.drop p.length) l from rreduce_eq _ _, lsub] at h
                exact h
              have rb := RB.out
              generalize reduceP (co.drop p.length) l = rp at *
              have hw9 : IntKind.i64.wrap (su + rp) = su + rp := IntWalk.i64_in _ (by omega)
              replace e0 := Lib.hid e0
              clear HH oV oR YP ht2 hk lsub
              go_wp2_with (fail)
              refine (RE.out _ (by (repeat (first | assumption | exact Ext.rf _ | apply Ext.drew | apply Ext.drewN | apply Ext.alloc)))).mono ?_
              rintro e w9 ⟨rfl, x9⟩
              go_wp2_with (fail)
              go_ret2
              rw [e0.out]
              exact ⟨rfl, XP.out.tr x9⟩
set_option maxRecDepth 100000 in
set_option maxHeartbeats 4000000 in
theorem ranswer12_any (i : InstP) (us : List Value) (P : Option Addr) (pc : Nat) (p : List Int) (w : World) (H : RInst w us i) (n : Nat) (hn : i.n = n) (h1 : 1 ≤ n) (h24 : n ≤ 24) (hP : RdI w P p) (lp : p.length ≤ 1000000000) :
    Calls Tryd.prog 26 #[.agg (List.toArray us), .slice P p.length pc] w (OwnPost (answerA n p).1 (answerA n p).2 w) := by
  have FR := fun (W : World) (x : Ext w W) => rfree_any i us P pc p W (H.ext x) n hn h1 h24 (hP.ext x) lp
  obtain ⟨kind, nn, cap, xw, xv, co⟩ := i
  obtain ⟨A, a, B, b, D, d, rfl, -, -, -⟩ := H
  simp only at *
  subst hn
  obtain ⟨r, hr⟩ : ∃ r, Hid (freeP n p = r) := ⟨_, rfl⟩
  rw [hr.out] at FR
  replace hP := Lib.hid hP
  have B1 : Hid (Blk (w.alloc (.cells #[.int .i64 kind, .int .i64 n, .int .i64 cap, .slice A xw.length a, .slice B xv.length b, .slice D co.length d] 25)) w.heap.size 25 #[.int .i64 kind, .int .i64 n, .int .i64 cap, .slice A xw.length a, .slice B xv.length b, .slice D co.length d]) := .new rfl
  cases r with
  | none =>
    have e : answerA n p = ([], 1) := by unfold answerA; rw [hr.out]
    rw [e]
    unfold RFree at FR
    replace FR := Lib.hid FR
    go_enter Tryd.func26, Tryd.ntmps26
    go_wp2_with (fail)
    refine (FR.out _ (by (repeat (first | assumption | exact Ext.rf _ | apply Ext.drew | apply Ext.drewN | apply Ext.alloc)))).mono ?_
    rintro e w1 ⟨rfl, x1⟩
    have X1 := Lib.hid (Ext.tr (a := w) (by (repeat (first | assumption | exact Ext.rf _ | apply Ext.drew | apply Ext.drewN | apply Ext.alloc))) x1)
    clear x1
    go_wp2_with (fail)
    go_ret2
    exact ⟨none, 0, rfl, OwI.nil _ _, X1.out⟩
  | some m =>
    replace FR := fun (W : World) (x : Ext w W) => (show Calls _ _ _ W (FreeSome m W) from FR W x)
    unfold FreeSome at FR
    replace FR := Lib.hid FR
    by_cases hl : p.length = n
    · have e : answerA n p = (p, 0) := by unfold answerA; rw [hr.out]; simp only [hl, if_true]
      rw [e]
      clear e
      have hne : ((p.length : Int) != (n : Int)) = false := by rw [hl]; simp
      replace hl := Lib.hid hl
      go_enter Tryd.func26, Tryd.ntmps26
      go_wp2_with (fail)
      refine (FR.out _ (by (repeat (first | assumption | exact Ext.rf _ | apply Ext.drew | apply Ext.drewN | apply Ext.alloc)))).mono ?_
      rintro e w1 ⟨A1, c1, rfl, -, x1⟩
      have X1 := Lib.hid (Ext.tr (a := w) (by (repeat (first | assumption | exact Ext.rf _ | apply Ext.drew | apply Ext.drewN | apply Ext.alloc))) x1)
      have d1 : w1.cell? ⟨w.heap.size, 1, none⟩ = some (.int .i64 n) := (B1.out.ext x1).cell 1
      clear x1
      go_wp2_with (at_builtin; refine wpl_copy_i _ rfl _ _ rfl w.heap.size _ p P pc rfl rfl ?_ ?_ ?_ ?_ ?_; (first | exact .new (by simp) | exact .drew (.new (by simp)) | exact .alloc (.new (by simp)) _ | exact .drew (.alloc (.new (by simp)) _) | exact .alloc (.alloc (.new (by simp)) _) _ | exact .drew (.alloc (.alloc (.new (by simp)) _) _) | (repeat (first | assumption | (refine Blk.new ?_; (focus (simp; done))) | apply Blk.drew | apply Blk.drewN | apply Blk.alloc))); (have := X1.out.size; first | omega | (simp; omega)); (refine hP.out.ext ?_; exact X1.out.alloc _); (first | omega | (have := hl.out; omega)); rintro A3 c3 w3 o3 x3)
      have X3 := Lib.hid ((X1.out.alloc _).tr x3)
      replace o3 := Lib.hid o3
      clear x3
      go_wp2_with (fail)
      go_ret2
      exact ⟨A3, c3, rfl, o3.out, X3.out⟩
    · have e : answerA n p = ([], 1) := by unfold answerA; rw [hr.out]; simp only [hl, if_false]
      rw [e]
      clear e
      have hne : ((p.length : Int) != (n : Int)) = true := by simp; omega
      replace hl := Lib.hid hl
      go_enter Tryd.func26, Tryd.ntmps26
      go_wp2_with (fail)
      refine (FR.out _ (by (repeat (first | assumption | exact Ext.rf _ | apply Ext.drew | apply Ext.drewN | apply Ext.alloc)))).mono ?_
      rintro e w1 ⟨A1, c1, rfl, -, x1⟩
      have X1 := Lib.hid (Ext.tr (a := w) (by (repeat (first | assumption | exact Ext.rf _ | apply Ext.drew | apply Ext.drewN | apply Ext.alloc))) x1)
      have d1 : w1.cell? ⟨w.heap.size, 1, none⟩ = some (.int .i64 n) := (B1.out.ext x1).cell 1
      clear x1
      go_wp2_with (fail)
      go_ret2
      exact ⟨none, 0, rfl, OwI.nil _ _, X1.out⟩
set_option maxRecDepth 100000 in
theorem rdepth12_any (k n cap : Int) (a b c : Value) (w : World) : Calls Tryd.prog 24 #[.agg #[.int .i64 k, .int .i64 n, .int .i64 cap, a, b, c]] w fun e w' => e = .returned (.int .i64 n) ∧ Ext w w' := by
  go_enter Tryd.func24, Tryd.ntmps24
  go_wp2
  go_ret
  exact ⟨rfl, by (repeat (first | assumption | exact Ext.rf _ | apply Ext.drew | apply Ext.drewN | apply Ext.alloc))⟩
end Go.Proofs.YtpngflmngnjjoaaDoor
