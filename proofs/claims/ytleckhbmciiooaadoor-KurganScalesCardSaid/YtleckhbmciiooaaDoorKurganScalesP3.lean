/-
  exact.Tour: a best tour, and what it costs.
  A knapsack in form: what that says.
  value.Cost, told, takes at a knapsack: an answer as a set.
  The library function lies in this program: its bodies, its types, number by number.
  Loads of a knapsack: sorted by the library, in place: a permutation.
  Loads of a knapsack: worse, with.
  Loads of a knapsack: what is no better than something else is left out.
  But for one block, what was there is as it was; a slice of noughts made in a fenced walk.
  exact.Knapsack: a best answer.
  An assignment by prices, plainly: bounds of the prices; turning a way; the answer at the end costs least.
  An assignment by prices, plainly: the two loops of a round; how many are not seen yet.
  An assignment by prices: what a row and a column cost beyond their prices; a way is turned.
  An assignment by prices: a way grows.
-/
import Derived.Test.YtleckhbmciiooaaDoorKurganScalesP2
import Derived.Shelf.SlLaysF0
import Derived.Shelf.SlSortCmp.WholeK
import Derived.Sort.BigQuietIn
namespace Go.Proofs.YtleckhbmciiooaaDoor
open Go.RowKit Go.ChangeShapes Go.WideShapes Go.ChangeAt Go.Deep

/-- no tour costs less -/
def LeastT (rows : List (List Int)) (n : Nat) (c : Int) : Prop := (∃ q : List Nat, (0 :: q).Perm (List.range n) ∧ pathT rows 0 q = c) ∧ ∀ q : List Nat, (0 :: q).Perm (List.range n) → c ≤ pathT rows 0 q
def TourPost (rows : List (List Int)) (w : World) (e : Ending) (w' : World) : Prop :=
  ∃ A c q, e = .returned (.tuple #[.slice A rows.length c, .int .i64 (pathT rows 0 q), .int .i64 0]) ∧ RdI w' A (intsN (0 :: q)) ∧ (0 :: q).Perm (List.range rows.length) ∧ rows.length ≤ c ∧ c ≤ maxLen ∧ LeastT rows rows.length (pathT rows 0 q) ∧ Ext w w'
/-- the first place of the least so far -/
def argT (f : Nat → Int) : Nat → Nat
  | 0 => 0
  | k + 1 => if f k < f (argT f k) then k else argT f k
theorem argT_lt {f : Nat → Int} {n : Nat} (h : 1 ≤ n) : ∀ k, k ≤ n → argT f k < n
  | 0, _ => by simp only [argT]; omega
  | k + 1, hk => by
    have := argT_lt (f := f) h k (by omega)
    unfold argT
    split <;> omega
theorem argT_le {f : Nat → Int} : ∀ k j, j < k → f (argT f k) ≤ f j
  | 0, j, h => by omega
  | k + 1, j, h => by
    unfold argT
    by_cases e : j = k
    · subst e
      split <;> omega
    · have := argT_le (f := f) k j (by omega)
      split <;> omega
/-- a row of rows that is made, in whatever order -/
theorem op_make_r {ops : Array Oper} {i : Nat} {t : TypeId} {d : Option Tmp} {a : Act} {w : World} {K : Act → World → Prop} {Q : Exit → Act → World → Prop} {x y : Operand} (hi : opAt ops i = some (none, .makeSlice 23 x y, t, d)) (n : Nat) (L : Int) (hx : a.eval x = .int .i64 L) (hy : a.eval y = .int .i64 L) (hL : L = (n : Int)) (hn : n ≤ 2 ^ 40)
    (hK : ∀ w', (∃ cs, Blk w' w.heap.size 22 cs ∧ cs.size = n) → Ext w w' → K (a.put d (.slice (some ⟨w.heap.size, 0, none⟩) n n)) w') : wpOp Tryd.prog ops Q i K a w := by
  obtain ⟨i0, hi0, hz0, hz1, hz2⟩ := info_parts row_info
  subst hL
  obtain ⟨w', hrun, h2, h3⟩ := run_make_full (P := Tryd.prog) w w.heap.size 23 22 i0 _ 1 Tryd.underlying23 hi0 hz0 hz1 .i64 .i64 n (by rw [hz2]; omega) (by simp only [maxLen]; omega) (Nat.le_refl _)
  refine op_run hi _ (by simp [exec2, execOp, hx, hy, hrun]) (hK w' ?_ ((Ext.rf _).grownNone h3))
  rcases OwV.cases h2 with ⟨e, _⟩ | ⟨g, cur, e, _, hg, _, _, hs, _⟩
  · cases e
  · obtain rfl : w.heap.size = g := by simpa using e
    exact ⟨cur, hg, by simpa using hs⟩
set_option maxRecDepth 100000 in
set_option maxHeartbeats 1000000 in
theorem tour_any (i : InstP) (us : List Value) (w : World) (H : RInst w us i) (hc : checkP i = 0) (hk : i.kind = 3) (h12 : i.n ≤ 12) :
    Calls Tryd.prog 32 #[.agg (List.toArray us)] w (TourPost i.cost w) := by
  have sq := square_ok hc (by omega)
  have rok := rows_ok sq
  have hln := sq.len
  have n1 := rok.n1
  obtain ⟨n, hn⟩ : ∃ n, i.cost.length = n + 1 := ⟨i.cost.length - 1, by omega⟩
  have n11 : n ≤ 11 := by omega
  have hin : i.n = n + 1 := by omega
  obtain ⟨N, hN⟩ : ∃ N, N = 2 ^ n := ⟨_, rfl⟩
  have num := ends_num rok
  have TK := fun (W : World) (x : Ext w W) => takes3_any i us W (H.ext x) hc hk h12
  have TO := fun (P : Option Addr) (c : Nat) (q : List Nat) (W : World) (x : Ext w W) (hP : RdI W P (intsN (0 :: q))) (hl : (0 :: q).Perm (List.range i.cost.length)) => told3_any i us P c q W (H.ext x) hc hk hP hl
  have FI := fun (W : World) (x : Ext w W) (gp tc tb : Nat) (n1 : 1 ≤ n) (hP : Blk W gp 110 #[.slice (some ⟨tc, 0, none⟩) N N, .slice (some ⟨tb, 0, none⟩) N N]) (S1 : FillS i.cost n N W W w.heap.size tc tb 1) (hc : w.heap.size ≤ tc) (hb : w.heap.size ≤ tb) (hcb : tc ≠ tb) => fill_any i us w W H x rok n N gp tc tb hin hn n1 n11 hN hP S1 hc hb hcb
  obtain ⟨kind, nn, cap, xw, xv, co⟩ := i
  obtain ⟨A, a, B, b, D, d, rfl, -, -, hC, -⟩ := H
  simp only at *
  subst hk hin
  unfold TourPost
  rw [hn] at TK TO FI num ⊢
  have B1 : Hid (Blk (w.alloc (.cells #[.int .i64 3, .int .i64 (n + 1), .int .i64 cap, .slice A xw.length a, .slice B xv.length b, .slice D (n + 1) d] 25)) w.heap.size 25 #[.int .i64 3, .int .i64 (n + 1), .int .i64 cap, .slice A xw.length a, .slice B xv.length b, .slice D (n + 1) d]) := .new rfl
  have wn1 : IntKind.i64.wrap ((n : Int) + 1 - 1) = (n : Int) := by rw [show (n : Int) + 1 - 1 = (n : Int) by omega]; exact IntWalk.i64_in _ (by omega)
  have CA := Lib.hid (fun (W : World) (x : Ext w W) (r c : Nat) (hr : r < n + 1) (hc : c < n + 1) => cost_at rok (hC.ext x fun _ _ h => h.ext x) (r := r) (c := c) (by omega) (by omega))
  rw [hn] at CA
  have N2 : N ≤ 2048 := by
    have : 2 ^ n ≤ 2 ^ 11 := Nat.pow_le_pow_right (by omega) n11
    omega
  have SH : IntKind.i64.wrap ((2 : Int) ^ n) = (N : Int) := by rw [hN]; exact shl_wrap_i64 n (by omega)
  replace TK := Lib.hid TK
  replace TO := Lib.hid TO
  replace FI := Lib.hid FI
  replace num := Lib.hid num
  replace hn := Lib.hid hn
  replace hN := Lib.hid hN
  clear hc hC rok sq n1 h12 hln
  go_enter Tryd.func32, Tryd.ntmps32
  go_wp2_with (fail)
  refine (TK.out _ (by (repeat (first | assumption | exact Ext.rf _ | apply Ext.drew | apply Ext.drewN | apply Ext.alloc)))).mono ?_
  rintro e w1 ⟨rfl, x1⟩
  have X1 := Lib.hid (Ext.tr (a := w) (by (repeat (first | assumption | exact Ext.rf _ | apply Ext.drew | apply Ext.drewN | apply Ext.alloc))) x1)
  have b1 := Lib.hid (B1.out.ext x1)
  have t1 : w1.cell? ⟨w.heap.size, 1, none⟩ = some (.int .i64 (n + 1)) := b1.out.cell 1
  clear x1 B1
  by_cases hz : n = 0
  · have q0 : ((n : Int) == 0) = true := by rw [beq_iff_eq]; omega
    have t0 : w1.cell? ⟨w.heap.size, 0, none⟩ = some (.int .i64 3) := b1.out.cell 0
    have t2 : w1.cell? ⟨w.heap.size, 2, none⟩ = some (.int .i64 cap) := b1.out.cell 2
    have t3 : w1.cell? ⟨w.heap.size, 3, none⟩ = some (.slice A xw.length a) := b1.out.cell 3
    have t4 : w1.cell? ⟨w.heap.size, 4, none⟩ = some (.slice B xv.length b) := b1.out.cell 4
    have t5 : w1.cell? ⟨w.heap.size, 5, none⟩ = some (.slice D (n + 1) d) := b1.out.cell 5
    have PR : Hid ((0 :: ([] : List Nat)).Perm (List.range (n + 1))) := by
      have h : (0 :: ([] : List Nat)).Perm (List.range (n + 1)) := by rw [hz]; exact List.Perm.refl _
      exact h
    have TT : Hid (∀ (m : Nat), m = n + 1 → ∀ W : World, Ext w1 W → ∀ P, RdI W P (intsN [0]) → Calls Tryd.prog 66 #[.agg #[.int .i64 3, .int .i64 (n + 1), .int .i64 cap, .slice A xw.length a, .slice B xv.length b, .slice D (n + 1) d], .slice P m 1] W fun e w' => e = .returned (.tuple #[.slice P m 1, .int .i64 (pathT co 0 []), .int .i64 0]) ∧ Ext W w') := fun m hm W x P hP => by
      subst hm
      exact TO.out P 1 [] W (X1.out.tr x) hP PR.out
    have hD1 : Hid (n + 1 = 1) := by
      have h : n + 1 = 1 := by omega
      exact h
    have LT : Hid (LeastT co (n + 1) (pathT co 0 [])) := ⟨⟨_, PR.out, rfl⟩, fun q hq => by
      have h := hq.length_eq
      rw [List.length_range, hz] at h
      obtain rfl : q = [] := List.eq_nil_of_length_eq_zero (by simpa using h)
      exact Int.le_refl _⟩
    replace hz := Lib.hid hz
    go_wp2_with (fail)
    refine (TT.out 1 hD1.out.symm _ (by (repeat (first | assumption | exact Ext.rf _ | apply Ext.drew | apply Ext.drewN | apply Ext.alloc))) _ (.blk (by (first | exact .new (by simp) | exact .drew (.new (by simp)) | exact .alloc (.new (by simp)) _ | exact .drew (.alloc (.new (by simp)) _) | exact .alloc (.alloc (.new (by simp)) _) _ | exact .drew (.alloc (.alloc (.new (by simp)) _) _) | (repeat (first | assumption | (refine Blk.new ?_; (focus (simp; done))) | apply Blk.drew | apply Blk.drewN | apply Blk.alloc)))) rfl)).mono ?_
    rintro e w3 ⟨rfl, x3⟩
    have X3 : Hid (Ext w w3) := X1.out.tr (Ext.tr (by (repeat (first | assumption | exact Ext.rf _ | apply Ext.drew | apply Ext.drewN | apply Ext.alloc))) x3)
    have R3 : Hid (RdI w3 (some ⟨w1.heap.size, 0, none⟩) (intsN [0])) := RdI.ext (.blk (by (first | exact .new (by simp) | exact .drew (.new (by simp)) | exact .alloc (.new (by simp)) _ | exact .drew (.alloc (.new (by simp)) _) | exact .alloc (.alloc (.new (by simp)) _) _ | exact .drew (.alloc (.alloc (.new (by simp)) _) _) | (repeat (first | assumption | (refine Blk.new ?_; (focus (simp; done))) | apply Blk.drew | apply Blk.drewN | apply Blk.alloc)))) rfl) x3
    clear x3 t0 t1 t2 t3 t4 t5 TT
    go_wp2_with (fail)
    go_ret3
    exact ⟨some ⟨w1.heap.size, 0, none⟩, 1, [], by rw [hD1.out]; rfl, R3.out, PR.out, by rw [hD1.out]; exact Nat.le_refl _, by simp [maxLen], LT.out, X3.out⟩
  · have q0 : ((n : Int) == 0) = false := by rw [beq_eq_false_iff_ne]; omega
    have n1 : 1 ≤ n := by omega
    go_wp2_with (fail)
    go_cut [7] (fun v7 wx => ∃ gp tc tb, v7 = .pointer (some ⟨gp, 0, none⟩) ∧ Blk wx gp 110 #[.slice (some ⟨tc, 0, none⟩) N N, .slice (some ⟨tb, 0, none⟩) N N] ∧ FillS co n N wx wx w.heap.size tc tb 1 ∧ w1.heap.size ≤ tc ∧ w1.heap.size ≤ tb ∧ tc ≠ tb ∧ Ext w1 wx)
    case first =>
      refine wp_region_any (by kernel_rfl) ?_
      change wpAny _ _ _ _ _ _ _ (World.drew _)
      refine wpAny_T (i := 0) (op := Op.move (Operand.tmp 6)) (t := 3) (d := some 29) (v := ?_) rfl (by decide +kernel) (by decide +kernel) (by decide +kernel) (fun _ _ _ h => h) ?_ ?_
      case refine_2 => (intro _; unfold exec2; go_simp; try with_reducible rfl)
      try simp only [Act.put, List.setIfInBounds_toArray, List.set_cons_zero, List.set_cons_succ]
      refine wpAny_T (i := 1) (op := Op.binOp BinOp.shl 3 (Operand.const (Value.int IntKind.i64 1)) (Operand.tmp 29) 3) (t := 3) (d := some 30) (v := ?_) rfl (by decide +kernel) (by decide +kernel) (by decide +kernel) (fun _ _ _ h => h) ?_ ?_
      case refine_2 => (intro _; unfold exec2; go_simp; try with_reducible rfl)
      try simp only [Act.put, List.setIfInBounds_toArray, List.set_cons_zero, List.set_cons_succ]
      refine wpAny_T (i := 3) (op := Op.move (Operand.tmp 6)) (t := 3) (d := some 32) (v := ?_) rfl (by decide +kernel) (by decide +kernel) (by decide +kernel) (fun _ _ _ h => h) ?_ ?_
      case refine_2 => (intro _; unfold exec2; go_simp; try with_reducible rfl)
      try simp only [Act.put, List.setIfInBounds_toArray, List.set_cons_zero, List.set_cons_succ]
      refine wpAny_T (i := 4) (op := Op.binOp BinOp.shl 3 (Operand.const (Value.int IntKind.i64 1)) (Operand.tmp 32) 3) (t := 3) (d := some 33) (v := ?_) rfl (by decide +kernel) (by decide +kernel) (by decide +kernel) (fun _ _ _ h => h) ?_ ?_
      case refine_2 => (intro _; unfold exec2; go_simp; try with_reducible rfl)
      try simp only [Act.put, List.setIfInBounds_toArray, List.set_cons_zero, List.set_cons_succ]
      refine wpAny_core4 (n := 3) (σ := Nat → Nat) [(2, some 31), (5, some 34)] (fun _ W => Ext w1 W)
        (fun i v T W => ∃ h, v = .slice (some ⟨h, 0, none⟩) N N ∧ (∃ cs, Blk W h 22 cs ∧ cs.size = N) ∧ w1.heap.size ≤ h ∧ h < W.heap.size ∧ T h = i)
        (fun T W T' W' => Ext W W' ∧ ∀ h, h < W.heap.size → T' h = T h) #[true, true, true, true, true, true, false, false, false] (by decide +kernel) ?_ ?_ ?_ (s0 := fun _ => 0) ((Ext.rf _).drew)
      · rintro j v T W T' W' ⟨h, k1, ⟨cs, k2, k2'⟩, k3, k4, k5⟩ ⟨hx, hT⟩
        exact ⟨h, k1, ⟨cs, k2.ext hx, k2'⟩, k3, by have := hx.size; omega, by rw [hT h k4]; exact k5⟩
      · intro pq hpm u T W hRW hD K hK
        have MK : ∀ (i : Nat) (W' : World), (∃ cs, Blk W' W.heap.size 22 cs ∧ cs.size = N) → Ext W W' → (∃ h, Value.slice (some ⟨W.heap.size, 0, none⟩) N N = .slice (some ⟨h, 0, none⟩) N N ∧ (∃ cs, Blk W' h 22 cs ∧ cs.size = N) ∧ w1.heap.size ≤ h ∧ h < W'.heap.size ∧ (fun x => if x = W.heap.size then i else T x) h = i) ∧ Ext w1 W' ∧ (Ext W W' ∧ ∀ h, h < W.heap.size → (fun x => if x = W.heap.size then i else T x) h = T h) := fun i W' a x =>
          ⟨⟨_, rfl, a, hRW.size, (by obtain ⟨cs, h, _⟩ := a; exact h.lt), if_pos rfl⟩, hRW.tr x, x, fun h hh => if_neg (by omega)⟩
        simp only [List.mem_cons, List.not_mem_nil, or_false] at hpm
        rcases hpm with rfl | rfl
        · exact op_make_r rfl N (N : Int) (by kernel_rfl) (by kernel_rfl) rfl (by omega) fun W' a x => hK _ _ _ (MK 2 W' a x).1 (MK 2 W' a x).2.1 (MK 2 W' a x).2.2
        · exact op_make_r rfl N (N : Int) (by kernel_rfl) (by kernel_rfl) rfl (by omega) fun W' a x => hK _ _ _ (MK 5 W' a x).1 (MK 5 W' a x).2.1 (MK 5 W' a x).2.2
      · intro u T W hRW hV
        obtain ⟨tc, h2, ⟨c2, b2, s2⟩, z2, -, e2⟩ := hV (2, some 31) (by simp)
        obtain ⟨tb, h5, ⟨c5, b5, s5⟩, z5, -, e5⟩ := hV (5, some 34) (by simp)
        have ne : tc ≠ tb := by rintro rfl; omega
        simp only [putAll, h2, h5]
        clear hV h2 h5 e2 e5
        try simp only [Act.put, List.setIfInBounds_toArray, List.set_cons_zero, List.set_cons_succ]
        refine wpAny_T (i := 6) (op := Op.build 110 #[(0, Operand.tmp 31), (1, Operand.tmp 34)]) (t := 110) (d := some 35) (v := ?_) rfl (by decide +kernel) (by decide +kernel) (by decide +kernel) (fun _ _ _ h => h) ?_ ?_
        case refine_2 => (intro _; unfold exec2; go_simp; try with_reducible rfl)
        try simp only [Act.put, List.setIfInBounds_toArray, List.set_cons_zero, List.set_cons_succ]
        refine wpAny_next 7 (by decide +kernel) (op_run (op := .box 110 (.tmp 35)) rfl (.pointer (some ⟨W.heap.size, 0, none⟩)) (w' := W.alloc (.cells #[.slice (some ⟨tc, 0, none⟩) N N, .slice (some ⟨tb, 0, none⟩) N N] 110)) (by unfold exec2; go_simp) ?_)
        try simp only [Act.put, List.setIfInBounds_toArray, List.set_cons_zero, List.set_cons_succ]
        refine wpAny_T (i := 8) (op := Op.assign (Operand.tmp 36)) (t := 108) (d := some 7) (v := ?_) rfl (by decide +kernel) (by decide +kernel) (by decide +kernel) (fun _ _ _ h => h) ?_ ?_
        case refine_2 => (intro _; unfold exec2; go_simp; try with_reducible rfl)
        try simp only [Act.put, List.setIfInBounds_toArray, List.set_cons_zero, List.set_cons_succ]
        refine wpAny_done (by kernel_rfl) ?_ _
        have xa : Ext W (W.alloc (.cells #[.slice (some ⟨tc, 0, none⟩) N N, .slice (some ⟨tb, 0, none⟩) N N] 110)) := (Ext.rf _).alloc _
        have FS : Hid (FillS co n N (W.alloc (.cells #[.slice (some ⟨tc, 0, none⟩) N N, .slice (some ⟨tb, 0, none⟩) N N] 110)) (W.alloc (.cells #[.slice (some ⟨tc, 0, none⟩) N N, .slice (some ⟨tb, 0, none⟩) N N] 110)) w.heap.size tc tb 1) :=
          ⟨Mod.rf _, fun _ => 0, fun _ => 0, fun _ _ => 0, fun _ _ => 0, ⟨⟨c2, b2.ext xa, s2, fun g h1 h2 => by omega⟩, fun g h1 h2 => by omega⟩, ⟨⟨c5, b5.ext xa, s5, fun g h1 h2 => by omega⟩, fun g h1 h2 => by omega⟩, fun g l hg hl hb => by
            obtain rfl : g = 0 := by omega
            simp at hb, fun a b h1 h2 => by omega⟩
        go_simp
        go_wp2_with (fail)
        go_meet
        exact ⟨W.heap.size, tc, tb, rfl, .new rfl, FS.out, z2, z5, ne, hRW.tr xa⟩
    case rest =>
    obtain ⟨gp, tc, tb, rfl, hP, hF, ztc, ztb, ncb, x5⟩ := hcut
    obtain ⟨w5, rfl⟩ : ∃ w5 : World, w5 = wc := ⟨_, rfl⟩
    have X5 := Lib.hid (X1.out.tr x5)
    have b5 := Lib.hid (b1.out.ext x5)
    have t0 : w5.cell? ⟨w.heap.size, 0, none⟩ = some (.int .i64 3) := b5.out.cell 0
    have t1 : w5.cell? ⟨w.heap.size, 1, none⟩ = some (.int .i64 (n + 1)) := b5.out.cell 1
    have t2 : w5.cell? ⟨w.heap.size, 2, none⟩ = some (.int .i64 cap) := b5.out.cell 2
    have t3 : w5.cell? ⟨w.heap.size, 3, none⟩ = some (.slice A xw.length a) := b5.out.cell 3
    have t4 : w5.cell? ⟨w.heap.size, 4, none⟩ = some (.slice B xv.length b) := b5.out.cell 4
    have t5 : w5.cell? ⟨w.heap.size, 5, none⟩ = some (.slice D (n + 1) d) := b5.out.cell 5
    have zw1 := X1.out.size
    have FC := Lib.hid (FI.out w5 X5.out gp tc tb n1 hP hF (by omega) (by omega) ncb)
    have zgi := b1.out.lt
    have gne : ¬ (gp = tc ∨ gp = tb) := by
      obtain ⟨_, _, _, _, k1, k2, _⟩ := hF.tabs
      obtain ⟨cs, h3, _⟩ := k1.tab
      obtain ⟨cs2, h4, _⟩ := k2.tab
      rintro (e | e)
      · exact Blk.ne hP h3 (by decide) e
      · exact Blk.ne hP h4 (by decide) e
    replace hP := Lib.hid hP
    clear hF x5 b1 FI
    go_wp2_with (fail)
    refine FC.out.mono ?_
    rintro e w6 ⟨rfl, F6⟩
    obtain ⟨r, r2, T, Bk, hT, hB, hW, hR⟩ := F6.tabs
    have X6 : Ext w w6 := X5.out.mod F6.mod (fun k hk e => by rcases e with e | e <;> omega)
    have P6 := Lib.hid (hP.out.mod F6.mod gne)
    have b6 := Lib.hid (b5.out.mod F6.mod (fun e => by rcases e with e | e <;> omega))
    have hN' := hN.out
    subst hN'
    have z6 := X6.size
    have z6b := F6.mod.size
    have zz6 : w.heap.size < w6.heap.size := b6.out.lt
    obtain ⟨G, hG⟩ : ∃ G, Hid (2 ^ n = G + 1) := ⟨2 ^ n - 1, by
      have h : 2 ^ n = 2 ^ n - 1 + 1 := by have := Nat.two_pow_pos n; omega
      exact h⟩
    have G1 : 1 ≤ G := by
      have h := hG.out
      have : 2 ^ 1 ≤ 2 ^ n := Nat.pow_le_pow_right (by omega) n1
      omega
    have G2 : G ≤ 2047 := by have := hG.out; omega
    have GB : Hid (∀ c, c < n → G.testBit c = true) := fun c hc => by
      have h : G = 2 ^ n - 1 := by rw [hG.out]; rfl
      rw [h, full_bit]
      simpa using hc
    have num' := num.out
    have BD : Hid (∀ g l, g < 2 ^ n → l < n → g.testBit l = true → 0 ≤ T g l ∧ T g l ≤ g * 2147483647) := fun g l h1 h2 h3 => WayOk.bd (n := n) (by omega) (Nat.le_refl _) hW num.out g l h1 h2 h3
    have CT : Hid (∀ W, Ext w6 W → ∀ g, 1 ≤ g → g < 2 ^ n → ∀ l, l < n → W.cell? ⟨tc, g, none⟩ = some (.slice (some ⟨r g, 0, none⟩) n n) ∧ W.cell? ⟨r g, l, none⟩ = some (.int .i64 (T g l))) := fun W x g h1 h2 l h3 => ⟨(hT.ext x).cell h1 h2, ((hT.ext x).num h1 h2 h3).1⟩
    have CB : Hid (∀ W, Ext w6 W → ∀ g, 1 ≤ g → g < 2 ^ n → ∀ l, l < n → W.cell? ⟨tb, g, none⟩ = some (.slice (some ⟨r2 g, 0, none⟩) n n) ∧ W.cell? ⟨r2 g, l, none⟩ = some (.int .i64 ((Bk g l : Nat) : Int))) := fun W x g h1 h2 l h3 => ⟨(hB.ext x).cell h1 h2, ((hB.ext x).num h1 h2 h3).1⟩
    rw [hG.out] at SH P6
    replace X6 := Lib.hid X6
    replace hW := Lib.hid hW
    clear F6 hT hB hR b5 hP X5 t0 t1 t2 t3 t4 t5 num' FC z6b
    have wG : IntKind.i64.wrap (((G + 1 : Nat) : Int) - 1) = (G : Int) := by rw [show ((G + 1 : Nat) : Int) - 1 = (G : Int) by omega]; exact IntWalk.i64_in _ (by omega)
    obtain ⟨f, hf⟩ : ∃ f : Nat → Int, Hid (f = fun c => T G c + costAt co (c + 1) 0) := ⟨_, rfl⟩
    go_wp2_with (fail)
    go_loopw [44, 9] (fun v44 v9 wr => ∃ k : Nat, v44 = .int .i64 k ∧ v9 = .int .i64 (argT f k) ∧ k ≤ n ∧ Hid (Ext w6 wr)) (fun v44 _ _ => n - (intOf v44).toNat)
    case atStart => exact ⟨0, rfl, rfl, by omega, Ext.rf _⟩
    case round =>
      obtain ⟨wo, rfl⟩ : ∃ wo : World, wo = wr := ⟨_, rfl⟩
      obtain ⟨k, rfl, rfl, hk, X⟩ := hrel
      by_cases hkn : k < n
      · have q1 : (k : Int) < (n : Int) := by omega
        have HA : Hid (argT f (k + 1) = if f k < f (argT f k) then k else argT f k) := by
          have h : argT f (k + 1) = if f k < f (argT f k) then k else argT f k := rfl
          exact h
        have hak := argT_lt (f := f) n1 k (by omega)
        generalize argT f k = m at *
        have XW := X6.out.tr X.out
        have b9 := b6.out.ext X.out
        have P9 := P6.out.ext X.out
        have y0 : wo.cell? ⟨gp, 0, none⟩ = some (.slice (some ⟨tc, 0, none⟩) (G + 1) (G + 1)) := P9.cell 0
        have y5 : wo.cell? ⟨w.heap.size, 5, none⟩ = some (.slice D (n + 1) d) := b9.cell 5
        obtain ⟨yt, yk⟩ := CT.out wo X.out G G1 (by rw [hG.out]; omega) k hkn
        obtain ⟨-, ym⟩ := CT.out wo X.out G G1 (by rw [hG.out]; omega) m hak
        obtain ⟨cb, cof, rb, ro, d1, rfl, c1, c2⟩ := CA.out wo XW (k + 1) 0 (by omega) (by omega)
        obtain ⟨cb', cof', sb, so, d2, hD, c3, c4⟩ := CA.out wo XW (m + 1) 0 (by omega) (by omega)
        obtain ⟨rfl, rfl⟩ : cb = cb' ∧ cof = cof' := by simpa using hD
        replace c2 : wo.cell? ⟨rb, ro, none⟩ = some (.int .i64 (costAt co (k + 1) 0)) := c2
        replace c4 : wo.cell? ⟨sb, so, none⟩ = some (.int .i64 (costAt co (m + 1) 0)) := c4
        have n1' := num.out (k + 1) 0 (by omega) (by omega)
        have n2' := num.out (m + 1) 0 (by omega) (by omega)
        have e1' := BD.out G k (by rw [hG.out]; omega) hkn (GB.out k hkn)
        have e2' := BD.out G m (by rw [hG.out]; omega) hak (GB.out m hak)
        obtain ⟨rr, hrr⟩ : ∃ rr, Hid (r G = rr) := ⟨_, rfl⟩
        obtain ⟨tk, htk⟩ : ∃ tk, Hid (T G k = tk) := ⟨_, rfl⟩
        obtain ⟨tm, htm⟩ : ∃ tm, Hid (T G m = tm) := ⟨_, rfl⟩
        obtain ⟨ck, hck⟩ : ∃ ck, Hid (costAt co (k + 1) 0 = ck) := ⟨_, rfl⟩
        obtain ⟨cm, hcm⟩ : ∃ cm, Hid (costAt co (m + 1) 0 = cm) := ⟨_, rfl⟩
        obtain ⟨k1, hk1⟩ : ∃ k1, Hid (k + 1 = k1) := ⟨_, rfl⟩
        obtain ⟨m1, hm1⟩ : ∃ m1, Hid (m + 1 = m1) := ⟨_, rfl⟩
        rw [hrr.out, htk.out] at yk
        rw [hrr.out] at yt
        rw [hrr.out, htm.out] at ym
        rw [hck.out] at c2 n1'
        rw [hcm.out] at c4 n2'
        rw [htk.out] at e1'
        rw [htm.out] at e2'
        rw [hk1.out] at c1
        rw [hm1.out] at c3
        have HB : Hid (argT f (k + 1) = if tk + ck < tm + cm then k else m) := by
          have h : argT f (k + 1) = if tk + ck < tm + cm then k else m := by
            rw [HA.out]
            simp only [hf.out, htk.out, htm.out, hck.out, hcm.out]
          exact h
        have q2 : (k1 : Int) < (n : Int) + 1 := by have := hk1.out; omega
        have q3 : (m1 : Int) < (n : Int) + 1 := by have := hm1.out; omega
        have q4 : (m : Int) < (n : Int) := by omega
        have q5 : (G : Int) < ((G + 1 : Nat) : Int) := by omega
        have wk : IntKind.i64.wrap ((k : Int) + 1) = (k1 : Int) := by rw [show (k : Int) + 1 = (k1 : Int) by have := hk1.out; omega]; exact IntWalk.i64_in _ (by omega)
        have wm : IntKind.i64.wrap ((m : Int) + 1) = (m1 : Int) := by rw [show (m : Int) + 1 = (m1 : Int) by have := hm1.out; omega]; exact IntWalk.i64_in _ (by omega)
        have wa : IntKind.i64.wrap (tk + ck) = tk + ck := IntWalk.i64_in _ (by omega)
        have wb : IntKind.i64.wrap (tm + cm) = tm + cm := IntWalk.i64_in _ (by omega)
        have hl9 : Hid (k + 1 ≤ n) := by
          have h9 : k + 1 ≤ n := hkn
          exact h9
        clear HA hD n1' n2' e1' e2' b9 P9 XW
        by_cases hlt : tk + ck < tm + cm
        · have HC : Hid (argT f (k + 1) = k) := by
            have h := HB.out
            rw [if_pos hlt] at h
            exact h
          clear HB
          go_wp2_with (fail)
          go_quiet (fail)
          clear wk wm
          go_wp2_with (fail)
          go_roundw
          case rel => exact ⟨k + 1, by go_num, by rw [HC.out], hl9.out, X.out.drewN _⟩
          case measure => (have h9 := hl9.out; simp [intOf]; omega)
        · have HC : Hid (argT f (k + 1) = m) := by
            have h := HB.out
            rw [if_neg hlt] at h
            exact h
          clear HB
          go_wp2_with (fail)
          go_quiet (fail)
          clear wk wm
          go_wp2_with (fail)
          go_roundw
          case rel => exact ⟨k + 1, by go_num, by rw [HC.out], hl9.out, X.out.drewN _⟩
          case measure => (have h9 := hl9.out; simp [intOf]; omega)
      · obtain rfl : k = n := by omega
        have hl := argT_lt (f := f) n1 k (Nat.le_refl _)
        have HL : Hid (∀ q : List Nat, (0 :: q).Perm (List.range (k + 1)) → T G (argT f k) + costAt co (argT f k + 1) 0 ≤ pathT co 0 q) := fun q hq => by
          obtain ⟨l', h1, h2⟩ := way_below (by omega) hW.out hq n1
          rw [hG.out, Nat.add_sub_cancel] at h2
          have h3 := argT_le (f := f) k l' h1
          simp only [hf.out] at h3 ⊢
          omega
        have TS : Hid (Trail co k T (T G (argT f k) + costAt co (argT f k + 1) 0) G (argT f k) []) := by
          have h := Trail.start (rows := co) (T := T) n1 hl
          rw [hG.out, Nat.add_sub_cancel] at h
          exact h
        generalize argT f k = last at *
        obtain ⟨C, hC⟩ : ∃ C, Hid (T G last + costAt co (last + 1) 0 = C) := ⟨_, rfl⟩
        rw [hC.out] at HL TS
        have q1 : ¬ ((k : Int) < (k : Int)) := by omega
        have Xo := Lib.hid X.out
        have OW0 : Hid (OwI wo w6.heap.size none 0 (intsN ([] : List Nat).reverse)) := OwI.nil _ _
        clear hf CT BD X
        go_wp2_with (fail)
        go_loopw [8, 9, 11] (fun v8 v9 v11 wr => ∃ (g l : Nat) (ys : List Nat) (A' : Option Addr) (c' : Nat), v8 = .int .i64 g ∧ v9 = .int .i64 l ∧ v11 = .slice A' ys.length c' ∧ Hid (Trail co k T C g l ys) ∧ Hid (OwI wr w6.heap.size A' c' (intsN ys.reverse)) ∧ Hid (Ext w6 wr)) (fun v8 _ _ _ => (intOf v8).toNat)
        case atStart => exact ⟨G, last, [], none, 0, rfl, rfl, rfl, TS, OW0, Xo⟩
        case round =>
          clear TS OW0 Xo
          obtain ⟨wp, rfl⟩ : ∃ wp : World, wp = wr := ⟨_, rfl⟩
          obtain ⟨g, l, ys, A', c', rfl, rfl, rfl, TR, OW, X⟩ := hrel
          by_cases hg0 : g = 0
          · subst hg0
            obtain ⟨PR, hCp⟩ := TR.out.end
            have hyl : ys.length = k := by
              have h := PR.length_eq
              rw [List.length_range, List.length_cons] at h
              omega
            have LT : Hid (LeastT co (k + 1) (pathT co 0 ys)) := ⟨⟨ys, PR, rfl⟩, fun q hq => by rw [← hCp]; exact HL.out q hq⟩
            have hrev : (intsN ys.reverse ++ [(0 : Int)]).length = k + 1 := by simp [intsN, hyl]
            have eR : Hid ((intsN ys.reverse ++ [(0 : Int)]).reverse = intsN (0 :: ys)) := by
              have h : (intsN ys.reverse ++ [(0 : Int)]).reverse = intsN (0 :: ys) := by simp [intsN]
              exact h
            have hlen1 : Hid (ys.length = (intsN ys.reverse).length) := by
              have h : ys.length = (intsN ys.reverse).length := by simp [intsN]
              exact h
            replace PR := Lib.hid PR
            have RV := Lib.hid (fun (A9 : Option Addr) (c9 : Nat) (W : World) (o : OwI W w6.heap.size A9 c9 (intsN ys.reverse ++ [(0 : Int)])) => by
              have h := reverse_any A9 c9 w6.heap.size _ W o (by rw [hrev]; omega)
              rw [hrev] at h
              exact h)
            have TO9 := Lib.hid (fun (P : Option Addr) (c : Nat) (W : World) (x : Ext w W) (hP : RdI W P (intsN (0 :: ys))) => TO.out P c ys W x hP PR.out)
            replace hrev := Lib.hid hrev
            clear hCp hC HL TR TO
            go_wp2_with (at_builtin; refine wpl_app_i _ rfl _ _ rfl w6.heap.size A' ys.length c' (intsN ys.reverse) [(0 : Int)] (some ⟨wp.heap.size, 0, none⟩) 1 rfl rfl hlen1.out (OwI.ext OW.out (by (repeat (first | assumption | exact Ext.rf _ | apply Ext.drew | apply Ext.drewN | apply Ext.alloc)))) (.blk (by (first | exact .new (by simp) | exact .drew (.new (by simp)) | exact .alloc (.new (by simp)) _ | exact .drew (.alloc (.new (by simp)) _) | exact .alloc (.alloc (.new (by simp)) _) _ | exact .drew (.alloc (.alloc (.new (by simp)) _) _) | (repeat (first | assumption | (refine Blk.new ?_; (focus (simp; done))) | apply Blk.drew | apply Blk.drewN | apply Blk.alloc)))) rfl) (by rw [← hlen1.out]; simp; omega) (by have := X.out.size; simp; omega) ?_; rintro A9 c9 w9 o9 g9 -)
            have e9 : (intsN ys.reverse).length + 1 = k + 1 := by rw [← hlen1.out, hyl]
            rw [e9]
            have X9 : Ext w6 w9 := Ext.grow (X.out.tr (by (repeat (first | assumption | exact Ext.rf _ | apply Ext.drew | apply Ext.drewN | apply Ext.alloc)))) g9 (fun q hq => (OW.out.lt q hq).1)
            refine (RV.out A9 c9 w9 o9).mono ?_
            rintro e w10 ⟨rfl, o10, M10⟩
            rw [eR.out] at o10
            have X10 : Ext w w10 := (X6.out.tr X9).mod M10 (fun j hj e => by have := (o9.lt j e).1; omega)
            have b10 := (b6.out.ext X9).mod M10 (fun e => by have := (o9.lt _ e).1; omega)
            have t0 : w10.cell? ⟨w.heap.size, 0, none⟩ = some (.int .i64 3) := b10.cell 0
            have t1 : w10.cell? ⟨w.heap.size, 1, none⟩ = some (.int .i64 (k + 1)) := b10.cell 1
            have t2 : w10.cell? ⟨w.heap.size, 2, none⟩ = some (.int .i64 cap) := b10.cell 2
            have t3 : w10.cell? ⟨w.heap.size, 3, none⟩ = some (.slice A xw.length a) := b10.cell 3
            have t4 : w10.cell? ⟨w.heap.size, 4, none⟩ = some (.slice B xv.length b) := b10.cell 4
            have t5 : w10.cell? ⟨w.heap.size, 5, none⟩ = some (.slice D (k + 1) d) := b10.cell 5
            have TT := Lib.hid (TO9.out A9 c9 w10 X10 o10.read)
            have LE : Hid (k + 1 ≤ c9 ∧ c9 ≤ maxLen) := by
              have h : k + 1 ≤ c9 ∧ c9 ≤ maxLen := by
                have h := o10.le
                simp only [intsN_len, List.length_cons, hyl] at h
                exact h
              exact h
            replace X10 := Lib.hid X10
            replace o10 := Lib.hid o10
            clear X9 o9 g9 M10 b10 RV TO9 e9
            go_wp2_with (fail)
            refine TT.out.mono ?_
            rintro e w11 ⟨rfl, x11⟩
            replace x11 := Lib.hid x11
            clear t0 t1 t2 t3 t4 t5 TT
            go_wp2_with (fail)
            go_ret3
            exact ⟨A9, c9, ys, rfl, RdI.ext o10.out.read x11.out, PR.out, LE.out.1, LE.out.2, LT.out, X10.out.tr x11.out⟩
          · obtain ⟨TS, hless⟩ := TR.out.step (by omega) hW.out hg0
            obtain ⟨hln, hbit, -⟩ := TR.out.go hg0
            have hgl := TR.out.lt
            have hyl : ys.length ≤ k + 1 := nodup_le TR.out.nod fun y hy => by have := (TR.out.mem y).1 hy; omega
            obtain ⟨rr, hrr⟩ : ∃ rr, Hid (r2 g = rr) := ⟨_, rfl⟩
            obtain ⟨bk, hbk⟩ : ∃ bk, Hid (Bk g l = bk) := ⟨_, rfl⟩
            obtain ⟨g2, hg2⟩ : ∃ g2, Hid (clrM g l = g2) := ⟨_, rfl⟩
            obtain ⟨p1, hp1⟩ : ∃ p1, Hid (l + 1 = p1) := ⟨_, rfl⟩
            have KB : Hid (∀ W, Ext w6 W → W.cell? ⟨gp, 1, none⟩ = some (.slice (some ⟨tb, 0, none⟩) (G + 1) (G + 1)) ∧ W.cell? ⟨tb, g, none⟩ = some (.slice (some ⟨rr, 0, none⟩) k k) ∧ W.cell? ⟨rr, l, none⟩ = some (.int .i64 bk)) := fun W x => by
              have h := CB.out W x g (by omega) hgl l hln
              rw [hrr.out, hbk.out] at h
              exact ⟨(P6.out.ext x).cell 1, h.1, h.2⟩
            have CL : bits .andNot .i64 (g : Int) ((2 : Int) ^ l) = (g2 : Int) := by
              have h9 := clr_i64 g l (by omega) (by omega)
              rw [Int.natCast_pow, hg2.out] at h9
              exact h9
            have SHL := shl_wrap_i64 l (by omega)
            rw [hg2.out, hbk.out] at TS
            rw [hg2.out] at hless
            have q2 : (g : Int) < ((G + 1 : Nat) : Int) := by have := hG.out; omega
            have q3 : (l : Int) < (k : Int) := by omega
            have q6 : ((g : Int) == 0) = false := by rw [beq_eq_false_iff_ne]; omega
            have wl : IntKind.i64.wrap ((l : Int) + 1) = (p1 : Int) := by rw [show (l : Int) + 1 = (p1 : Int) by have := hp1.out; omega]; exact IntWalk.i64_in _ (by have := hp1.out; omega)
            have hlen1 : Hid (ys.length = (intsN ys.reverse).length) := by
              have h : ys.length = (intsN ys.reverse).length := by simp [intsN]
              exact h
            have hlen2 : Hid ((intsN ys.reverse ++ [(p1 : Int)]).length = ((l + 1) :: ys).length ∧ intsN ys.reverse ++ [(p1 : Int)] = intsN ((l + 1) :: ys).reverse) := by
              have h : (intsN ys.reverse ++ [(p1 : Int)]).length = ((l + 1) :: ys).length ∧ intsN ys.reverse ++ [(p1 : Int)] = intsN ((l + 1) :: ys).reverse := by
                rw [← hp1.out]
                simp [intsN]
              exact h
            replace TS := Lib.hid TS
            clear TR hbit
            go_wp2_with (at_builtin; refine wpl_app_i _ rfl _ _ rfl w6.heap.size A' ys.length c' (intsN ys.reverse) [(p1 : Int)] (some ⟨wp.heap.size, 0, none⟩) 1 rfl rfl hlen1.out (OwI.ext OW.out (by (repeat (first | assumption | exact Ext.rf _ | apply Ext.drew | apply Ext.drewN | apply Ext.alloc)))) (.blk (by (first | exact .new (by simp) | exact .drew (.new (by simp)) | exact .alloc (.new (by simp)) _ | exact .drew (.alloc (.new (by simp)) _) | exact .alloc (.alloc (.new (by simp)) _) _ | exact .drew (.alloc (.alloc (.new (by simp)) _) _) | (repeat (first | assumption | (refine Blk.new ?_; (focus (simp; done))) | apply Blk.drew | apply Blk.drewN | apply Blk.alloc)))) rfl) (by rw [← hlen1.out]; simp; omega) (by have := X.out.size; simp; omega) ?_; rintro A9 c9 w9 o9 g9 -; have X9 : Ext w6 w9 := Ext.grow (X.out.tr (by (repeat (first | assumption | exact Ext.rf _ | apply Ext.drew | apply Ext.drewN | apply Ext.alloc)))) g9 (fun q hq => (OW.out.lt q hq).1); obtain ⟨s1, s2, s3⟩ := KB.out w9 X9)
            have hs : Hid (ys.length + 1 = ((l + 1) :: ys).length) := rfl
            have O9 : Hid (OwI w9 w6.heap.size A9 c9 (intsN ((l + 1) :: ys).reverse)) := by
              rw [← hlen2.out.2]
              exact o9
            have Y9 := Lib.hid X9
            have e9 : (intsN ys.reverse).length + 1 = ((l + 1) :: ys).length := by rw [← hlen1.out]; rfl
            rw [e9]
            refine ⟨⟨g2, bk, (l + 1) :: ys, A9, c9, rfl, rfl, rfl, TS.out, O9.out, X9⟩, ?_⟩
            simp [intOf]
            omega
end Go.Proofs.YtleckhbmciiooaaDoor
namespace Go.Proofs.YtleckhbmciiooaaDoor
open Go.RowKit Go.ChangeShapes Go.WideShapes Go.ChangeAt Go.Deep

/-- a problem's numbers, each by itself in form -/
def Small31 (xs : List Int) : Prop := ∀ x ∈ xs, 0 ≤ x ∧ x ≤ 2147483647
theorem Small31.get {xs : List Int} (h : Small31 xs) {k : Nat} {x : Int} (hk : xs[k]? = some x) : 0 ≤ x ∧ x ≤ 2147483647 := h x (List.mem_of_getElem? hk)
theorem numP_zero {n : Int} (h : numP n = 0) : 0 ≤ n ∧ n ≤ 2147483647 := by
  unfold numP at h
  split at h
  · cases h
  · split at h
    · cases h
    · omega
theorem firstBad_zero : ∀ {l : List Int}, firstBad l = 0 → ∀ x ∈ l, 0 ≤ x ∧ x ≤ 2147483647
  | [], _, x, hx => by cases hx
  | y :: l, h, x, hx => by
    unfold firstBad at h
    split at h
    · rename_i h0
      rcases List.mem_cons.1 hx with rfl | hx
      · exact numP_zero h0
      · exact firstBad_zero h x hx
    · exact absurd h ‹_›
theorem inter_mem : ∀ {xs ys : List Int}, xs.length = ys.length → (∀ x ∈ xs, x ∈ inter xs ys) ∧ (∀ y ∈ ys, y ∈ inter xs ys)
  | [], [], _ => by simp
  | x :: xs, y :: ys, h => by
    obtain ⟨h1, h2⟩ := inter_mem (xs := xs) (ys := ys) (by simpa using h)
    simp only [inter]
    refine ⟨fun z hz => ?_, fun z hz => ?_⟩
    · rcases List.mem_cons.1 hz with rfl | hz
      · simp
      · simp [h1 z hz]
    · rcases List.mem_cons.1 hz with rfl | hz
      · simp
      · simp [h2 z hz]
  | [], _ :: _, h => by simp at h
  | _ :: _, [], h => by simp at h
structure KnapOk (i : InstP) : Prop where
  n1 : 1 ≤ i.n
  n2 : i.n ≤ 64
  w : (i.weight.length : Int) = i.n
  v : (i.value.length : Int) = i.n
  cap : 0 ≤ i.cap ∧ i.cap ≤ 2147483647
  sw : Small31 i.weight
  sv : Small31 i.value
  cost : i.cost = []
theorem knap_ok {i : InstP} (h : checkP i = 0) (hk : i.kind = 1) : KnapOk i := by
  unfold checkP at h
  by_cases hs : sizeP i.kind i.n = 0
  · rw [if_pos hs] at h
    by_cases hsh : shapeP i = true
    · rw [if_pos hsh, if_pos hk] at h
      unfold shapeP at hsh
      rw [if_pos hk] at hsh
      simp only [Bool.and_eq_true, beq_iff_eq] at hsh
      obtain ⟨⟨h1, h2⟩, h3⟩ := hsh
      unfold sizeP at hs
      rw [if_pos hk] at hs
      have hn : 1 ≤ i.n ∧ i.n ≤ 64 := by
        split at hs
        · cases hs
        · split at hs
          · cases hs
          · omega
      have hl : i.weight.length = i.value.length := by omega
      unfold itemsP at h
      rw [List.take_length, hl, List.take_length] at h
      have hb := firstBad_zero h
      obtain ⟨m1, m2⟩ := inter_mem hl
      exact ⟨hn.1, hn.2, h1, h2, hb _ (by simp), fun x hx => hb x (by simp [m1 x hx]), fun x hx => hb x (by simp [m2 x hx]), List.eq_nil_of_length_eq_zero (by omega)⟩
    · rw [if_neg hsh] at h
      cases h
  · rw [if_neg hs] at h
    exact absurd h hs
end Go.Proofs.YtleckhbmciiooaaDoor
namespace Go.Proofs.YtleckhbmciiooaaDoor
open Go.RowKit Go.ChangeShapes Go.WideShapes Go.ChangeAt Go.Deep

/-- the answer that takes a set -/
def xB (m n : Nat) : List Int := (List.range n).map fun j => if m.testBit j = true then 1 else 0
theorem xB_len (m n : Nat) : (xB m n).length = n := by simp [xB]
theorem xB_get {m n j : Nat} (h : j < n) : (xB m n)[j]? = some (if m.testBit j = true then 1 else 0) := by
  rw [xB, List.getElem?_map, List.getElem?_range h]
  rfl
/-- the sum over what is not in a set -/
def sumN (f : Nat → Int) (k s : Nat) : Int := sumL ((List.range k).map fun j => if s.testBit j = true then 0 else f j)
theorem sumN_succ (f : Nat → Int) (k s : Nat) : sumN f (k + 1) s = sumN f k s + (if s.testBit k = true then 0 else f k) := by
  unfold sumN
  rw [List.range_succ, List.map_append, sumL_append]
  simp [sumL]
theorem sums_bd {f : Nat → Int} {n : Nat} (hf : ∀ j, j < n → 0 ≤ f j ∧ f j ≤ 2147483647) (s : Nat) : ∀ k, k ≤ n → (0 ≤ sumB f k s ∧ sumB f k s ≤ k * 2147483647) ∧ (0 ≤ sumN f k s ∧ sumN f k s ≤ k * 2147483647)
  | 0, _ => by simp [sumB, sumN, sumL]
  | k + 1, h => by
    have ih := sums_bd hf s k (by omega)
    have h1 := hf k (by omega)
    rw [sumB_succ, sumN_succ]
    split <;> omega
theorem sums_all (f : Nat → Int) (s : Nat) : ∀ k, sumB f k s + sumN f k s = sumL ((List.range k).map f)
  | 0 => rfl
  | k + 1 => by
    have ih := sums_all f s k
    rw [sumB_succ, sumN_succ, List.range_succ, List.map_append, sumL_append]
    simp only [List.map_cons, List.map_nil, sumL]
    split <;> omega
def atF (xs : List Int) (j : Nat) : Int := xs.getD j 0
theorem atF_bd {xs : List Int} (h : Small31 xs) (j : Nat) : 0 ≤ atF xs j ∧ atF xs j ≤ 2147483647 := by
  unfold atF
  cases e : xs[j]? with
  | none => simp [List.getD, e]
  | some x =>
    rw [getD_some e]
    exact h.get e
set_option maxRecDepth 100000 in
set_option maxHeartbeats 2000000 in
theorem vknap_any (i : InstP) (us : List Value) (P : Option Addr) (c m n : Nat) (w : World) (H : RInst w us i) (hc : checkP i = 0) (hk : i.kind = 1) (hn : i.n = n) (hP : RdI w P (xB m n)) (hcap : sumB (atF i.weight) n m ≤ i.cap) :
    Calls Tryd.prog 100 #[.agg (List.toArray us), .slice P n c] w fun e w' => e = .returned (.tuple #[.int .i64 (sumN (atF i.value) n m), .int .i64 0]) ∧ Ext w w' := by
  have ok := knap_ok hc hk
  have okw := ok.w
  have okv := ok.v
  have okn := ok.n2
  have okc := ok.cap
  have BW := sums_bd (f := atF i.weight) (n := n) (fun j _ => atF_bd ok.sw j) m
  have BV := sums_bd (f := atF i.value) (n := n) (fun j _ => atF_bd ok.sv j) m
  obtain ⟨kind, nn, cap, xw, xv, co⟩ := i
  obtain ⟨A, a, B, b, D, d, rfl, ⟨rA, -⟩, ⟨rB, -⟩, -⟩ := H
  simp only at *
  subst hk hn
  have lw : xw.length = n := by omega
  have lv : xv.length = n := by omega
  rw [lw, lv]
  have GW : ∀ j, j < n → ∃ b' o', A = some ⟨b', o', none⟩ ∧ b' < w.heap.size ∧ w.cell? ⟨b', o' + j, none⟩ = some (.int .i64 (atF xw j)) := fun j hj => by
    obtain ⟨b', o', x, h1, h2, h3, h4, _⟩ := rA.at (k := j) (by omega)
    exact ⟨b', o', h1, h2, by rw [h3]; unfold atF; rw [getD_some h4.out]⟩
  have GV : ∀ j, j < n → ∃ b' o', B = some ⟨b', o', none⟩ ∧ b' < w.heap.size ∧ w.cell? ⟨b', o' + j, none⟩ = some (.int .i64 (atF xv j)) := fun j hj => by
    obtain ⟨b', o', x, h1, h2, h3, h4, _⟩ := rB.at (k := j) (by omega)
    exact ⟨b', o', h1, h2, by rw [h3]; unfold atF; rw [getD_some h4.out]⟩
  have B1 : Hid (Blk (w.alloc (.cells #[.int .i64 1, .int .i64 n, .int .i64 cap, .slice A n a, .slice B n b, .slice D co.length d] 25)) w.heap.size 25 #[.int .i64 1, .int .i64 n, .int .i64 cap, .slice A n a, .slice B n b, .slice D co.length d]) := .new rfl
  have X0 : Hid (Ext w (w.alloc (.cells #[.int .i64 1, .int .i64 n, .int .i64 cap, .slice A n a, .slice B n b, .slice D co.length d] 25))) := (Ext.rf _).alloc _
  replace GW := Lib.hid GW
  replace GV := Lib.hid GV
  replace BW := Lib.hid BW
  replace BV := Lib.hid BV
  replace hP := Lib.hid hP
  replace hcap := Lib.hid hcap
  have nn0 : ((n : Int) != (n : Int)) = false := by simp
  clear hc ok rA rB okw okv lw lv
  go_enter Tryd.func100, Tryd.ntmps100
  go_wp2_with (fail)
  go_loopw [6, 7, 17] (fun v6 v7 v17 wr => ∃ k : Nat, v6 = .int .i64 (sumB (atF xw) k m) ∧ v7 = .int .i64 (sumN (atF xv) k m) ∧ v17 = .int .i64 k ∧ k ≤ n ∧ Hid (Ext (w.alloc (.cells #[.int .i64 1, .int .i64 n, .int .i64 cap, .slice A n a, .slice B n b, .slice D co.length d] 25)) wr)) (fun _ _ v17 _ => n - (intOf v17).toNat)
  case atStart => exact ⟨0, rfl, rfl, rfl, by omega, Ext.rf _⟩
  case round =>
    obtain ⟨wo, rfl⟩ : ∃ wo : World, wo = wr := ⟨_, rfl⟩
    obtain ⟨k, rfl, rfl, rfl, hk, X⟩ := hrel
    have XW := X0.out.tr X.out
    have b1 := B1.out.ext X.out
    have bw := BW.out k hk
    have bv := BV.out k hk
    by_cases hlt : k < n
    · obtain ⟨b1', o1, rfl, z1, c1⟩ := GW.out k hlt
      obtain ⟨b2', o2, rfl, z2, c2⟩ := GV.out k hlt
      have k1 := keepEL XW z1 c1
      have k2 := keepEL XW z2 c2
      obtain ⟨pb, po, x, rfl, _, cp, ex, _⟩ := (hP.out.ext XW).at (k := k) (by rw [xB_len]; exact hlt)
      have t3 : wo.cell? ⟨w.heap.size, 3, none⟩ = some (.slice (some ⟨b1', o1, none⟩) n a) := b1.cell 3
      have t4 : wo.cell? ⟨w.heap.size, 4, none⟩ = some (.slice (some ⟨b2', o2, none⟩) n b) := b1.cell 4
      have e1 := sumB_succ (atF xw) k m
      have e2 := sumN_succ (atF xv) k m
      have ex' := ex.out
      rw [xB_get hlt] at ex'
      have q1 : (k : Int) < (n : Int) := by omega
      have b3 := BW.out (k + 1) (by omega)
      have b4 := BV.out (k + 1) (by omega)
      cases hb : m.testBit k
      · rw [hb] at ex' e1 e2
        simp only [Bool.false_eq_true, if_false, Int.add_zero] at ex' e1 e2
        obtain rfl : x = 0 := (Option.some.inj ex').symm
        have HB : Hid (sumB (atF xw) (k + 1) m = sumB (atF xw) k m ∧ sumN (atF xv) (k + 1) m = sumN (atF xv) k m + atF xv k) := ⟨e1, e2⟩
        rw [e2] at b4
        clear e1 e2 ex ex' b1 XW b3
        generalize sumB (atF xw) k m = sw at *
        generalize sumN (atF xv) k m = sv at *
        generalize atF xv k = fv at *
        have wv : IntKind.i64.wrap (sv + fv) = sv + fv := IntWalk.i64_in _ (by omega)
        go_wp2_with (fail)
        go_roundw
        case rel => exact ⟨k + 1, by rw [HB.out.1], by rw [HB.out.2], by go_num, by omega, X.out.tr (by (repeat (first | assumption | exact Ext.rf _ | apply Ext.drew | apply Ext.drewN | apply Ext.alloc)))⟩
        case measure => simp [intOf]; omega
      · rw [hb] at ex' e1 e2
        simp only [if_true, Int.add_zero] at ex' e1 e2
        obtain rfl : x = 1 := (Option.some.inj ex').symm
        have HB : Hid (sumB (atF xw) (k + 1) m = sumB (atF xw) k m + atF xw k ∧ sumN (atF xv) (k + 1) m = sumN (atF xv) k m) := ⟨e1, e2⟩
        rw [e1] at b3
        clear e1 e2 ex ex' b1 XW b4
        generalize sumB (atF xw) k m = sw at *
        generalize sumN (atF xv) k m = sv at *
        generalize atF xw k = fv at *
        have wv : IntKind.i64.wrap (sw + fv) = sw + fv := IntWalk.i64_in _ (by omega)
        go_wp2_with (fail)
        go_roundw
        case rel => exact ⟨k + 1, by rw [HB.out.1], by rw [HB.out.2], by go_num, by omega, X.out.tr (by (repeat (first | assumption | exact Ext.rf _ | apply Ext.drew | apply Ext.drewN | apply Ext.alloc)))⟩
        case measure => simp [intOf]; omega
    · obtain rfl : n = k := by omega
      have t2 : wo.cell? ⟨w.heap.size, 2, none⟩ = some (.int .i64 cap) := b1.cell 2
      have hq : ¬ cap < sumB (atF xw) n m := by have := hcap.out; omega
      replace XW := Lib.hid XW
      clear b1 bw bv
      go_wp2_with (fail)
      go_ret2
      exact ⟨rfl, XW.out.tr (by (repeat (first | assumption | exact Ext.rf _ | apply Ext.drew | apply Ext.drewN | apply Ext.alloc)))⟩
set_option maxRecDepth 100000 in
set_option maxHeartbeats 1000000 in
theorem vcost1_any (i : InstP) (us : List Value) (P : Option Addr) (c m n : Nat) (w : World) (H : RInst w us i) (hc : checkP i = 0) (hk : i.kind = 1) (hn : i.n = n) (hP : RdI w P (xB m n)) (hcap : sumB (atF i.weight) n m ≤ i.cap) :
    Calls Tryd.prog 75 #[.agg (List.toArray us), .slice P n c] w fun e w' => e = .returned (.tuple #[.int .i64 (sumN (atF i.value) n m), .int .i64 0]) ∧ Ext w w' := by
  have ok := knap_ok hc hk
  have CH := fun (W : World) (x : Ext w W) => check_any i us W (H.ext x) (by have := ok.w; have := ok.n2; omega) (by have := ok.v; have := ok.n2; omega)
  have VK := fun (W : World) (x : Ext w W) => vknap_any i us P c m n W (H.ext x) hc hk hn (hP.ext x) hcap
  rw [hc] at CH
  clear ok hcap hP hc
  obtain ⟨kind, nn, cap, xw, xv, co⟩ := i
  obtain ⟨A, a, B, b, D, d, rfl, -, -, -⟩ := H
  simp only at *
  subst hk hn
  generalize sumN (atF xv) n m = sv at *
  have B1 : Hid (Blk (w.alloc (.cells #[.int .i64 1, .int .i64 n, .int .i64 cap, .slice A xw.length a, .slice B xv.length b, .slice D co.length d] 25)) w.heap.size 25 #[.int .i64 1, .int .i64 n, .int .i64 cap, .slice A xw.length a, .slice B xv.length b, .slice D co.length d]) := .new rfl
  replace CH := Lib.hid CH
  replace VK := Lib.hid VK
  go_enter Tryd.func75, Tryd.ntmps75
  go_wp2_with (fail)
  refine (CH.out _ (by (repeat (first | assumption | exact Ext.rf _ | apply Ext.drew | apply Ext.drewN | apply Ext.alloc)))).mono ?_
  rintro e w1 ⟨rfl, x1⟩
  have X1 := Lib.hid (Ext.tr (a := w) (by (repeat (first | assumption | exact Ext.rf _ | apply Ext.drew | apply Ext.drewN | apply Ext.alloc))) x1)
  have b1 := B1.out.ext x1
  have t0 : w1.cell? ⟨w.heap.size, 0, none⟩ = some (.int .i64 1) := b1.cell 0
  have t1 : w1.cell? ⟨w.heap.size, 1, none⟩ = some (.int .i64 n) := b1.cell 1
  have t2 : w1.cell? ⟨w.heap.size, 2, none⟩ = some (.int .i64 cap) := b1.cell 2
  have t3 : w1.cell? ⟨w.heap.size, 3, none⟩ = some (.slice A xw.length a) := b1.cell 3
  have t4 : w1.cell? ⟨w.heap.size, 4, none⟩ = some (.slice B xv.length b) := b1.cell 4
  have t5 : w1.cell? ⟨w.heap.size, 5, none⟩ = some (.slice D co.length d) := b1.cell 5
  clear x1 B1 b1
  go_wp2_with (fail)
  refine (VK.out _ X1.out).mono ?_
  rintro e w2 ⟨rfl, x2⟩
  have X2 := Lib.hid (X1.out.tr x2)
  clear x2 t0 t1 t2 t3 t4 t5
  go_wp2_with (fail)
  go_ret2
  exact ⟨rfl, X2.out.tr (by (repeat (first | assumption | exact Ext.rf _ | apply Ext.drew | apply Ext.drewN | apply Ext.alloc)))⟩
set_option maxRecDepth 100000 in
set_option maxHeartbeats 1000000 in
theorem takes1_any (i : InstP) (us : List Value) (w : World) (H : RInst w us i) (hc : checkP i = 0) (hk : i.kind = 1) (hn : i.n ≤ 18) :
    Calls Tryd.prog 62 #[.agg (List.toArray us), .int .i64 1] w fun e w' => e = .returned (.int .i64 0) ∧ Ext w w' := by
  have ok := knap_ok hc hk
  have CH := fun (W : World) (x : Ext w W) => check_any i us W (H.ext x) (by have := ok.w; have := ok.n2; omega) (by have := ok.v; have := ok.n2; omega)
  rw [hc] at CH
  clear ok hc
  obtain ⟨kind, nn, cap, xw, xv, co⟩ := i
  obtain ⟨A, a, B, b, D, d, rfl, -, -, -⟩ := H
  simp only at *
  subst hk
  have B1 : Hid (Blk (w.alloc (.cells #[.int .i64 1, .int .i64 nn, .int .i64 cap, .slice A xw.length a, .slice B xv.length b, .slice D co.length d] 25)) w.heap.size 25 #[.int .i64 1, .int .i64 nn, .int .i64 cap, .slice A xw.length a, .slice B xv.length b, .slice D co.length d]) := .new rfl
  replace CH := Lib.hid CH
  have hq : ¬ 18 < nn := by omega
  go_enter Tryd.func62, Tryd.ntmps62
  go_wp2_with (fail)
  refine (CH.out _ (by (repeat (first | assumption | exact Ext.rf _ | apply Ext.drew | apply Ext.drewN | apply Ext.alloc)))).mono ?_
  rintro e w1 ⟨rfl, x1⟩
  have X1 := Lib.hid (Ext.tr (a := w) (by (repeat (first | assumption | exact Ext.rf _ | apply Ext.drew | apply Ext.drewN | apply Ext.alloc))) x1)
  have b1 := Lib.hid (B1.out.ext x1)
  have t0 : w1.cell? ⟨w.heap.size, 0, none⟩ = some (.int .i64 1) := b1.out.cell 0
  have t1 : w1.cell? ⟨w.heap.size, 1, none⟩ = some (.int .i64 nn) := b1.out.cell 1
  clear x1 B1
  go_wp2_with (fail)
  go_ret
  exact ⟨rfl, X1.out.tr (by (repeat (first | assumption | exact Ext.rf _ | apply Ext.drew | apply Ext.drewN | apply Ext.alloc)))⟩
set_option maxRecDepth 100000 in
set_option maxHeartbeats 1000000 in
theorem told1_any (i : InstP) (us : List Value) (P : Option Addr) (c m n : Nat) (w : World) (H : RInst w us i) (hc : checkP i = 0) (hk : i.kind = 1) (hn : i.n = n) (hP : RdI w P (xB m n)) (hcap : sumB (atF i.weight) n m ≤ i.cap) :
    Calls Tryd.prog 66 #[.agg (List.toArray us), .slice P n c] w fun e w' => e = .returned (.tuple #[.slice P n c, .int .i64 (sumN (atF i.value) n m), .int .i64 0]) ∧ Ext w w' := by
  have VC := fun (W : World) (x : Ext w W) => vcost1_any i us P c m n W (H.ext x) hc hk hn (hP.ext x) hcap
  obtain ⟨kind, nn, cap, xw, xv, co⟩ := i
  obtain ⟨A, a, B, b, D, d, rfl, -, -, -⟩ := H
  simp only at *
  subst hn
  generalize sumN (atF xv) n m = cc at *
  replace VC := Lib.hid VC
  clear hc hk hP hcap
  go_enter Tryd.func66, Tryd.ntmps66
  go_wp2_with (fail)
  refine (VC.out _ (by (repeat (first | assumption | exact Ext.rf _ | apply Ext.drew | apply Ext.drewN | apply Ext.alloc)))).mono ?_
  rintro e w1 ⟨rfl, x1⟩
  have X1 := Lib.hid (Ext.tr (a := w) (by (repeat (first | assumption | exact Ext.rf _ | apply Ext.drew | apply Ext.drewN | apply Ext.alloc))) x1)
  clear x1
  go_wp2_with (fail)
  go_ret3
  exact ⟨rfl, X1.out.tr (by (repeat (first | assumption | exact Ext.rf _ | apply Ext.drew | apply Ext.drewN | apply Ext.alloc)))⟩
end Go.Proofs.YtleckhbmciiooaaDoor
namespace Go.Proofs.YtleckhbmciiooaaDoor
open Go.Shelf

def sortLay_ren : Go.Shelf.Ren := ⟨fun | 6 => 91 | 15 => 118 | 14 => 117 | 28 => 146 | 29 => 147 | 20 => 138 | 21 => 139 | 22 => 140 | 23 => 141 | 24 => 142 | 25 => 143 | 26 => 144 | 27 => 145 | 46 => 158 | 47 => 159 | 48 => 160 | 49 => 161 | 50 => 162 | 57 => 168 | n => n, fun | 22 => 97 | 24 => 96 | 25 => 129 | 3 => 3 | 39 => 117 | 0 => 0 | 53 => 137 | 55 => 28 | 4 => 4 | 46 => 165 | 45 => 164 | 50 => 55 | 5 => 5 | 9 => 9 | 66 => 180 | 70 => 184 | 76 => 189 | 77 => 190 | n => n, fun n => n⟩
set_option maxRecDepth 100000 in
theorem sortLay : SlLaysF0.n6 Tryd.prog sortLay_ren where
  mixed := by kernel_rfl
  f6 := ⟨ "slices.SortFunc[[]kurgan/exact.load,kurgan/exact.load]", by decide, Tryd.func91.trans (congrArg some (by kernel_rfl))⟩
  f14 := ⟨ "slices.pdqsortCmpFunc[kurgan/exact.load]", by decide, Tryd.func117.trans (congrArg some (by kernel_rfl))⟩
  f15 := Tryd.func118.trans (congrArg some (by kernel_rfl))
  f20 := ⟨ "slices.insertionSortCmpFunc[kurgan/exact.load]", by decide, Tryd.func138.trans (congrArg some (by kernel_rfl))⟩
  f21 := ⟨ "slices.heapSortCmpFunc[kurgan/exact.load]", by decide, Tryd.func139.trans (congrArg some (by kernel_rfl))⟩
  f22 := ⟨ "slices.breakPatternsCmpFunc[kurgan/exact.load]", by decide, Tryd.func140.trans (congrArg some (by kernel_rfl))⟩
  f23 := ⟨ "slices.choosePivotCmpFunc[kurgan/exact.load]", by decide, Tryd.func141.trans (congrArg some (by kernel_rfl))⟩
  f24 := ⟨ "slices.reverseRangeCmpFunc[kurgan/exact.load]", by decide, Tryd.func142.trans (congrArg some (by kernel_rfl))⟩
  f25 := ⟨ "slices.partialInsertionSortCmpFunc[kurgan/exact.load]", by decide, Tryd.func143.trans (congrArg some (by kernel_rfl))⟩
  f26 := ⟨ "slices.partitionEqualCmpFunc[kurgan/exact.load]", by decide, Tryd.func144.trans (congrArg some (by kernel_rfl))⟩
  f27 := ⟨ "slices.partitionCmpFunc[kurgan/exact.load]", by decide, Tryd.func145.trans (congrArg some (by kernel_rfl))⟩
  f28 := Tryd.func146.trans (congrArg some (by kernel_rfl))
  f29 := Tryd.func147.trans (congrArg some (by kernel_rfl))
  f46 := ⟨ "slices.siftDownCmpFunc[kurgan/exact.load]", by decide, Tryd.func158.trans (congrArg some (by kernel_rfl))⟩
  f47 := Tryd.func159.trans (congrArg some (by kernel_rfl))
  f48 := Tryd.func160.trans (congrArg some (by kernel_rfl))
  f49 := ⟨ "slices.medianAdjacentCmpFunc[kurgan/exact.load]", by decide, Tryd.func161.trans (congrArg some (by kernel_rfl))⟩
  f50 := ⟨ "slices.medianCmpFunc[kurgan/exact.load]", by decide, Tryd.func162.trans (congrArg some (by kernel_rfl))⟩
  f57 := ⟨ "slices.order2CmpFunc[kurgan/exact.load]", by decide, Tryd.func168.trans (congrArg some (by kernel_rfl))⟩
  t0 := Tryd.underlying0
  a0 := Tryd.isAgg0
  z0 := Tryd.sizeOf0
  v0 := Tryd.zeroValue0
  t3 := Tryd.underlying3
  a3 := Tryd.isAgg3
  z3 := Tryd.sizeOf3
  v3 := Tryd.zeroValue3
  t4 := Tryd.underlying4
  a4 := Tryd.isAgg4
  z4 := Tryd.sizeOf4
  v4 := Tryd.zeroValue4
  t5 := Tryd.underlying5
  a5 := Tryd.isAgg5
  z5 := Tryd.sizeOf5
  v5 := Tryd.zeroValue5
  t9 := Tryd.underlying9
  a9 := Tryd.isAgg9
  z9 := Tryd.sizeOf9
  v9 := Tryd.zeroValue9
  t22 := Tryd.underlying97
  a22 := Tryd.isAgg97
  z22 := Tryd.sizeOf97
  v22 := Tryd.zeroValue97
  t25 := Tryd.underlying129
  a25 := Tryd.isAgg129
  z25 := Tryd.sizeOf129
  v25 := Tryd.zeroValue129
  t39 := Tryd.underlying117
  a39 := Tryd.isAgg117
  z39 := Tryd.sizeOf117
  v39 := Tryd.zeroValue117
  t45 := Tryd.underlying164
  a45 := Tryd.isAgg164
  z45 := Tryd.sizeOf164
  v45 := Tryd.zeroValue164
  t46 := Tryd.underlying165
  a46 := Tryd.isAgg165
  z46 := Tryd.sizeOf165
  v46 := Tryd.zeroValue165
  t50 := Tryd.underlying55
  a50 := Tryd.isAgg55
  z50 := Tryd.sizeOf55
  v50 := Tryd.zeroValue55
  t53 := Tryd.underlying137
  a53 := Tryd.isAgg137
  z53 := Tryd.sizeOf137
  v53 := Tryd.zeroValue137
  t55 := Tryd.underlying28
  a55 := Tryd.isAgg28
  z55 := Tryd.sizeOf28
  v55 := Tryd.zeroValue28
  t66 := Tryd.underlying180
  a66 := Tryd.isAgg180
  z66 := Tryd.sizeOf180
  v66 := Tryd.zeroValue180
  t70 := Tryd.underlying184
  a70 := Tryd.isAgg184
  z70 := Tryd.sizeOf184
  v70 := Tryd.zeroValue184
  t76 := Tryd.underlying189
  a76 := Tryd.isAgg189
  z76 := Tryd.sizeOf189
  v76 := Tryd.zeroValue189
  t77 := Tryd.underlying190
  a77 := Tryd.isAgg190
  z77 := Tryd.sizeOf190
  v77 := Tryd.zeroValue190
end Go.Proofs.YtleckhbmciiooaaDoor
namespace Go.Proofs.YtleckhbmciiooaaDoor
open Go.RowKit Go.ChangeShapes Go.WideShapes Go.ChangeAt Go.Deep Go.Shelf Go.Sort

abbrev ldA (d : Ld) : Value := .agg #[.int .i64 d.1, .int .i64 d.2.1, .int .u64 (d.2.2 : Int), .int .u64 0]
/-- no great number -/
def LdOk (d : Ld) : Prop := 0 ≤ d.1 ∧ d.1 ≤ 1099511627776 ∧ 0 ≤ d.2.1 ∧ d.2.1 ≤ 1099511627776
abbrev BLd := { d : Ld // LdOk d }
instance : Inhabited BLd := ⟨⟨(0, 0, 0), by simp [LdOk]⟩⟩
def encL (x : BLd) : List Value := [.int .i64 x.1.1, .int .i64 x.1.2.1, .int .u64 (x.1.2.2 : Int), .int .u64 0]
def cfL (x y : BLd) : Int := if x.1.1 = y.1.1 then y.1.2.1 - x.1.2.1 else x.1.1 - y.1.1
theorem cfL_lt (x y : BLd) : ltOf cfL x y = true ↔ (x.1.1 < y.1.1 ∨ (x.1.1 = y.1.1 ∧ y.1.2.1 < x.1.2.1)) := by
  unfold ltOf
  rw [decide_eq_true_iff]
  unfold cfL
  by_cases h : x.1.1 = y.1.1
  · rw [if_pos h]; omega
  · rw [if_neg h]; omega
theorem cfL_nlt (x y : BLd) : ltOf cfL x y = false ↔ ¬ (x.1.1 < y.1.1 ∨ (x.1.1 = y.1.1 ∧ y.1.2.1 < x.1.2.1)) := by
  rw [← cfL_lt]
  simp
theorem cfL_swo : SWO (ltOf cfL) where
  irrefl := fun x => (cfL_nlt x x).2 (by omega)
  trans := fun x y z h1 h2 => (cfL_lt x z).2 (by
    have h1 := (cfL_lt x y).1 h1
    have h2 := (cfL_lt y z).1 h2
    omega)
  ntrans := fun x y z h1 h2 => (cfL_nlt x z).2 (by
    have h1 := (cfL_nlt x y).1 h1
    have h2 := (cfL_nlt y z).1 h2
    omega)
set_option maxRecDepth 100000 in
theorem closure_any (x y : BLd) (W : World) : Calls Tryd.prog 92 #[.agg (encL x).toArray, .agg (encL y).toArray] W fun e w' => e = .returned (.int .i64 (cfL x y)) ∧ ∃ q os', w' = grow (W.drewN q) os' := by
  obtain ⟨⟨a, b, s⟩, h1⟩ := x
  obtain ⟨⟨a', b', s'⟩, h2⟩ := y
  unfold LdOk at h1 h2
  simp only at h1 h2
  have w1 : IntKind.i64.wrap (a - a') = a - a' := IntWalk.i64_in _ (by omega)
  have w2 : IntKind.i64.wrap (b' - b) = b' - b := IntWalk.i64_in _ (by omega)
  unfold cfL encL
  simp only
  by_cases e : a = a'
  · have e1 : (a != a') = false := by simp [e]
    rw [if_pos e]
    clear e h1 h2
    go_enter Tryd.func92, Tryd.ntmps92
    go_wp2
    go_ret
    exact ⟨rfl, 0, _, by rw [alloc_eq_grow, alloc_eq_grow, grow_grow]; rfl⟩
  · have e1 : (a != a') = true := by simp [e]
    rw [if_neg e]
    clear e h1 h2
    go_enter Tryd.func92, Tryd.ntmps92
    go_wp2
    go_ret
    exact ⟨rfl, 0, _, by rw [alloc_eq_grow, alloc_eq_grow, grow_grow]; rfl⟩
theorem flatK_flatL (d : Array BLd) : (flatK encL 4 d).toList = flatL (d.toList.map (·.1)) := by
  refine List.ext_getElem? fun t => ?_
  have hs : (flatK encL 4 d).size = d.size * 4 := size_flatK _ _ _
  have hl : (flatL (d.toList.map (·.1))).length = d.size * 4 := by rw [flatL_len]; simp
  obtain ⟨q, r, hr, rfl⟩ : ∃ q r, r < 4 ∧ t = q * 4 + r := ⟨t / 4, t % 4, by omega, by omega⟩
  have q1 : (q * 4 + r) / 4 = q := by omega
  have q2 : (q * 4 + r) % 4 = r := by omega
  by_cases hk : q < d.size
  · have e1 : (d.toList.map (·.1))[q]? = some (d[q]'hk).1 := by simp [hk]
    obtain ⟨g0, g1, g2, g3⟩ := flatL_get e1
    have e2 : (flatK encL 4 d).toList[q * 4 + r]? = some ((encL (d[q]'hk))[r]!) := by
      have h3 := get_flatK encL 4 d (q * 4 + r) (by omega)
      rw [q1, q2, getElem!_pos d q hk] at h3
      rw [getElem!_pos _ (q * 4 + r) (by rw [hs]; omega)] at h3
      rw [← h3]
      simp [hs]
    rw [e2]
    have hm : r = 0 ∨ r = 1 ∨ r = 2 ∨ r = 3 := by omega
    rcases hm with rfl | rfl | rfl | rfl
    · rw [Nat.add_zero, g0]; rfl
    · rw [g1]; rfl
    · rw [g2]; rfl
    · rw [g3]; rfl
  · rw [List.getElem?_eq_none (by rw [Array.length_toList, hs]; omega), List.getElem?_eq_none (by omega)]
theorem isAgg_ld : ∀ w, (isAgg (sortLay_ren.t 24)).run Tryd.prog w = .ok true w := Tryd.isAgg96
theorem sizeOf_ld : ∀ w, (Go.sizeOf (sortLay_ren.t 24)).run Tryd.prog w = .ok 4 w := Tryd.sizeOf96
/-- the library's sort of loads: they lie otherwise -/
theorem sortld_any {w : World} {base g n c : Nat} {l : List Ld} (h : OwV w base 96 4 (some ⟨g, 0, none⟩) n c (flatL l)) (hn : l.length = n) (hl : ∀ d ∈ l, LdOk d) (hsz : n ≤ 1000000000) :
    Calls Tryd.prog 91 #[.slice (some ⟨g, 0, none⟩) n c, .func (.func 92) #[] #[]] w fun e w' => e = .returned (.tuple #[]) ∧ (∃ l2 : List Ld, l2.Perm l ∧ OwV w' base 96 4 (some ⟨g, 0, none⟩) n c (flatL l2)) ∧ Mod (fun b => b = g) w w' := by
  obtain ⟨d, hd⟩ : ∃ d : Array BLd, d = (l.attach.map fun x => (⟨x.1, hl x.1 x.2⟩ : BLd)).toArray := ⟨_, rfl⟩
  have hdl : d.toList.map (·.1) = l := by
    rw [hd]
    simp only [List.map_map]
    exact List.attach_map_subtype_val l
  have hds : d.size = n := by rw [← hn, ← hdl]; simp
  rcases h.cases with ⟨e, _⟩ | ⟨g', cur, e, hb, hg, hnc, hcm, hs, ht⟩
  · cases e
  obtain rfl : g = g' := by simpa using e
  have hcur : ∀ j, j < n * 4 → cur[j]? = (flatL l)[j]? := fun j hj => by
    have h1 : (cur.toList.take (n * 4))[j]? = cur.toList[j]? := List.getElem?_take_of_lt hj
    rw [ht] at h1
    rw [h1]
    simp
  have hH : HoldsK encL 4 w g 0 d := fun j hj => by
    have hj' : j < n * 4 := by rw [size_flatK, hds] at hj; exact hj
    refine ⟨?_, by simp [World.frozen?, hg]⟩
    rw [Nat.zero_add, cell_of_row w g _ cur _ (0, 0) hg, hcur j hj', ← hdl, ← flatK_flatL]
    rw [getElem!_pos _ j hj]
    simp
  have hblk : g < w.heap.size := (Array.getElem?_eq_some_iff.1 hg).1
  have eg : ∀ args w, (callFunc 92 args).run Tryd.prog w = .ok (.enter 92 args) w := enters_of Tryd.func92 (by kernel_rfl) rfl
  have hcmp : CmpLays Tryd.prog 92 #[] encL 4 cfL g 0 d.size w := fun _ _ _ _ x y => closure_any x y _
  have hcon := AnyQ.slices_SortFunc sortLay 4 isAgg_ld sizeOf_ld encL (fun _ => rfl) (fun x v hv => by simp [encL] at hv; rcases hv with rfl | rfl | rfl | rfl <;> rfl) cfL cfL_swo 92 #[] g 0 c d w eg hcmp hH hblk (by omega)
  rw [hds] at hcon
  change Calls Tryd.prog 91 _ _ _ at hcon
  refine hcon.mono ?_
  rintro e w' ⟨rfl, d', m, os, hp, -, rfl⟩
  have hps : d'.size = n := by rw [hp.1, hds]
  have hperm : (d'.toList.map (·.1)).Perm l := by
    have h3 := hp.2.2
    rw [← hds] at h3
    rw [Array.extract_size] at h3
    rw [show d'.extract 0 d.size = d' by rw [← hp.1]; exact Array.extract_size] at h3
    have := h3.map (·.1)
    rwa [hdl] at this
  have hl2 : (d'.toList.map (·.1)).length = n := by rw [hperm.length_eq, hn]
  refine ⟨rfl, ⟨_, hperm, ?_⟩, ?_⟩
  · refine .mk (cur := putCells id 0 (flatK encL 4 d') cur) hb ?_ hnc hcm (by simp [putCells, hs]) ?_
    · unfold sortWorldK putRowK putRow mapBlock grow
      simp only [Array.getElem?_append_left (show g < (w.heap.modify g _).size by simpa using hblk)]
      rw [show (Sort.ahead w m).heap = w.heap from rfl, Array.getElem?_append_left (by simpa using hblk), Array.getElem?_modify, if_pos rfl, hg]
      rfl
    · rw [← flatK_flatL]
      refine List.ext_getElem? fun j => ?_
      have hsK : (flatK encL 4 d').size = n * 4 := by rw [size_flatK, hps]
      by_cases hj : j < n * 4
      · rw [List.getElem?_take_of_lt hj]
        have hjc : j < cur.size := by rw [hs]; omega
        simp only [putCells, Array.getElem?_toList, Array.getElem?_mapIdx]
        rw [Array.getElem?_eq_getElem hjc]
        simp only [Option.map_some, Nat.zero_le, true_and, Nat.zero_add, hsK, hj, if_true, Nat.sub_zero, id]
        rw [getElem!_pos _ j (by omega)]
        simp [hsK, hj]
      · rw [List.getElem?_eq_none (by rw [List.length_take]; omega), List.getElem?_eq_none (by rw [Array.length_toList, hsK]; omega)]
  · refine ⟨rfl, rfl, rfl, ?_, fun k hk hne => ?_⟩
    · simp [sortWorldK, putRowK, putRow, mapBlock, grow, Sort.ahead]
    · unfold sortWorldK putRowK putRow mapBlock grow
      rw [Array.getElem?_append_left (by simpa [Sort.ahead] using hk), Array.getElem?_modify, if_neg (fun e => hne e.symm)]
      rfl
end Go.Proofs.YtleckhbmciiooaaDoor
namespace Go.Proofs.YtleckhbmciiooaaDoor
open Go.RowKit Go.ChangeShapes Go.WideShapes Go.ChangeAt Go.Deep

theorem ld_info : (Tryd.prog.info? 96).map (fun i => (i.zero, i.size, i.bytes)) = some (some (.agg #[.int .i64 0, .int .i64 0, .int .u64 0, .int .u64 0]), 4, 32) := by kernel_rfl
set_option maxRecDepth 100000 in
theorem worse_any (d m : Ld) (w : World) : Calls Tryd.prog 93 #[ldA d, ldA m] w fun e w' => e = .returned (.bool (worseB d m)) ∧ Ext w w' := by
  obtain ⟨a, b, s⟩ := d
  obtain ⟨a', b', s'⟩ := m
  unfold worseB
  simp only [ldA]
  cases h1 : decide (a' ≤ a)
  · have h1' : ¬ a' ≤ a := of_decide_eq_false h1
    go_enter Tryd.func93, Tryd.ntmps93
    go_wp2
    go_ret
    exact ⟨rfl, by (repeat (first | assumption | exact Ext.rf _ | apply Ext.drew | apply Ext.drewN | apply Ext.alloc))⟩
  · have h1' : a' ≤ a := of_decide_eq_true h1
    go_enter Tryd.func93, Tryd.ntmps93
    go_wp2
    go_ret
    exact ⟨rfl, by (repeat (first | assumption | exact Ext.rf _ | apply Ext.drew | apply Ext.drewN | apply Ext.alloc))⟩
def WithPost (w : World) (L : List Ld) (e : Ending) (w' : World) : Prop := ∃ B c, e = .returned (.slice B L.length c) ∧ OwV w' w.heap.size 96 4 B L.length c (flatL L) ∧ Ext w w'
set_option maxRecDepth 100000 in
set_option maxHeartbeats 2000000 in
theorem withl_any {A : Option Addr} {c n : Nat} {l : List Ld} {w : World} (hA : RdV w 96 A (flatL l)) (hn : l.length = n) (hl : ∀ d ∈ l, LdOk d ∧ d.2.2 < 18446744073709551616) (hsz : n ≤ 1000000) (k : Nat) (hk : k < 64) (wt vl room : Int) (hw : 0 ≤ wt ∧ wt ≤ 2147483647) (hv : 0 ≤ vl ∧ vl ≤ 2147483647) (hr : 0 ≤ room ∧ room ≤ 2147483647) :
    Calls Tryd.prog 64 #[.slice A n c, .int .i64 k, .int .i64 wt, .int .i64 vl, .int .i64 room] w (WithPost w (withP l k wt vl room)) := by
  have WI := Lib.hid (fun (m : Nat) (hm : m < 18446744073709551616) (W : World) => with_any m k hm hk W)
  obtain ⟨i0, hi, hz0, hz1, hz2⟩ := info_parts ld_info
  replace hi := Lib.hid hi
  replace hz0 := Lib.hid hz0
  replace hz1 := Lib.hid hz1
  replace hz2 := Lib.hid hz2
  have W0 : Hid (0 = (withP (l.take 0) k wt vl room).length) := by
    have h : 0 = (withP (l.take 0) k wt vl room).length := by simp [withP]
    exact h
  have O0 : Hid (OwV w w.heap.size 96 4 none 0 0 (flatL (withP (l.take 0) k wt vl room))) := by
    have h : OwV w w.heap.size 96 4 none 0 0 (flatL (withP (l.take 0) k wt vl room)) := by
      simp only [List.take_zero, withP, List.filter_nil, List.map_nil, flatL]
      exact OwV.nil _ _ _ _
    exact h
  replace hA := Lib.hid hA
  replace hn := Lib.hid hn
  replace hl := Lib.hid hl
  go_enter Tryd.func64, Tryd.ntmps64
  go_wp2_with (fail)
  go_loopw [11, 16] (fun v11 v16 wr => ∃ (j m : Nat) (B : Option Addr) (b2 : Nat), v11 = .slice B m b2 ∧ v16 = .int .i64 j ∧ j ≤ n ∧ m ≤ j ∧ Hid (m = (withP (l.take j) k wt vl room).length) ∧ Hid (OwV wr w.heap.size 96 4 B m b2 (flatL (withP (l.take j) k wt vl room))) ∧ Hid (Ext w wr)) (fun _ v16 _ => n - (intOf v16).toNat)
  case atStart => exact ⟨0, 0, none, 0, rfl, rfl, by omega, by omega, W0, O0, Ext.rf _⟩
  case round =>
    clear W0 O0
    obtain ⟨wo, rfl⟩ : ∃ wo : World, wo = wr := ⟨_, rfl⟩
    obtain ⟨j, m, B, b2, rfl, rfl, hj, hmj, hm, hO, X⟩ := hrel
    by_cases hlt : j < n
    · have hjl : j < l.length := by rw [hn.out]; exact hlt
      obtain ⟨d, hd⟩ : ∃ d, Hid (l[j]? = some d) := ⟨l[j], List.getElem?_eq_getElem hjl⟩
      have hne : flatL l ≠ [] := by
        intro e
        have := flatL_len l
        rw [e] at this
        simp at this
        omega
      obtain ⟨b, off, rfl, zb, hcell⟩ := (hA.out.ext X.out).form hne
      obtain ⟨g0, g1, g2, g3⟩ := flatL_get hd.out
      have c0 := hcell _ _ g0
      have c1 := hcell _ _ g1
      have c2 := hcell _ _ g2
      have c3 := hcell _ _ g3
      rw [← Nat.add_assoc] at c1 c2 c3
      have hok := hl.out d (List.mem_of_getElem? hd.out)
      have HT : withP (l.take (j + 1)) k wt vl room = withP (l.take j) k wt vl room ++ (if d.1 + wt ≤ room then [(d.1 + wt, d.2.1 + vl, d.2.2 ||| 2 ^ k)] else []) := by
        rw [List.take_add_one, hd.out]
        exact withP_snoc _ _ _ _ _ _
      obtain ⟨dw, dv, dm⟩ := d
      unfold LdOk at hok
      simp only at hok c0 c1 c2 c3 HT
      have w1 : IntKind.i64.wrap (dw + wt) = dw + wt := IntWalk.i64_in _ (by omega)
      have w2 : IntKind.i64.wrap (dv + vl) = dv + vl := IntWalk.i64_in _ (by omega)
      have q1 : (j : Int) < (n : Int) := by omega
      generalize withP (l.take j) k wt vl room = L at *
      clear hcell hne g0 g1 g2 g3 hjl
      by_cases hfit : dw + wt ≤ room
      · rw [if_pos hfit] at HT
        replace HT := Lib.hid HT
        go_upto_region 6 with (fail)
        have bx : Blk (wo.alloc (.cells #[.int .i64 dw, .int .i64 dv, .int .u64 dm, .int .u64 0] 96)) wo.heap.size 96 #[.int .i64 dw, .int .i64 dv, .int .u64 dm, .int .u64 0] := .new rfl
        have xx : Ext wo (wo.alloc (.cells #[.int .i64 dw, .int .i64 dv, .int .u64 dm, .int .u64 0] 96)) := (Ext.rf _).alloc _
        have X2 := Lib.hid (X.out.tr xx)
        have hO2 := Lib.hid (hO.out.ext xx)
        have hBx : Hid (∀ q, bl B = some q → q < wo.heap.size) := fun q hq => (hO.out.lt q hq).2
        generalize wo.alloc (.cells #[.int .i64 dw, .int .i64 dv, .int .u64 dm, .int .u64 0] 96) = wz at *
        generalize wo.heap.size = gx at *
        clear c0 c1 c2 c3 xx X hO
        have e0 : wz.cell? ⟨gx, 0, none⟩ = some (.int .i64 dw) := bx.cell 0
        have e1 : wz.cell? ⟨gx, 1, none⟩ = some (.int .i64 dv) := bx.cell 1
        have e2 : wz.cell? ⟨gx, 2, none⟩ = some (.int .u64 dm) := bx.cell 2
        have e3 : wz.cell? ⟨gx, 3, none⟩ = some (.int .u64 0) := bx.cell 3
        have zx := bx.lt
        have z0 := X2.out.size
        have WD := WI.out dm hok.2
        unfold setV at WD
        obtain ⟨dm2, hdm2⟩ : ∃ dm2, Hid (dm ||| 2 ^ k = dm2) := ⟨_, rfl⟩
        rw [hdm2.out] at WD HT
        replace WD := Lib.hid WD
        replace bx := Lib.hid bx
        have hO3 := hO2.out
        have hi' := hi.out
        go_region_held3 (fun w' => w'.cell? ⟨gx, 0, none⟩ = some (.int .i64 dw) ∧ w'.cell? ⟨gx, 1, none⟩ = some (.int .i64 dv) ∧ w'.cell? ⟨gx, 2, none⟩ = some (.int .u64 dm) ∧ w'.cell? ⟨gx, 3, none⟩ = some (.int .u64 0)) (go_keep)
          (first
            | (go_at_call 94; refine (WD.out _).mono ?_; rintro e w3 ⟨rfl, x3⟩; have y3 := Ext.tr (a := wz) (by (repeat (first | assumption | exact Ext.rf _ | apply Ext.drew | apply Ext.drewN | apply Ext.alloc))) x3; have s0 := keepEL y3 zx e0; have s1 := keepEL y3 zx e1; have s2 := keepEL y3 zx e2; have s3 := keepEL y3 zx e3)
            | (refine step_app_v _ (e := 96) Tryd.underlying97 hi.out hz0.out hz1.out hz2.out (by simp [Value.cells]) (by omega) (by rfl) _ _ (by rfl) w.heap.size B m b2 (flatL L) _ 1 1 [.int .i64 (dw + wt), .int .i64 (dv + vl), .int .u64 dm2, .int .u64 0] (by rfl) (by rfl) ?_ ?_ ?_ ?_ ?_ ?_ ?_ ?_; (refine hO2.out.ext ?_; (repeat (first | assumption | exact Ext.rf _ | apply Ext.drew | apply Ext.drewN | apply Ext.alloc))); (exact (RdV.blk (by (first | exact .new (by simp) | exact .drew (.new (by simp)) | exact .alloc (.new (by simp)) _ | exact .drew (.alloc (.new (by simp)) _) | exact .alloc (.alloc (.new (by simp)) _) _ | exact .drew (.alloc (.alloc (.new (by simp)) _) _) | (repeat (first | assumption | (refine Blk.new ?_; (focus (simp; done))) | apply Blk.drew | apply Blk.drewN | apply Blk.alloc))))).rdC); (simp); (simp [Value.oneCell']); (simp only [maxLen]; omega); omega; (have := y3.size; simp; omega); rintro A9 c9 w9 o9 g9 _; have X9 : Ext w w9 := Ext.grow (X2.out.tr (Ext.tr (by (repeat (first | assumption | exact Ext.rf _ | apply Ext.drew | apply Ext.drewN | apply Ext.alloc))) (by (repeat (first | assumption | exact Ext.rf _ | apply Ext.drew | apply Ext.drewN | apply Ext.alloc))))) g9 (fun q hq => (hO2.out.lt q hq).1); have b9 : Blk w9 gx 96 #[.int .i64 dw, .int .i64 dv, .int .u64 dm, .int .u64 0] := (bx.out.ext (by (repeat (first | assumption | exact Ext.rf _ | apply Ext.drew | apply Ext.drewN | apply Ext.alloc)))).grown g9 (fun e => by have := hBx.out _ e; omega); have s0 : w9.cell? ⟨gx, 0, none⟩ = some (.int .i64 dw) := b9.cell 0; have s1 : w9.cell? ⟨gx, 1, none⟩ = some (.int .i64 dv) := b9.cell 1; have s2 : w9.cell? ⟨gx, 2, none⟩ = some (.int .u64 dm) := b9.cell 2; have s3 : w9.cell? ⟨gx, 3, none⟩ = some (.int .u64 0) := b9.cell 3; replace b9 := Lib.hid b9))
        all_goals
          have HL : Hid (m + 1 = (withP (l.take (j + 1)) k wt vl room).length) := by
            have h : m + 1 = (withP (l.take (j + 1)) k wt vl room).length := by rw [HT.out, List.length_append, ← hm.out]; rfl
            exact h
          have O9 : Hid (OwV w9 w.heap.size 96 4 A9 (m + 1) c9 (flatL (withP (l.take (j + 1)) k wt vl room))) := by
            have h : OwV w9 w.heap.size 96 4 A9 (m + 1) c9 (flatL (withP (l.take (j + 1)) k wt vl room)) := by rw [HT.out, flatL_append]; exact o9
            exact h
          replace X9 := Lib.hid X9
          clear s0 s1 s2 s3 b9 o9 e0 e1 e2 e3
          go_wp2_with (fail)
          go_roundw
          case rel => exact ⟨j + 1, m + 1, A9, c9, rfl, by go_num, by omega, by omega, HL, O9, X9⟩
          case measure => simp [intOf]; omega
      · rw [if_neg hfit, List.append_nil] at HT
        have HL : Hid (m = (withP (l.take (j + 1)) k wt vl room).length) := by
          have h : m = (withP (l.take (j + 1)) k wt vl room).length := by rw [HT]; exact hm.out
          exact h
        have O9 : Hid (OwV (wo.alloc (.cells #[.int .i64 dw, .int .i64 dv, .int .u64 dm, .int .u64 0] 96)) w.heap.size 96 4 B m b2 (flatL (withP (l.take (j + 1)) k wt vl room))) := by
          have h : OwV wo w.heap.size 96 4 B m b2 (flatL (withP (l.take (j + 1)) k wt vl room)) := by rw [HT]; exact hO.out
          exact h.ext ((Ext.rf _).alloc _)
        have X9 := Lib.hid (X.out.alloc (.cells #[.int .i64 dw, .int .i64 dv, .int .u64 dm, .int .u64 0] 96))
        clear hO X HT
        go_wp2_with (fail)
        go_roundw
        case rel => exact ⟨j + 1, m, B, b2, rfl, by go_num, by omega, by omega, HL, O9, X9⟩
        case measure => simp [intOf]; omega
    · obtain rfl : n = j := by omega
      have e : l.take n = l := List.take_of_length_le (by rw [hn.out]; exact Nat.le_refl _)
      rw [e] at hm hO
      go_wp2_with (fail)
      go_ret
      have h2 := hO.out
      unfold WithPost
      rw [← hm.out]
      exact ⟨B, b2, rfl, h2, X.out⟩
end Go.Proofs.YtleckhbmciiooaaDoor
namespace Go.Proofs.YtleckhbmciiooaaDoor
open Go.RowKit Go.ChangeShapes Go.WideShapes Go.ChangeAt Go.Deep

def BestPost (g : Nat) (l : List Ld) (w : World) (e : Ending) (w' : World) : Prop := ∃ (L l2 : List Ld) (B : Option Addr) (c : Nat), l2.Perm l ∧ L = keepL [] l2 ∧ e = .returned (.slice B L.length c) ∧ OwV w' w.heap.size 96 4 B L.length c (flatL L) ∧ Mod (fun b => b = g) w w'
set_option maxRecDepth 100000 in
set_option maxHeartbeats 2000000 in
theorem best_any {base g n c : Nat} {l : List Ld} {w : World} (h : OwV w base 96 4 (some ⟨g, 0, none⟩) n c (flatL l)) (hn : l.length = n) (hl : ∀ d ∈ l, LdOk d) (hsz : n ≤ 1000000) :
    Calls Tryd.prog 63 #[.slice (some ⟨g, 0, none⟩) n c] w (BestPost g l w) := by
  have SO := Lib.hid (sortld_any h hn hl (by omega))
  have zg := (h.lt g rfl).2
  obtain ⟨i0, hi, hz0, hz1, hz2⟩ := info_parts ld_info
  replace hi := Lib.hid hi
  replace hz0 := Lib.hid hz0
  replace hz1 := Lib.hid hz1
  replace hz2 := Lib.hid hz2
  replace hn := Lib.hid hn
  clear h hl
  go_enter Tryd.func63, Tryd.ntmps63
  go_wp2_with (fail)
  refine SO.out.mono ?_
  rintro e w1 ⟨rfl, ⟨l2, hp, h2⟩, hM⟩
  have hl2 : Hid (l2.length = n) := by
    have h9 : l2.length = n := by rw [hp.length_eq, hn.out]
    exact h9
  have z1 := hM.size
  obtain ⟨G, hG⟩ : ∃ G, Hid (keepL [] l2 = G) := ⟨_, rfl⟩
  have HP := Lib.hid hp
  have HM := Lib.hid hM
  have H2 := Lib.hid h2.read
  clear SO hp hM h2
  go_wp2_with (fail)
  have K0 : Hid (keepL [] (l2.drop 0) = G) := by
    have h9 : keepL [] (l2.drop 0) = G := by rw [List.drop_zero]; exact hG.out
    exact h9
  have O0 : Hid (OwV w1 w1.heap.size 96 4 none 0 0 (flatL [])) := OwV.nil _ _ _ _
  go_loopw [3, 10] (fun v3 v10 wr => ∃ (j m : Nat) (out : List Ld) (B : Option Addr) (b2 : Nat), v3 = .slice B m b2 ∧ v10 = .int .i64 j ∧ j ≤ n ∧ m ≤ j ∧ Hid (m = out.length) ∧ Hid (keepL out (l2.drop j) = G) ∧ Hid (OwV wr w1.heap.size 96 4 B m b2 (flatL out)) ∧ Hid (Ext w1 wr)) (fun _ v10 _ => n - (intOf v10).toNat)
  case atStart => exact ⟨0, 0, [], none, 0, rfl, rfl, by omega, by omega, rfl, K0, O0, Ext.rf _⟩
  case round =>
    clear K0 O0
    obtain ⟨wo, rfl⟩ : ∃ wo : World, wo = wr := ⟨_, rfl⟩
    obtain ⟨j, m, out, B, b2, rfl, rfl, hj, hmj, hm, hK, hO, X⟩ := hrel
    by_cases hlt : j < n
    · have hjl : j < l2.length := by rw [hl2.out]; exact hlt
      obtain ⟨d, hd⟩ : ∃ d, Hid (l2[j]? = some d) := ⟨l2[j], List.getElem?_eq_getElem hjl⟩
      have hne : flatL l2 ≠ [] := by
        intro e
        have := flatL_len l2
        rw [e] at this
        simp at this
        omega
      obtain ⟨b, off, hA, zb, hcell⟩ := (H2.out.ext X.out).form hne
      obtain ⟨rfl, rfl⟩ : g = b ∧ 0 = off := by simpa using hA
      obtain ⟨g0, g1, g2, g3⟩ := flatL_get hd.out
      have c0 := hcell _ _ g0
      have c1 := hcell _ _ g1
      have c2 := hcell _ _ g2
      have c3 := hcell _ _ g3
      rw [Nat.zero_add] at c0 c1 c2 c3
      have HD : l2.drop j = d :: l2.drop (j + 1) := by
        obtain ⟨_, hv⟩ := List.getElem?_eq_some_iff.1 hd.out
        rw [List.drop_eq_getElem_cons hjl, hv]
      have KN : keepL (match out.getLast? with
        | none => [d]
        | some q => if worseB d q = true then out else out ++ [d]) (l2.drop (j + 1)) = G := by
        have := hK.out
        rw [HD] at this
        exact this
      obtain ⟨dw, dv, dm⟩ := d
      simp only at c0 c1 c2 c3
      have q1 : (j : Int) < (n : Int) := by omega
      clear hcell hne g0 g1 g2 g3 hjl HD hA
      go_upto_region 6 with (fail)
      have bx : Blk (wo.alloc (.cells #[.int .i64 dw, .int .i64 dv, .int .u64 dm, .int .u64 0] 96)) wo.heap.size 96 #[.int .i64 dw, .int .i64 dv, .int .u64 dm, .int .u64 0] := .new rfl
      have xx : Ext wo (wo.alloc (.cells #[.int .i64 dw, .int .i64 dv, .int .u64 dm, .int .u64 0] 96)) := (Ext.rf _).alloc _
      have X2 := Lib.hid (X.out.tr xx)
      have hO2 := Lib.hid (hO.out.ext xx)
      generalize wo.alloc (.cells #[.int .i64 dw, .int .i64 dv, .int .u64 dm, .int .u64 0] 96) = wz at *
      generalize wo.heap.size = gx at *
      clear c0 c1 c2 c3 xx X hO hK
      have e0 : wz.cell? ⟨gx, 0, none⟩ = some (.int .i64 dw) := bx.cell 0
      have e1 : wz.cell? ⟨gx, 1, none⟩ = some (.int .i64 dv) := bx.cell 1
      have e2 : wz.cell? ⟨gx, 2, none⟩ = some (.int .u64 dm) := bx.cell 2
      have e3 : wz.cell? ⟨gx, 3, none⟩ = some (.int .u64 0) := bx.cell 3
      have zx := bx.lt
      have z0 := X2.out.size
      replace bx := Lib.hid bx
      have z1' : w.heap.size ≤ w1.heap.size := z1
      by_cases hm0 : m = 0
      · subst hm0
        have ho : out = [] := List.eq_nil_of_length_eq_zero hm.out.symm
        subst ho
        have KN2 : Hid (keepL ([] ++ [(dw, dv, dm)]) (l2.drop (j + 1)) = G) := KN
        clear KN
        refine wp_region_any (by kernel_rfl) ?_
        change wpAny _ _ _ _ _ _ _ (World.drew _)
        refine wpAny_T (i := 0) (op := Op.move (Operand.tmp 3)) (t := 97) (d := some 14) (v := ?_) rfl (by decide +kernel) (by decide +kernel) (by decide +kernel) (fun _ _ _ h => h) ?_ ?_
        case refine_2 => (intro _; unfold exec2; go_simp; try with_reducible rfl)
        try simp only [Act.put, List.setIfInBounds_toArray, List.set_cons_zero, List.set_cons_succ]
        refine wpAny_T (i := 1) (op := Op.call { callee := Callee.builtin Builtin.len, args := #[Operand.tmp 14], argTypes := #[97] }) (t := 3) (d := some 15) (v := ?_) rfl (by decide +kernel) (by decide +kernel) (by decide +kernel) (fun _ _ _ h => h) ?_ ?_
        case refine_2 => (intro _; unfold exec2; go_simp; try with_reducible rfl)
        try simp only [Act.put, List.setIfInBounds_toArray, List.set_cons_zero, List.set_cons_succ]
        refine wpAny_T (i := 2) (op := Op.binOp BinOp.eql 3 (Operand.tmp 15) (Operand.const (Value.int IntKind.i64 0)) 3) (t := 4) (d := some 16) (v := ?_) rfl (by decide +kernel) (by decide +kernel) (by decide +kernel) (fun _ _ _ h => h) ?_ ?_
        case refine_2 => (intro _; unfold exec2; go_simp; try with_reducible rfl)
        try simp only [Act.put, List.setIfInBounds_toArray, List.set_cons_zero, List.set_cons_succ]
        refine wpAny_T (i := 3) (op := Op.move (Operand.tmp 16)) (t := 4) (d := some 17) (v := ?_) rfl (by decide +kernel) (by decide +kernel) (by decide +kernel) (fun _ _ _ h => h) ?_ ?_
        case refine_2 => (intro _; unfold exec2; go_simp; try with_reducible rfl)
        try simp only [Act.put, List.setIfInBounds_toArray, List.set_cons_zero, List.set_cons_succ]
        refine wpAny_S (i := 4) (op := Op.load 96 (Operand.tmp 5)) (t := 96) (d := some 18) (b := true) (g := (3, false)) rfl (by decide +kernel) (by decide +kernel) (by decide +kernel) (fun _ _ _ h => h) (by kernel_rfl) rfl ?_
        try simp only [Act.put, List.setIfInBounds_toArray, List.set_cons_zero, List.set_cons_succ]
        refine wpAny_S (i := 5) (op := Op.move (Operand.tmp 3)) (t := 97) (d := some 19) (b := true) (g := (3, false)) rfl (by decide +kernel) (by decide +kernel) (by decide +kernel) (fun _ _ _ h => h) (by kernel_rfl) rfl ?_
        try simp only [Act.put, List.setIfInBounds_toArray, List.set_cons_zero, List.set_cons_succ]
        refine wpAny_S (i := 6) (op := Op.move (Operand.tmp 3)) (t := 97) (d := some 20) (b := true) (g := (3, false)) rfl (by decide +kernel) (by decide +kernel) (by decide +kernel) (fun _ _ _ h => h) (by kernel_rfl) rfl ?_
        try simp only [Act.put, List.setIfInBounds_toArray, List.set_cons_zero, List.set_cons_succ]
        refine wpAny_S (i := 7) (op := Op.call { callee := Callee.builtin Builtin.len, args := #[Operand.tmp 20], argTypes := #[97] }) (t := 3) (d := some 21) (b := true) (g := (3, false)) rfl (by decide +kernel) (by decide +kernel) (by decide +kernel) (fun _ _ _ h => h) (by kernel_rfl) rfl ?_
        try simp only [Act.put, List.setIfInBounds_toArray, List.set_cons_zero, List.set_cons_succ]
        refine wpAny_S (i := 8) (op := Op.binOp BinOp.sub 3 (Operand.tmp 21) (Operand.const (Value.int IntKind.i64 1)) 3) (t := 3) (d := some 22) (b := true) (g := (3, false)) rfl (by decide +kernel) (by decide +kernel) (by decide +kernel) (fun _ _ _ h => h) (by kernel_rfl) rfl ?_
        try simp only [Act.put, List.setIfInBounds_toArray, List.set_cons_zero, List.set_cons_succ]
        refine wpAny_S (i := 9) (op := Op.indexAddr 97 (Operand.tmp 19) (Operand.tmp 22)) (t := 0) (d := some 23) (b := true) (g := (3, false)) rfl (by decide +kernel) (by decide +kernel) (by decide +kernel) (fun _ _ _ h => h) (by kernel_rfl) rfl ?_
        try simp only [Act.put, List.setIfInBounds_toArray, List.set_cons_zero, List.set_cons_succ]
        refine wpAny_S (i := 10) (op := Op.load 96 (Operand.tmp 23)) (t := 96) (d := some 24) (b := true) (g := (3, false)) rfl (by decide +kernel) (by decide +kernel) (by decide +kernel) (fun _ _ _ h => h) (by kernel_rfl) rfl ?_
        try simp only [Act.put, List.setIfInBounds_toArray, List.set_cons_zero, List.set_cons_succ]
        refine wpAny_S (i := 11) (op := Op.call { callee := Callee.value (Operand.func 93), args := #[Operand.tmp 18, Operand.tmp 24], argTypes := #[96, 96] }) (t := 4) (d := some 25) (b := true) (g := (3, false)) rfl (by decide +kernel) (by decide +kernel) (by decide +kernel) (fun _ _ _ h => h) (by kernel_rfl) rfl ?_
        try simp only [Act.put, List.setIfInBounds_toArray, List.set_cons_zero, List.set_cons_succ]
        refine wpAny_S (i := 12) (op := Op.unOp UnOp.not 4 (Operand.tmp 25)) (t := 4) (d := some 26) (b := true) (g := (3, false)) rfl (by decide +kernel) (by decide +kernel) (by decide +kernel) (fun _ _ _ h => h) (by kernel_rfl) rfl ?_
        try simp only [Act.put, List.setIfInBounds_toArray, List.set_cons_zero, List.set_cons_succ]
        refine wpAny_T (i := 13) (op := Op.pick (Operand.tmp 17) (Operand.const (Value.bool true)) (Operand.tmp 26)) (t := 4) (d := some 27) (v := ?_) rfl (by decide +kernel) (by decide +kernel) (by decide +kernel) (fun _ _ _ h => h) ?_ ?_
        case refine_2 => (intro _; unfold exec2; go_simp; try with_reducible rfl)
        try simp only [Act.put, List.setIfInBounds_toArray, List.set_cons_zero, List.set_cons_succ]
        refine wpAny_done (by kernel_rfl) ?_ _
        go_simp
        have yz : Ext wz wz.drew := (Ext.rf _).drew
        have HO3 := Lib.hid (hO2.out.ext yz)
        have XY := Lib.hid (X2.out.tr yz)
        have HBy := Lib.hid (Nat.le_trans z0 yz.size)
        go_wp2_with (at_builtin; refine wpl_app_v _ (e := 96) Tryd.underlying97 hi.out hz0.out hz1.out hz2.out (by simp [Value.cells]) (by omega) rfl _ _ rfl w1.heap.size B 0 b2 (flatL []) _ 1 1 [.int .i64 dw, .int .i64 dv, .int .u64 dm, .int .u64 0] rfl rfl (HO3.out.ext ((Ext.rf _).alloc _)) (RdV.blk (.new rfl)).rdC (by simp) (by simp [Value.oneCell']) (by simp only [maxLen]; omega) (by omega) (by have := HBy.out; simp; omega) ?_; rintro A9 c9 w9 o9 g9 _; replace o9 := Lib.hid o9; replace g9 := Lib.hid g9)
        have X9 : Hid (Ext w1 w9) := Ext.grow (XY.out.alloc _) g9.out (fun q hq => (hO2.out.lt q hq).1)
        have HL : Hid (0 + 1 = (([] : List Ld) ++ [(dw, dv, dm)]).length) := by
          have h9 : 0 + 1 = (([] : List Ld) ++ [(dw, dv, dm)]).length := by rw [List.length_append, ← hm.out]; rfl
          exact h9
        have O9 : Hid (OwV w9 w1.heap.size 96 4 A9 (0 + 1) c9 (flatL (([] : List Ld) ++ [(dw, dv, dm)]))) := by
          have h9 : OwV w9 w1.heap.size 96 4 A9 (0 + 1) c9 (flatL (([] : List Ld) ++ [(dw, dv, dm)])) := by rw [flatL_append]; exact o9.out
          exact h9
        clear o9 g9 HO3 XY
        go_wp2_with (fail)
        go_roundw
        case rel => exact ⟨j + 1, 0 + 1, _, A9, c9, rfl, by go_num, by omega, by omega, HL, KN2, O9, X9⟩
        case measure => simp [intOf]; omega
      · obtain ⟨p, hp⟩ : ∃ p, Hid (m = p + 1) := ⟨m - 1, (by omega : m = m - 1 + 1)⟩
        have hpl : p < out.length := by rw [← hm.out, hp.out]; omega
        obtain ⟨md, hmd⟩ : ∃ md, Hid (out[p]? = some md) := ⟨out[p], List.getElem?_eq_getElem hpl⟩
        have hlast : out.getLast? = some md := by
          rw [List.getLast?_eq_getElem?, ← hm.out, hp.out]
          exact hmd.out
        rw [hlast] at KN
        simp only at KN
        have hne : flatL out ≠ [] := by
          intro e
          have := flatL_len out
          rw [e] at this
          simp at this
          omega
        obtain ⟨gb, ob, hA, zb, hcell⟩ := hO2.out.read.form hne
        have hob : ob = 0 := by
          rcases hO2.out.cases with ⟨h1, _⟩ | ⟨g', cur, h1, _⟩
          · rw [hA] at h1; cases h1
          · rw [hA] at h1
            have h2 : gb = g' ∧ ob = 0 := by simpa using h1
            exact h2.2
        subst hob hA
        obtain ⟨g0, g1, g2, g3⟩ := flatL_get hmd.out
        have a0 := hcell _ _ g0
        have a1 := hcell _ _ g1
        have a2 := hcell _ _ g2
        have a3 := hcell _ _ g3
        rw [Nat.zero_add] at a0 a1 a2 a3
        obtain ⟨ew, ev, em⟩ := md
        simp only at a0 a1 a2 a3
        have WO := fun (W : World) => worse_any (dw, dv, dm) (ew, ev, em) W
        simp only [ldA] at WO
        obtain ⟨wb, hwb⟩ : ∃ wb, Hid (worseB (dw, dv, dm) (ew, ev, em) = wb) := ⟨_, rfl⟩
        rw [hwb.out] at WO KN
        replace WO := Lib.hid WO
        have wp : IntKind.i64.wrap ((m : Int) - 1) = (p : Int) := by
          have := hp.out
          rw [show (m : Int) - 1 = (p : Int) by omega]
          exact IntWalk.i64_in _ (by omega)
        have qm : ((m : Int) == 0) = false := by simp; omega
        have qp : (p : Int) < (m : Int) := by have := hp.out; omega
        clear hcell hne g0 g1 g2 g3 hlast hpl
        go_region_held3 (fun w' => w'.cell? ⟨gx, 0, none⟩ = some (.int .i64 dw) ∧ w'.cell? ⟨gx, 1, none⟩ = some (.int .i64 dv) ∧ w'.cell? ⟨gx, 2, none⟩ = some (.int .u64 dm) ∧ w'.cell? ⟨gx, 3, none⟩ = some (.int .u64 0) ∧ w'.cell? ⟨gb, p * 4, none⟩ = some (.int .i64 ew) ∧ w'.cell? ⟨gb, p * 4 + 1, none⟩ = some (.int .i64 ev) ∧ w'.cell? ⟨gb, p * 4 + 2, none⟩ = some (.int .u64 em) ∧ w'.cell? ⟨gb, p * 4 + 3, none⟩ = some (.int .u64 0)) (go_keep)
          (first
            | (go_at_call 93; refine (WO.out _).mono ?_; rintro e w3 ⟨rfl, x3⟩; have y3 := Ext.tr (a := wz) (by (repeat (first | assumption | exact Ext.rf _ | apply Ext.drew | apply Ext.drewN | apply Ext.alloc))) x3; have s0 := keepEL y3 zx e0; have s1 := keepEL y3 zx e1; have s2 := keepEL y3 zx e2; have s3 := keepEL y3 zx e3; have s4 := keepEL y3 zb a0; have s5 := keepEL y3 zb a1; have s6 := keepEL y3 zb a2; have s7 := keepEL y3 zb a3))
        all_goals
          cases wb with
          | true =>
            have KN2 : Hid (keepL out (l2.drop (j + 1)) = G) := KN
            have O9 := Lib.hid (hO2.out.ext y3)
            have X9 := Lib.hid (X2.out.tr y3)
            clear KN s0 s1 s2 s3 s4 s5 s6 s7 e0 e1 e2 e3 a0 a1 a2 a3
            go_wp2_with (fail)
            go_roundw
            case rel => exact ⟨j + 1, m, out, _, b2, rfl, by go_num, by omega, by omega, hm, KN2, O9, X9⟩
            case measure => simp [intOf]; omega
          | false =>
            have KN2 : Hid (keepL (out ++ [(dw, dv, dm)]) (l2.drop (j + 1)) = G) := KN
            clear KN s4 s5 s6 s7 e0 e1 e2 e3 a0 a1 a2 a3
            have yz : Ext wz w3 := y3
            have HO3 := Lib.hid (hO2.out.ext yz)
            have XY := Lib.hid (X2.out.tr yz)
            have HBy := Lib.hid (Nat.le_trans z0 yz.size)
            go_wp2_with (at_builtin; refine wpl_app_v _ (e := 96) Tryd.underlying97 hi.out hz0.out hz1.out hz2.out (by simp [Value.cells]) (by omega) rfl _ _ rfl w1.heap.size (some ⟨gb, 0, none⟩) m b2 (flatL out) _ 1 1 [.int .i64 dw, .int .i64 dv, .int .u64 dm, .int .u64 0] rfl rfl (HO3.out.ext ((Ext.rf _).alloc _)) (RdV.blk (.new rfl)).rdC (by simp) (by simp [Value.oneCell']) (by simp only [maxLen]; omega) (by omega) (by have := HBy.out; simp; omega) ?_; rintro A9 c9 w9 o9 g9 _; replace o9 := Lib.hid o9; replace g9 := Lib.hid g9)
            have X9 : Hid (Ext w1 w9) := Ext.grow (XY.out.alloc _) g9.out (fun q hq => (hO2.out.lt q hq).1)
            have HL : Hid (m + 1 = (out ++ [(dw, dv, dm)]).length) := by
              have h9 : m + 1 = (out ++ [(dw, dv, dm)]).length := by rw [List.length_append, ← hm.out]; rfl
              exact h9
            have O9 : Hid (OwV w9 w1.heap.size 96 4 A9 (m + 1) c9 (flatL (out ++ [(dw, dv, dm)]))) := by
              have h9 : OwV w9 w1.heap.size 96 4 A9 (m + 1) c9 (flatL (out ++ [(dw, dv, dm)])) := by rw [flatL_append]; exact o9.out
              exact h9
            clear o9 g9 HO3 XY
            go_wp2_with (fail)
            go_roundw
            case rel => exact ⟨j + 1, m + 1, _, A9, c9, rfl, by go_num, by omega, by omega, HL, KN2, O9, X9⟩
            case measure => simp [intOf]; omega
    · obtain rfl : n = j := by omega
      have e : l2.drop n = [] := List.drop_of_length_le (by rw [hl2.out]; exact Nat.le_refl _)
      rw [e] at hK
      have hoG : out = G := hK.out
      have hGL : Hid (m = G.length ∧ OwV wo w1.heap.size 96 4 B m b2 (flatL G)) := by
        rw [← hoG]
        exact ⟨hm.out, hO.out⟩
      clear hoG hK hm hO e
      go_wp2_with (fail)
      go_ret
      have h2 := hGL.out.2
      rw [hGL.out.1] at h2
      exact ⟨G, l2, B, b2, HP.out, hG.out.symm, by rw [hGL.out.1]; rfl, h2.more HM.out.size, HM.out.ext X.out⟩
end Go.Proofs.YtleckhbmciiooaaDoor
namespace Go.Proofs.YtleckhbmciiooaaDoor
open Go.RowKit Go.ChangeShapes Go.WideShapes Go.ChangeAt Go.Deep Go.Shelf
attribute [local go_sem] Oper.semAt_some

theorem ownFrom_blk {β : Type} {k B : Nat} (hk : k < B) (t : TypeId) (cs : β → Array Value) : OwnFrom B (fun s W => Blk W k t (cs s)) := fun s W W' row hs hg hr =>
  (hg.block k hs.lt (fun e => by obtain ⟨h1, _⟩ := hr _ e.symm; omega)).trans hs
/-- but for one block, what was there is as it was -/
def Held (w0 : World) (sb : Nat) (w : World) : Prop := w0.heap.size ≤ w.heap.size ∧ ∀ b, b < w0.heap.size → b ≠ sb → w.heap[b]? = w0.heap[b]?
theorem Held.blk {w0 w : World} {sb g : Nat} {t : TypeId} {cs : Array Value} (h : Held w0 sb w) (hb : Blk w0 g t cs) (hne : g ≠ sb) : Blk w g t cs := (h.2 g hb.lt hne).trans hb
theorem Held.set {w0 w : World} {sb : Nat} (h : Held w0 sb w) (u : Value) : Held w0 sb (w.setCell ⟨sb, 0, none⟩ u) := ⟨by simp; exact h.1, fun b h1 h2 => (Below.heap_setCell w ⟨sb, 0, none⟩ u b h2).trans (h.2 b h1 h2)⟩
theorem Held.ext {w0 w w' : World} {sb : Nat} (h : Held w0 sb w) (x : Ext w w') : Held w0 sb w' := ⟨Nat.le_trans h.1 x.size, fun b h1 h2 => (x.block b (Nat.lt_of_lt_of_le h1 h.1)).trans (h.2 b h1 h2)⟩
theorem ownFrom_held {β : Type} {w0 : World} {B sb : Nat} (hB : w0.heap.size ≤ B) : OwnFrom B (fun (_ : β) W => Held w0 sb W) := fun _ W W' row hs hg hr =>
  ⟨Nat.le_trans hs.1 hg.size, fun b h1 h2 => (hg.block b (Nat.lt_of_lt_of_le h1 hs.1) (fun e => by have := (hr b e.symm).1; omega)).trans (hs.2 b h1 h2)⟩
theorem KeepsFrom.of_ext {B : Nat} {W W' : World} (x : Ext W W') : KeepsFrom B W W' := ⟨x.size, fun k _ _ hk _ => (x.block k (Array.getElem?_eq_some_iff.1 hk).1).trans hk⟩
end Go.Proofs.YtleckhbmciiooaaDoor
namespace Go.Proofs.YtleckhbmciiooaaDoor
open Go.RowKit Go.ChangeShapes Go.WideShapes Go.ChangeAt Go.Deep Go.Shelf
attribute [local go_sem] Oper.semAt_some

def KnapPost (i : InstP) (n : Nat) (w : World) (e : Ending) (w' : World) : Prop :=
  ∃ A c m, e = .returned (.tuple #[.slice A n c, .int .i64 (sumN (atF i.value) n m), .int .i64 0]) ∧ RdI w' A (xB m n) ∧ m < 2 ^ n ∧ sumB (atF i.weight) n m ≤ i.cap ∧ n ≤ c ∧ c ≤ maxLen ∧ (∀ s, s < 2 ^ n → sumB (atF i.weight) n s ≤ i.cap → sumN (atF i.value) n m ≤ sumN (atF i.value) n s) ∧ Ext w w'
theorem pow18 {k n : Nat} (h : k ≤ n) (hn : n ≤ 18) : 2 ^ k ≤ 262144 := by
  have : 2 ^ k ≤ 2 ^ 18 := Nat.pow_le_pow_right (by omega) (by omega)
  omega
theorem withP_mem {l : List Ld} {k : Nat} {wt vl room : Int} {d : Ld} (h : d ∈ withP l k wt vl room) : ∃ q ∈ l, q.1 + wt ≤ room ∧ d = (q.1 + wt, q.2.1 + vl, q.2.2 ||| 2 ^ k) := by
  obtain ⟨q, hq, rfl⟩ := List.mem_map.1 h
  obtain ⟨hq, hf⟩ := List.mem_filter.1 hq
  exact ⟨q, hq, by simpa using hf, rfl⟩
theorem sumB_zero (f : Nat → Int) : ∀ k, sumB f k 0 = 0
  | 0 => rfl
  | k + 1 => by rw [sumB_succ, sumB_zero f k]; simp
theorem OwV.some_of {w : World} {base : Nat} {e : TypeId} {size : Nat} {A : Option Addr} {n c : Nat} {vs : List Value} (h : OwV w base e size A n c vs) (hn : vs ≠ []) : ∃ g, A = some ⟨g, 0, none⟩ := by
  rcases h.cases with ⟨_, _, _, h0⟩ | ⟨g, cur, rfl, _⟩
  · exact absurd h0 hn
  · exact ⟨g, rfl⟩
/-- what a body must achieve that does not panic: deferred calls, marks and all -/
def bodyPostN (F : Fence) (n : Nat) (P : Program) (fn : Func) (R : Ending → World → Prop) : Exit → Act → World → Prop
  | .normal, a, w | .ret, a, w => LeavesInM F n P fn a.tmps R a.defers .returning w
  | _, _, _ => False
theorem bodyPostN_le {F : Fence} {n : Nat} {P : Program} {fn : Func} {R : Ending → World → Prop} (e : Exit) (a : Act) (w : World) (h : bodyPostN F n P fn R e a w) : bodyPostM F n P fn R e a w := by
  cases e <;> first | exact h | exact h.elim
/-- a row of ones and noughts -/
def mkX (n : Nat) (l : List Nat) : List Int := (List.range n).map fun j => if j ∈ l then 1 else 0
theorem mkX_len (n : Nat) (l : List Nat) : (mkX n l).length = n := by simp [mkX]
theorem mkX_nil (n : Nat) : mkX n [] = List.replicate n 0 := by simp [mkX, List.map_const']
theorem mkX_get {n j : Nat} (l : List Nat) (h : j < n) : (mkX n l)[j]? = some (if j ∈ l then 1 else 0) := by
  rw [mkX, List.getElem?_map, List.getElem?_range h]
  rfl
theorem mkX_snoc {n x : Nat} (l : List Nat) (h : x < n) : mkX n (l ++ [x]) = (mkX n l).set x 1 := by
  apply List.ext_getElem?
  intro j
  by_cases hj : j < n
  · rw [mkX_get _ hj, List.getElem?_set, mkX_get _ hj]
    by_cases e : x = j
    · subst e
      simp [mkX_len, h]
    · rw [if_neg e]
      have : ¬ j = x := fun h => e h.symm
      simp [this]
  · rw [List.getElem?_eq_none (by rw [mkX_len]; omega), List.getElem?_eq_none (by rw [List.length_set, mkX_len]; omega)]
theorem mkX_mems {m n : Nat} (h : n ≤ 64) : mkX n (memsM m) = xB m n := by
  unfold mkX xB
  refine List.map_congr_left fun j hj => ?_
  have := List.mem_range.1 hj
  by_cases hb : m.testBit j = true
  · rw [if_pos hb, if_pos (memsM_mem.2 ⟨by omega, hb⟩)]
  · rw [if_neg hb, if_neg (fun h => hb (memsM_mem.1 h).2)]
def rowA (xs : List Int) : Array Value := (xs.map (Value.int .i64)).toArray
theorem OwI.blkOf {w : World} {base g c : Nat} {xs : List Int} (h : OwI w base (some ⟨g, 0, none⟩) c xs) (hc : c = xs.length) : Blk w g 3 (rowA xs) := by
  rcases OwI.cases h with ⟨h, _⟩ | ⟨g', cur, hA, hb, hg, hn, hm, hs, ht⟩
  · cases h
  · obtain rfl : g = g' := by simpa using hA
    rw [List.take_of_length_le (by rw [Array.length_toList, hs, hc]; exact Nat.le_refl _)] at ht
    have : cur = rowA xs := by unfold rowA; rw [← ht]
    rw [← this]
    exact hg
theorem rowA_set (xs : List Int) (x : Nat) (v : Int) : (rowA xs).setIfInBounds x (.int .i64 v) = rowA (xs.set x v) := by
  unfold rowA
  rw [List.setIfInBounds_toArray, List.map_set]
theorem Held.setAt {w0 w : World} {sb : Nat} (h : Held w0 sb w) (i : Nat) (u : Value) : Held w0 sb (w.setCell ⟨sb, i, none⟩ u) := ⟨by simp; exact h.1, fun b h1 h2 => (Below.heap_setCell w ⟨sb, i, none⟩ u b h2).trans (h.2 b h1 h2)⟩
set_option maxRecDepth 100000 in
set_option maxHeartbeats 4000000 in
theorem knapsack_in (i : InstP) (us : List Value) (n : Nat) (w : World) (H : RInst w us i) (hT : Tab w) (hc : checkP i = 0) (hk : i.kind = 1) (hn : i.n = n) (h18 : n ≤ 18) :
    CallsIn Fence.wide 3 Tryd.prog 30 #[.agg (List.toArray us)] w (KnapPost i n w) := by
  have ok := knap_ok hc hk
  have okcap := ok.cap
  have okn := ok.n1
  have okw := ok.w
  have okv := ok.v
  have TK := fun (W : World) (x : Ext w W) => takes1_any i us W (H.ext x) hc hk (by omega)
  have TO := fun (P : Option Addr) (c m : Nat) (W : World) (x : Ext w W) (hP : RdI W P (xB m n)) (hcap : sumB (atF i.weight) n m ≤ i.cap) => told1_any i us P c m n W (H.ext x) hc hk hn hP hcap
  have BW := fun (m k : Nat) (hk : k ≤ n) => (sums_bd (f := atF i.weight) (n := n) (fun j _ => atF_bd ok.sw j) m k hk).1
  have BV := fun (m k : Nat) (hk : k ≤ n) => (sums_bd (f := atF i.value) (n := n) (fun j _ => atF_bd ok.sv j) m k hk).1
  have SW := fun (j : Nat) => atF_bd ok.sw j
  have SV := fun (j : Nat) => atF_bd ok.sv j
  obtain ⟨kind, nn, cap, xw, xv, co⟩ := i
  obtain ⟨A, a, B, b, D, d, rfl, ⟨rA, -⟩, ⟨rB, -⟩, -⟩ := H
  simp only at *
  subst hk hn
  have lw : xw.length = n := by omega
  have lv : xv.length = n := by omega
  simp only [lw, lv] at TK TO
  rw [lw, lv]
  have GW : ∀ j, j < n → ∃ b' o', A = some ⟨b', o', none⟩ ∧ b' < w.heap.size ∧ w.cell? ⟨b', o' + j, none⟩ = some (.int .i64 (atF xw j)) := fun j hj => by
    obtain ⟨b', o', x, h1, h2, h3, h4, _⟩ := rA.at (k := j) (by omega)
    exact ⟨b', o', h1, h2, by rw [h3]; unfold atF; rw [getD_some h4.out]⟩
  have GV : ∀ j, j < n → ∃ b' o', B = some ⟨b', o', none⟩ ∧ b' < w.heap.size ∧ w.cell? ⟨b', o' + j, none⟩ = some (.int .i64 (atF xv j)) := fun j hj => by
    obtain ⟨b', o', x, h1, h2, h3, h4, _⟩ := rB.at (k := j) (by omega)
    exact ⟨b', o', h1, h2, by rw [h3]; unfold atF; rw [getD_some h4.out]⟩
  have B1 : Hid (Blk (w.alloc (.cells #[.int .i64 1, .int .i64 n, .int .i64 cap, .slice A n a, .slice B n b, .slice D co.length d] 25)) w.heap.size 25 #[.int .i64 1, .int .i64 n, .int .i64 cap, .slice A n a, .slice B n b, .slice D co.length d]) := .new rfl
  have X0 : Hid (Ext w (w.alloc (.cells #[.int .i64 1, .int .i64 n, .int .i64 cap, .slice A n a, .slice B n b, .slice D co.length d] 25))) := (Ext.rf _).alloc _
  obtain ⟨i0, hi, hz0, hz1, hz2⟩ := info_parts ld_info
  replace hi := Lib.hid hi
  replace hz0 := Lib.hid hz0
  replace hz1 := Lib.hid hz1
  replace hz2 := Lib.hid hz2
  replace GW := Lib.hid GW
  replace GV := Lib.hid GV
  replace BW := Lib.hid BW
  replace BV := Lib.hid BV
  replace SW := Lib.hid SW
  replace SV := Lib.hid SV
  replace TK := Lib.hid TK
  replace TO := Lib.hid TO
  clear hc ok rA rB okw okv lw lv
  refine callsIn_of_wp_marks Tryd.func30 rfl trivial ?_ rfl
  simp only [Tryd.ntmps30, List.size_toArray, List.length_cons, List.length_nil, Nat.reduceAdd, Nat.reduceSub, Array.replicate_succ, Array.replicate_zero, List.push_toArray, List.append_toArray, List.nil_append, List.cons_append]
  refine wpIn_wide.2 (wp_mono ?_ bodyPostN_le)
  go_wp2_with (fail)
  refine (TK.out _ X0.out).mono ?_
  rintro e w1 ⟨rfl, x1⟩
  have Bi := Lib.hid (B1.out.ext x1)
  have X1 := Lib.hid (X0.out.tr x1)
  have z1 := Bi.out.lt
  have t1 : w1.cell? ⟨w.heap.size, 1, none⟩ = some (.int .i64 n) := Bi.out.cell 1
  clear B1 X0 x1
  go_wp2_with (fail)
  have bS : Blk (w1.alloc (.cells #[.int .i64 0, .int .i64 0, .int .u64 0, .int .u64 0] 96)) w1.heap.size 96 #[.int .i64 0, .int .i64 0, .int .u64 0, .int .u64 0] := .new rfl
  have O0 : Hid (OwV (w1.alloc (.cells #[.int .i64 0, .int .i64 0, .int .u64 0, .int .u64 0] 96)) w1.heap.size 96 4 (some ⟨w1.heap.size, 0, none⟩) 1 1 (flatL [(0, 0, 0)])) := OwV.full bS (Nat.le_refl _) rfl (by simp [maxLen])
  have X2 : Hid (Ext w1 (w1.alloc (.cells #[.int .i64 0, .int .i64 0, .int .u64 0, .int .u64 0] 96))) := (Ext.rf _).alloc _
  have G0 : Hid (Good 0 (atF xw) (atF xv) cap [(0, 0, 0)]) := Good.start okcap.1
  clear bS
  go_loopw [6, 22] (fun v6 v22 wr => ∃ (k m : Nat) (Bl : Option Addr) (cl : Nat) (l : List Ld), v6 = .slice Bl m cl ∧ v22 = .int .i64 k ∧ k ≤ n ∧ Hid (m = l.length) ∧ Hid (Good k (atF xw) (atF xv) cap l) ∧ Hid (OwV wr w1.heap.size 96 4 Bl m cl (flatL l)) ∧ Hid (Ext w1 wr)) (fun _ v22 _ => n - (intOf v22).toNat)
  case atStart => exact ⟨0, 1, _, 1, [(0, 0, 0)], rfl, rfl, by omega, rfl, G0, O0, X2⟩
  case round =>
    clear O0 X2 G0 t1
    obtain ⟨wo, rfl⟩ : ∃ wo : World, wo = wr := ⟨_, rfl⟩
    obtain ⟨k, m, Bl, cl, l, rfl, rfl, hk, hm, hG, hO, X⟩ := hrel
    have XW := X1.out.tr X.out
    have Bw := Lib.hid (Bi.out.ext X.out)
    have LB : Hid (∀ d ∈ l, LdOk d ∧ d.2.2 < 2 ^ k) := fun d hd => by
      obtain ⟨h1, h2, h3, h4⟩ := hG.out.each d hd
      have b1 := BW.out d.2.2 k hk
      have b2 := BV.out d.2.2 k hk
      unfold LdOk
      exact ⟨by omega, h1⟩
    have LN : Hid (l ≠ []) := by
      have h9 : l ≠ [] := by
        obtain ⟨d, hd, _⟩ := hG.out.dom 0 (Nat.two_pow_pos k) (by rw [sumB_zero]; exact okcap.1)
        intro e
        rw [e] at hd
        cases hd
      exact h9
    have p18 := pow18 hk h18
    have ll : l.length ≤ 262144 := Nat.le_trans hG.out.len p18
    by_cases hlt : k < n
    · obtain ⟨b1', o1, rfl, z1', c1⟩ := GW.out k hlt
      obtain ⟨b2', o2, rfl, z2', c2⟩ := GV.out k hlt
      have k1 := keepEL XW z1' c1
      have k2 := keepEL XW z2' c2
      have t2 : wo.cell? ⟨w.heap.size, 2, none⟩ = some (.int .i64 cap) := Bw.out.cell 2
      have t3 : wo.cell? ⟨w.heap.size, 3, none⟩ = some (.slice (some ⟨b1', o1, none⟩) n a) := Bw.out.cell 3
      have t4 : wo.cell? ⟨w.heap.size, 4, none⟩ = some (.slice (some ⟨b2', o2, none⟩) n b) := Bw.out.cell 4
      have q1 : (k : Int) < (n : Int) := by omega
      have sw := SW.out k
      have sv := SV.out k
      have ST := Lib.hid (fun (l2 : List Ld) (h : l2.Perm (l ++ withP l k (atF xw k) (atF xv k) cap)) => hG.out.step (l2 := l2) sw.1 h)
      have WL := Lib.hid (fun (W : World) (h : RdV W 96 Bl (flatL l)) => withl_any (c := cl) h hm.out.symm (fun d hd => by have := LB.out d hd; exact ⟨this.1, by omega⟩) (by rw [hm.out]; omega) k (by omega) (atF xw k) (atF xv k) cap sw sv okcap)
      have WB : Hid (∀ d ∈ l ++ withP l k (atF xw k) (atF xv k) cap, LdOk d) := fun d hd => by
        rcases List.mem_append.1 hd with hd | hd
        · exact (LB.out d hd).1
        · obtain ⟨q, hq, h1, rfl⟩ := withP_mem hd
          have h2 := (LB.out q hq).1
          obtain ⟨_, _, h3, _⟩ := hG.out.each q hq
          have b2 := BV.out q.2.2 k hk
          unfold LdOk at h2 ⊢
          simp only
          omega
      have wl := withP_len l k (atF xw k) (atF xv k) cap
      generalize withP l k (atF xw k) (atF xv k) cap = lw at *
      generalize atF xw k = aw at *
      generalize atF xv k = av at *
      replace XW := Lib.hid XW
      clear c1 c2 sw sv
      go_wp2_with (fail)
      refine wp_region_any (by kernel_rfl) ?_
      change wpAny _ _ _ _ _ _ _ (World.drew _)
      refine wpAny_T (i := 0) (op := Op.move (Operand.tmp 6)) (t := 97) (d := some 25) (v := ?_) rfl (by decide +kernel) (by decide +kernel) (by decide +kernel) (fun _ _ _ h => h) ?_ ?_
      case refine_2 => (intro _; unfold exec2; go_simp; try with_reducible rfl)
      try simp only [Act.put, List.setIfInBounds_toArray, List.set_cons_zero, List.set_cons_succ]
      refine wpAny_T (i := 1) (op := Op.move (Operand.tmp 6)) (t := 97) (d := some 26) (v := ?_) rfl (by decide +kernel) (by decide +kernel) (by decide +kernel) (fun _ _ _ h => h) ?_ ?_
      case refine_2 => (intro _; unfold exec2; go_simp; try with_reducible rfl)
      try simp only [Act.put, List.setIfInBounds_toArray, List.set_cons_zero, List.set_cons_succ]
      refine wpAny_T (i := 2) (op := Op.move (Operand.tmp 7)) (t := 3) (d := some 27) (v := ?_) rfl (by decide +kernel) (by decide +kernel) (by decide +kernel) (fun _ _ _ h => h) ?_ ?_
      case refine_2 => (intro _; unfold exec2; go_simp; try with_reducible rfl)
      try simp only [Act.put, List.setIfInBounds_toArray, List.set_cons_zero, List.set_cons_succ]
      refine wpAny_T (i := 3) (op := Op.fieldAddr 25 (Operand.tmp 1) 3) (t := 0) (d := some 28) (v := ?_) rfl (by decide +kernel) (by decide +kernel) (by decide +kernel) (fun _ _ _ h => h) ?_ ?_
      case refine_2 => (intro _; unfold exec2; go_simp; try with_reducible rfl)
      try simp only [Act.put, List.setIfInBounds_toArray, List.set_cons_zero, List.set_cons_succ]
      refine wpAny_T (i := 5) (op := Op.move (Operand.tmp 7)) (t := 3) (d := some 30) (v := ?_) rfl (by decide +kernel) (by decide +kernel) (by decide +kernel) (fun _ _ _ h => h) ?_ ?_
      case refine_2 => (intro _; unfold exec2; go_simp; try with_reducible rfl)
      try simp only [Act.put, List.setIfInBounds_toArray, List.set_cons_zero, List.set_cons_succ]
      refine wpAny_T (i := 8) (op := Op.fieldAddr 25 (Operand.tmp 1) 4) (t := 0) (d := some 33) (v := ?_) rfl (by decide +kernel) (by decide +kernel) (by decide +kernel) (fun _ _ _ h => h) ?_ ?_
      case refine_2 => (intro _; unfold exec2; go_simp; try with_reducible rfl)
      try simp only [Act.put, List.setIfInBounds_toArray, List.set_cons_zero, List.set_cons_succ]
      refine wpAny_T (i := 10) (op := Op.move (Operand.tmp 7)) (t := 3) (d := some 35) (v := ?_) rfl (by decide +kernel) (by decide +kernel) (by decide +kernel) (fun _ _ _ h => h) ?_ ?_
      case refine_2 => (intro _; unfold exec2; go_simp; try with_reducible rfl)
      try simp only [Act.put, List.setIfInBounds_toArray, List.set_cons_zero, List.set_cons_succ]
      refine wpAny_T (i := 13) (op := Op.fieldAddr 25 (Operand.tmp 1) 2) (t := 0) (d := some 38) (v := ?_) rfl (by decide +kernel) (by decide +kernel) (by decide +kernel) (fun _ _ _ h => h) ?_ ?_
      case refine_2 => (intro _; unfold exec2; go_simp; try with_reducible rfl)
      try simp only [Act.put, List.setIfInBounds_toArray, List.set_cons_zero, List.set_cons_succ]
      refine wpAny_reads2 (n := 4) [(4, some 29), (6, some 31), (7, some 32), (9, some 34), (11, some 36), (12, some 37), (14, some 39)] (fun | 4 => .slice (some ⟨b1', o1, none⟩) n a | 6 => .pointer (some ⟨b1', o1 + k, none⟩) | 7 => .int .i64 aw | 9 => .slice (some ⟨b2', o2, none⟩) n b | 11 => .pointer (some ⟨b2', o2 + k, none⟩) | 12 => .int .i64 av | 14 => .int .i64 cap | _ => undef) #[true, true, true, true, true, true, true, true, true, true, true, true, true, true, true, false, false, false, false] (by decide +kernel) ?_ ?_
      · intro pS hpm uS hD K hK
        simp only [List.mem_cons, List.not_mem_nil, or_false] at hpm
        rcases hpm with rfl | rfl | rfl | rfl | rfl | rfl | rfl
        · exact op_ld (T := 22) (x := Operand.tmp 28) (t := 22) (d := some 29) rfl (.pointer (some ⟨w.heap.size, 3, none⟩)) (by kernel_rfl) (.slice (some ⟨b1', o1, none⟩) n a) (by go_simp) hK
        · exact op_ix (T := 22) (x := Operand.tmp 29) (y := Operand.tmp 30) (t := 0) (d := some 31) rfl (.slice (some ⟨b1', o1, none⟩) n a) (.int .i64 k) (Eq.trans (b := uS 4) (by kernel_rfl) (hD 4 (depIn (by kernel_rfl)))) (by kernel_rfl) (.pointer (some ⟨b1', o1 + k, none⟩)) (by go_simp) hK
        · exact op_ld (T := 3) (x := Operand.tmp 31) (t := 3) (d := some 32) rfl (.pointer (some ⟨b1', o1 + k, none⟩)) (Eq.trans (b := uS 6) (by kernel_rfl) (hD 6 (depIn (by kernel_rfl)))) (.int .i64 aw) (by go_simp) hK
        · exact op_ld (T := 22) (x := Operand.tmp 33) (t := 22) (d := some 34) rfl (.pointer (some ⟨w.heap.size, 4, none⟩)) (by kernel_rfl) (.slice (some ⟨b2', o2, none⟩) n b) (by go_simp) hK
        · exact op_ix (T := 22) (x := Operand.tmp 34) (y := Operand.tmp 35) (t := 0) (d := some 36) rfl (.slice (some ⟨b2', o2, none⟩) n b) (.int .i64 k) (Eq.trans (b := uS 9) (by kernel_rfl) (hD 9 (depIn (by kernel_rfl)))) (by kernel_rfl) (.pointer (some ⟨b2', o2 + k, none⟩)) (by go_simp) hK
        · exact op_ld (T := 3) (x := Operand.tmp 36) (t := 3) (d := some 37) rfl (.pointer (some ⟨b2', o2 + k, none⟩)) (Eq.trans (b := uS 11) (by kernel_rfl) (hD 11 (depIn (by kernel_rfl)))) (.int .i64 av) (by go_simp) hK
        · exact op_ld (T := 3) (x := Operand.tmp 38) (t := 3) (d := some 39) rfl (.pointer (some ⟨w.heap.size, 2, none⟩)) (by kernel_rfl) (.int .i64 cap) (by go_simp) hK
      simp only [putAll, Act.put, List.setIfInBounds_toArray, List.set_cons_zero, List.set_cons_succ]
      refine wpAny_next 15 (by decide +kernel) (op_call (f := 64) (xs := #[Operand.tmp 26, Operand.tmp 27, Operand.tmp 32, Operand.tmp 37, Operand.tmp 39]) (ts := #[97, 3, 3, 3, 3]) (t := 97) (d := some 40) rfl #[.slice Bl m cl, .int .i64 k, .int .i64 aw, .int .i64 av, .int .i64 cap] (by go_simp) (by kernel_rfl) _ (WL.out _ (hO.out.ext ((Ext.rf _).drew)).read) ?_)
      rintro e w2 ⟨B2, c2, rfl, o2', x2⟩
      refine ⟨_, rfl, ?_⟩
      try simp only [Act.put, List.setIfInBounds_toArray, List.set_cons_zero, List.set_cons_succ]
      have x2' : Hid (Ext wo w2) := Ext.tr ((Ext.rf wo).drew) x2
      have hO2 := hO.out.ext x2'.out
      obtain ⟨A9, c9, w9, hrun, o9, g9, _⟩ := run_app_v w2 (e := 96) Tryd.underlying97 hi.out hz0.out hz1.out hz2.out (by simp [Value.cells]) (by omega) w1.heap.size 97 Bl m cl (flatL l) B2 lw.length c2 (flatL lw) hO2 o2'.read.rdC (flatL_len lw) (flatL_one lw) (by have := hm.out; simp only [maxLen]; omega) (by have := hm.out; omega) (Nat.le_trans X.out.size x2'.out.size)
      have x9 : Hid (Ext w1 w9) := Ext.grow (X.out.tr x2'.out) g9 (fun q hq => (hO2.lt q hq).1)
      rw [← flatL_append] at o9
      have hne : flatL (l ++ lw) ≠ [] := by
        intro e
        have h1 := flatL_len (l ++ lw)
        rw [e] at h1
        simp only [List.length_nil, List.length_append] at h1
        have h2 := List.length_pos_iff.2 LN.out
        omega
      obtain ⟨g, rfl⟩ := o9.some_of hne
      have gb := (o9.lt g rfl).1
      have BB := best_any o9 (by rw [List.length_append, hm.out]) WB.out (by have := hm.out; omega)
      clear hne hO2 g9 x2 o2'
      refine wpAny_next 16 (by kernel_rfl) (op_app rfl (.slice Bl m cl) (.slice B2 lw.length c2) (by kernel_rfl) (by kernel_rfl) _ hrun ?_)
      try simp only [Act.put, List.setIfInBounds_toArray, List.set_cons_zero, List.set_cons_succ]
      refine wpAny_next 17 (by decide +kernel) (op_call (f := 63) (xs := #[Operand.tmp 41]) (ts := #[97]) (t := 97) (d := some 42) rfl #[.slice (some ⟨g, 0, none⟩) (m + lw.length) c9] (by go_simp) (by kernel_rfl) _ (BB) ?_)
      rintro e w3 ⟨L, l2, B3, c3, hp, hL, he, o3, M3⟩
      replace hL := Lib.hid hL
      subst he
      refine ⟨_, rfl, ?_⟩
      try simp only [Act.put, List.setIfInBounds_toArray, List.set_cons_zero, List.set_cons_succ]
      refine wpAny_T (i := 18) (op := Op.assign (Operand.tmp 42)) (t := 97) (d := some 6) (v := ?_) rfl (by decide +kernel) (by decide +kernel) (by decide +kernel) (fun _ _ _ h => h) ?_ ?_
      case refine_2 => (intro _; unfold exec2; go_simp; try with_reducible rfl)
      try simp only [Act.put, List.setIfInBounds_toArray, List.set_cons_zero, List.set_cons_succ]
      refine wpAny_done (by kernel_rfl) ?_ _
      have x3 : Hid (Ext w1 w3) := x9.out.mod M3 (fun j hj e => by subst e; omega)
      have G3 : Hid (Good (k + 1) (atF xw) (atF xv) cap L) := by
        have h9 : Good (k + 1) (atF xw) (atF xv) cap L := by rw [hL.out]; exact ST.out l2 hp
        exact h9
      have O3 : Hid (OwV w3 w1.heap.size 96 4 B3 L.length c3 (flatL L)) := o3.more x9.out.size
      clear hrun o9 BB M3 o3 x9 x2' k1 k2 t2 t3 t4 hL
      go_simp
      go_wp2_with (fail)
      go_roundw
      case rel => exact ⟨k + 1, L.length, B3, c3, L, rfl, by go_num, by omega, rfl, G3, O3, x3⟩
      case measure => simp [intOf]; omega
    · obtain rfl : n = k := by omega
      obtain ⟨d0, hd0⟩ : ∃ d0, Hid (l[0]? = some d0) := ⟨l[0]'(List.length_pos_iff.2 LN.out), List.getElem?_eq_getElem _⟩
      have hne : flatL l ≠ [] := by
        intro e
        have h1 := flatL_len l
        rw [e] at h1
        simp only [List.length_nil] at h1
        have h2 := List.length_pos_iff.2 LN.out
        omega
      have m0 : 0 < m := by rw [hm.out]; exact List.length_pos_iff.2 LN.out
      obtain ⟨g, rfl⟩ := hO.out.some_of hne
      obtain ⟨gb, ob, hA, zb, hcell⟩ := hO.out.read.form hne
      obtain ⟨rfl, rfl⟩ : g = gb ∧ 0 = ob := by simpa using hA
      obtain ⟨g0, g1, g2, g3⟩ := flatL_get hd0.out
      have c0 : wo.cell? ⟨g, 0, none⟩ = some (.int .i64 d0.1) := by simpa using hcell _ _ g0
      have c1 : wo.cell? ⟨g, 1, none⟩ = some (.int .i64 d0.2.1) := by simpa using hcell _ _ g1
      have c2 : wo.cell? ⟨g, 2, none⟩ = some (.int .u64 d0.2.2) := by simpa using hcell _ _ g2
      have c3 : wo.cell? ⟨g, 3, none⟩ = some (.int .u64 0) := by simpa using hcell _ _ g3
      have q0 : ¬ ((n : Int) < (n : Int)) := by omega
      have q1 : (0 : Int) < (m : Int) := by omega
      have xx : Ext wo (wo.alloc (.cells #[.int .i64 d0.1, .int .i64 d0.2.1, .int .u64 d0.2.2, .int .u64 0] 96)) := (Ext.rf _).alloc _
      have BX : Hid (Blk (wo.alloc (.cells #[.int .i64 d0.1, .int .i64 d0.2.1, .int .u64 d0.2.2, .int .u64 0] 96)) wo.heap.size 96 #[.int .i64 d0.1, .int .i64 d0.2.1, .int .u64 d0.2.2, .int .u64 0]) := .new rfl
      have XZ := Lib.hid (X.out.tr xx)
      have hO2 := Lib.hid (hO.out.ext xx)
      obtain ⟨G, hG2⟩ : ∃ G, Hid (topL d0 (l.drop 0) = G) := ⟨_, rfl⟩
      have GT : Hid (G ∈ l ∧ ∀ d ∈ l, d.2.1 ≤ G.2.1) := by
        have h1 := topL_ge (l := l) (t := d0)
        have h2 := hG2.out
        rw [List.drop_zero] at h2
        rw [h2] at h1
        refine ⟨?_, h1.2.1⟩
        rcases h1.2.2 with h3 | h3
        · rw [h3]; exact List.mem_of_getElem? hd0.out
        · exact h3
      have zx : g < wo.heap.size := zb
      obtain ⟨dw, dv, dm⟩ := d0
      simp only at c0 c1 c2 c3 BX XZ hO2
      have zn := Lib.hid X.out.size
      clear XW hcell hne g0 g1 g2 g3 hA xx LN hO X zb hlt
      go_wp2_with (fail)
      generalize wo.alloc (.cells #[.int .i64 dw, .int .i64 dv, .int .u64 dm, .int .u64 0] 96) = wz at *
      obtain ⟨gx, hgx⟩ : ∃ gx, gx = wo.heap.size := ⟨_, rfl⟩
      rw [← hgx] at BX zx zn ⊢
      replace hgx := Lib.hid hgx
      have zx0 : w1.heap.size ≤ gx := zn.out
      go_loopw [49] (fun v49 wr => ∃ (j : Nat) (t : Ld), v49 = .int .i64 j ∧ j ≤ m ∧ Hid (topL t (l.drop j) = G) ∧ Hid (Blk wr gx 96 #[.int .i64 t.1, .int .i64 t.2.1, .int .u64 t.2.2, .int .u64 0]) ∧ Hid (Mod (fun b => b = gx) wz wr)) (fun v49 _ => m - (intOf v49).toNat)
      case atStart => exact ⟨0, (dw, dv, dm), rfl, by omega, hG2, BX, Mod.rf _⟩
      case round =>
        clear hG2 BX c0 c1 c2 c3
        obtain ⟨wp, rfl⟩ : ∃ wp : World, wp = wr := ⟨_, rfl⟩
        obtain ⟨j, t, rfl, hj, hT2, bX, hM⟩ := hrel
        by_cases hlt : j < m
        · have hjl : j < l.length := by rw [← hm.out]; exact hlt
          obtain ⟨d, hd⟩ : ∃ d, Hid (l[j]? = some d) := ⟨l[j], List.getElem?_eq_getElem hjl⟩
          have hne : flatL l ≠ [] := by
            intro e
            have := flatL_len l
            rw [e] at this
            simp at this
            omega
          have RO := (hO2.out.mod hM.out (fun q hq e => by
            have h1 : g = q := by simpa [bl] using hq
            omega)).read
          obtain ⟨gb, ob, hA, zb, hcell⟩ := RO.form hne
          obtain ⟨rfl, rfl⟩ : g = gb ∧ 0 = ob := by simpa using hA
          obtain ⟨g0, g1, g2, g3⟩ := flatL_get hd.out
          have c0 := hcell _ _ g0
          have c1 := hcell _ _ g1
          have c2 := hcell _ _ g2
          have c3 := hcell _ _ g3
          rw [Nat.zero_add] at c0 c1 c2 c3
          have TN : Hid (topL (if t.2.1 < d.2.1 then d else t) (l.drop (j + 1)) = G) := by
            have h1 := hT2.out
            obtain ⟨_, hv⟩ := List.getElem?_eq_some_iff.1 hd.out
            rw [List.drop_eq_getElem_cons hjl, hv] at h1
            exact h1
          have q3 : (j : Int) < (m : Int) := by omega
          have zp := bX.out.lt
          have bw := bX.out.alloc (.cells #[.int .i64 d.1, .int .i64 d.2.1, .int .u64 d.2.2, .int .u64 0] 96)
          obtain ⟨tw, tv, tm⟩ := t
          obtain ⟨ew, ev, em⟩ := d
          simp only at c0 c1 c2 c3 TN bX bw
          have by' : Blk (wp.alloc (.cells #[.int .i64 ew, .int .i64 ev, .int .u64 em, .int .u64 0] 96)) wp.heap.size 96 #[.int .i64 ew, .int .i64 ev, .int .u64 em, .int .u64 0] := .new rfl
          have MO := Lib.hid (hM.out.alloc (.cells #[.int .i64 ew, .int .i64 ev, .int .u64 em, .int .u64 0] 96))
          clear hcell hne g0 g1 g2 g3 hA RO bX hM hT2
          go_upto_region 14 with (fail)
          clear c0 c1 c2 c3
          generalize (wp.alloc (.cells #[.int .i64 ew, .int .i64 ev, .int .u64 em, .int .u64 0] 96)) = wy at *
          have hne2 : wp.heap.size ≠ gx := by omega
          generalize wp.heap.size = gy at *
          have c0 : wy.cell? ⟨gy, 0, none⟩ = some (.int .i64 ew) := by'.cell 0
          have c1 : wy.cell? ⟨gy, 1, none⟩ = some (.int .i64 ev) := by'.cell 1
          have c2 : wy.cell? ⟨gy, 2, none⟩ = some (.int .u64 em) := by'.cell 2
          have c3 : wy.cell? ⟨gy, 3, none⟩ = some (.int .u64 0) := by'.cell 3
          have k0 : wy.cell? ⟨gx, 0, none⟩ = some (.int .i64 tw) := bw.cell 0
          have k1 : wy.cell? ⟨gx, 1, none⟩ = some (.int .i64 tv) := bw.cell 1
          have k2 : wy.cell? ⟨gx, 2, none⟩ = some (.int .u64 tm) := bw.cell 2
          have k3 : wy.cell? ⟨gx, 3, none⟩ = some (.int .u64 0) := bw.cell 3
          have f0 := bw.free 0
          have f1 := bw.free 1
          have f2 := bw.free 2
          have f3 := bw.free 3
          have BN : Hid (Blk ((((wy.setCell ⟨gx, 0, none⟩ (.int .i64 ew)).setCell ⟨gx, 1, none⟩ (.int .i64 ev)).setCell ⟨gx, 2, none⟩ (.int .u64 em)).setCell ⟨gx, 3, none⟩ (.int .u64 0)) gx 96 #[.int .i64 ew, .int .i64 ev, .int .u64 em, .int .u64 0]) := (((bw.set 0 (.int .i64 ew)).set 1 (.int .i64 ev)).set 2 (.int .u64 em)).set 3 (.int .u64 0)
          have MN : Hid (Mod (fun b => b = gx) wz ((((wy.setCell ⟨gx, 0, none⟩ (.int .i64 ew)).setCell ⟨gx, 1, none⟩ (.int .i64 ev)).setCell ⟨gx, 2, none⟩ (.int .u64 em)).setCell ⟨gx, 3, none⟩ (.int .u64 0))) := (((MO.out.set (p := ⟨gx, 0, none⟩) (.inl rfl) _).set (p := ⟨gx, 1, none⟩) (.inl rfl) _).set (p := ⟨gx, 2, none⟩) (.inl rfl) _).set (p := ⟨gx, 3, none⟩) (.inl rfl) _
          have BO := Lib.hid bw
          clear bw by'
          by_cases hv : tv < ev
          · rw [if_pos hv] at TN
            go_wp2_with (fail)
            go_roundw
            case rel => exact ⟨j + 1, (ew, ev, em), by go_num, by omega, TN, BN, MN⟩
            case measure => simp [intOf]; omega
          · rw [if_neg hv] at TN
            clear BN MN
            go_wp2_with (fail)
            go_roundw
            case rel => exact ⟨j + 1, (tw, tv, tm), by go_num, by omega, TN, BO, MO⟩
            case measure => simp [intOf]; omega
        · obtain rfl : m = j := by omega
          obtain rfl : t = G := by
            have h1 := hT2.out
            rw [List.drop_of_length_le (by have := hm.out; omega)] at h1
            exact h1
          have ME := hG.out.each t GT.out.1
          have OPT : Hid (∀ s, s < 2 ^ n → sumB (atF xw) n s ≤ cap → sumN (atF xv) n t.2.2 ≤ sumN (atF xv) n s) := fun s h1 h2 => by
            obtain ⟨q, q1, q2, q3⟩ := hG.out.dom s h1 h2
            have h3 := GT.out.2 q q1
            have h4 := sums_all (atF xv) s n
            have h5 := sums_all (atF xv) t.2.2 n
            omega
          have XP : Hid (Ext w1 wp) := XZ.out.mod hM.out (fun q h1 e => by omega)
          have Bq := Bi.out.ext XP.out
          have t1 : wp.cell? ⟨w.heap.size, 1, none⟩ = some (.int .i64 n) := Bq.cell 1
          have k2 : wp.cell? ⟨gx, 2, none⟩ = some (.int .u64 t.2.2) := bX.out.cell 2
          have k3 : wp.cell? ⟨gx, 3, none⟩ = some (.int .u64 0) := bX.out.cell 3
          have MB : Hid (t.2.2 < 2 ^ n ∧ sumB (atF xw) n t.2.2 ≤ cap) := ⟨ME.1, by rw [← ME.2.1]; exact ME.2.2.2⟩
          have q4 : ¬ ((m : Int) < (m : Int)) := by omega
          have zxp := bX.out.lt
          generalize t.2.2 = msk at *
          go_upto_region 18 with (at_make; refine wpl_make_i _ rfl _ _ rfl wp.heap.size _ _ n rfl rfl rfl rfl (by omega) (Nat.le_refl _) ?_; rintro w5 o5 g5; replace o5 := Lib.hid o5; replace g5 := Lib.hid g5)
          have x5 := Ext.grow (Ext.rf wp) g5.out (by simp)
          have bA : Blk (w5.alloc (.cells #[.slice (some ⟨wp.heap.size, 0, none⟩) n n] 22)) w5.heap.size 22 #[.slice (some ⟨wp.heap.size, 0, none⟩) n n] := .new rfl
          have x6 : Ext w5 (w5.alloc (.cells #[.slice (some ⟨wp.heap.size, 0, none⟩) n n] 22)) := (Ext.rf _).alloc _
          have zz5 := o5.out.lt _ rfl
          have o6 := Lib.hid (o5.out.ext x6)
          have X6 := Lib.hid (x5.tr x6)
          generalize w5.alloc (.cells #[.slice (some ⟨wp.heap.size, 0, none⟩) n n] 22) = w6 at *
          have l2 := keepEL X6.out zxp k2
          have l3 := keepEL X6.out zxp k3
          obtain ⟨gy, hgy⟩ : ∃ gy, gy = wp.heap.size := ⟨_, rfl⟩
          obtain ⟨ga, hga⟩ : ∃ ga, ga = w5.heap.size := ⟨_, rfl⟩
          rw [← hgy] at o6 bA zz5 zxp ⊢
          rw [← hga] at bA zz5 ⊢
          have zA := bA.lt
          replace bA := Lib.hid bA
          have zi7 : w.heap.size < gy := by
            have := (Bi.out.lt); have := XP.out.size; omega
          have zyx : gx < gy := by omega
          replace hgy := Lib.hid hgy
          clear o5 g5 x5 x6 hga k2 k3
          go_wp2_with (fail)
          refine (all_any msk _).mono ?_
          rintro e w' ⟨rfl, rfl⟩
          go_wp2_with (fail)
          have bB : Blk (w6.alloc (.cells #[.int .u64 msk, .int .u64 0] 94)) w6.heap.size 94 #[.int .u64 msk, .int .u64 0] := .new rfl
          have x7 : Ext w6 (w6.alloc (.cells #[.int .u64 msk, .int .u64 0] 94)) := (Ext.rf _).alloc _
          have hB0 : Ext w (w6.alloc (.cells #[.int .u64 msk, .int .u64 0] 94)) := ((X1.out.tr XP.out).tr X6.out).tr x7
          have b18 : 2 ^ n ≤ 262144 := pow18 (Nat.le_refl n) h18
          have hm64 : msk < 18446744073709551616 := by have := MB.out.1; omega
          have hmn : Hid (∀ x ∈ memsM msk, x < n) := fun x hx => by
            have h1 := (memsM_mem.1 hx).2
            have h3 := MB.out.1
            by_cases h : x < n
            · exact h
            · have := Nat.pow_le_pow_right (n := 2) (by omega) (by omega : n ≤ x)
              rw [Nat.testBit_lt_two_pow (by omega)] at h1
              cases h1
          have h63 : ∀ x ∈ memsM msk, x < 63 := fun x hx => by have := hmn.out x hx; omega
          have hg := tab_low hT
          have b0 : Blk (w6.alloc (.cells #[.int .u64 msk, .int .u64 0] 94)) gy 3 (rowA (mkX n [])) := by
            have h1 := (OwI.blkOf o6.out (by simp)).ext x7
            rw [mkX_nil]
            exact h1
          have bA7 := Lib.hid (bA.out.ext x7)
          have Bi7 := Lib.hid ((Bq.ext X6.out).ext x7)
          have zy6 : gy < w6.heap.size := by omega
          have zy7 : gy ≠ ga := by omega
          generalize hw7 : w6.alloc (.cells #[.int .u64 msk, .int .u64 0] 94) = w7 at *
          have z7 : w7.heap.size = w6.heap.size + 1 := by rw [← hw7]; simp
          clear hw7
          refine (wpIn_wide (n := 3)).1 ?_
          refine wpIn_rangeFunc_ownG rfl (by omega) (gf := 95) (lb := #[.pointer (some ⟨w6.heap.size, 0, none⟩)]) rfl trivial (enters_of Tryd.func95 (by kernel_rfl) rfl)
            (all_stops 2 msk hm64 h63 w6.heap.size w.heap.size _ bB (hT.ext hB0) hB0.size hg) SetKp.tr (setKp_b (cs := #[.int .u64 msk, .int .u64 0]) hB0.size bB) (Below.refl _ _) (fun _ => rfl)
            (fun pre W => Blk W gy 3 (rowA (mkX n (inL pre))) ∧ Held w7 gy W ∧ Below w.heap.size w W)
            (fun _ _ _ => False)
            (OwnFrom.and (ownFrom_blk (by omega) _ _) (OwnFrom.and (ownFrom_held (Nat.le_refl _)) (ownFrom_below (Nat.le_refl _) (by omega))))
            (fun _ _ _ _ _ hs _ _ => hs)
            ⟨by simpa [inL] using b0, ⟨Nat.le_refl _, fun _ _ _ => rfl⟩, hB0⟩
            (fun x => { tmps := #[.agg #[.int .i64 1, .int .i64 n, .int .i64 cap, .slice A n a, .slice B n b, .slice D co.length d], .pointer (some ⟨w.heap.size, 0, none⟩), .slice none 0 0, .int .i64 0, .int .i64 0, .int .i64 0, .slice (some ⟨g, 0, none⟩) m cl, u7, .pointer (some ⟨gx, 0, none⟩), undef, u10, .pointer (some ⟨ga, 0, none⟩), .int .i64 ((x.1 : Nat) : Int), .agg #[.int .i64 1, .int .i64 n, .int .i64 cap, .slice A n a, .slice B n b, .slice D co.length d], .int .i64 0, .int .i64 0, .bool false, undef, .agg #[.int .i64 0, .int .i64 0, .int .u64 0, .int .u64 0], .slice (some ⟨w1.heap.size, 0, none⟩) 1 1, .pointer (some ⟨w.heap.size, 1, none⟩), .int .i64 n, .int .i64 n, .bool false, u24, u25, u26, u27, u28, u29, u30, u31, u32, u33, u34, u35, u36, u37, u38, u39, u40, u41, u42, u43, .slice (some ⟨g, 0, none⟩) m cl, .pointer (some ⟨g, 0, none⟩), .agg #[.int .i64 dw, .int .i64 dv, .int .u64 dm, .int .u64 0], .slice (some ⟨g, 0, none⟩) m cl, .int .i64 m, .int .i64 m, .bool false, u51, u52, u53, u54, u55, u56, u57, u58, u59, .pointer (some ⟨w.heap.size, 1, none⟩), .int .i64 n, .slice (some ⟨gy, 0, none⟩) n n, .pointer (some ⟨gx, 2, none⟩), .agg #[.int .u64 msk, .int .u64 0], .func (.func 95) #[] #[.pointer (some ⟨w6.heap.size, 0, none⟩)], .int .i64 ((x.1 : Nat) : Int), undef, undef, undef, undef, undef, undef, undef, undef, undef], defers := [] }) ?assign ?body ?done ?stop
          case assign =>
            intro l x W K hK
            gi_wp2
            exact hK
          case body =>
            rintro l pre x W ⟨hX, hH, hBW⟩ hlt2
            have hxn := hmn.out x.1 x.2
            have cA : W.cell? ⟨ga, 0, none⟩ = some (.slice (some ⟨gy, 0, none⟩) n n) := (hH.blk bA7.out (by omega)).cell 0
            have cX : W.cell? ⟨gy, x.1, none⟩ = some (.int .i64 (if x.1 ∈ inL pre then 1 else 0)) := by
              rw [hX.cell]
              unfold rowA
              rw [List.getElem?_toArray, List.getElem?_map, mkX_get _ hxn]
              rfl
            have fX := hX.free x.1
            have q5 : ((x.1 : Nat) : Int) < (n : Int) := by omega
            have zW : w6.heap.size + 1 ≤ W.heap.size := by have := hH.1; omega
            have E1 : KeepsFrom w7.heap.size W (W.setCell ⟨gy, x.1, none⟩ (.int .i64 1)) ∧ SetKp w.heap.size w6.heap.size W (W.setCell ⟨gy, x.1, none⟩ (.int .i64 1)) ∧ Blk (W.setCell ⟨gy, x.1, none⟩ (.int .i64 1)) gy 3 (rowA (mkX n (inL (pre ++ [x])))) ∧ Held w7 gy (W.setCell ⟨gy, x.1, none⟩ (.int .i64 1)) ∧ Below w.heap.size w (W.setCell ⟨gy, x.1, none⟩ (.int .i64 1)) := by
              refine ⟨(KeepsOthers.setCell _ _ _).from _, ⟨(Below.refl _ _).setCell (by simp <;> omega) _, Below.heap_setCell W ⟨gy, x.1, none⟩ _ w6.heap.size (by simp; omega)⟩, ?_, hH.setAt _ _, hBW.setCell (by simp <;> omega) _⟩
              rw [inL_snoc, mkX_snoc _ hxn, ← rowA_set]
              exact hX.set x.1 (.int .i64 1)
            replace E1 := Lib.hid E1
            replace hX := Lib.hid hX
            replace hH := Lib.hid hH
            replace hBW := Lib.hid hBW
            gi_wp2
            exact E1.out
          case done =>
            rintro D' ys W hD rfl ⟨hX, hH, hBW⟩ hK
            rw [inL_attach, mkX_mems (by omega)] at hX
            have BiW := hH.blk Bi7.out (by omega)
            have bAW := hH.blk bA7.out (by omega)
            have t0 : W.cell? ⟨w.heap.size, 0, none⟩ = some (.int .i64 1) := BiW.cell 0
            have t1 : W.cell? ⟨w.heap.size, 1, none⟩ = some (.int .i64 n) := BiW.cell 1
            have t2 : W.cell? ⟨w.heap.size, 2, none⟩ = some (.int .i64 cap) := BiW.cell 2
            have t3 : W.cell? ⟨w.heap.size, 3, none⟩ = some (.slice A n a) := BiW.cell 3
            have t4 : W.cell? ⟨w.heap.size, 4, none⟩ = some (.slice B n b) := BiW.cell 4
            have t5 : W.cell? ⟨w.heap.size, 5, none⟩ = some (.slice D co.length d) := BiW.cell 5
            have cA : W.cell? ⟨ga, 0, none⟩ = some (.slice (some ⟨gy, 0, none⟩) n n) := bAW.cell 0
            have RX : RdI W (some ⟨gy, 0, none⟩) (xB msk n) := .blk hX (by unfold rowA; simp)
            replace TO := Lib.hid (TO.out (some ⟨gy, 0, none⟩) n msk W hBW RX MB.out.2)
            go_simp
            go_wp2_with (fail)
            refine TO.out.mono ?_
            rintro e w8 ⟨rfl, x8⟩
            go_wp2_with (fail)
            have zD : w7.heap.size ≤ D' := hD
            have hKD : w8.heap[D']? = some (.deferred (some [])) := (x8.block D' (Array.getElem?_eq_some_iff.1 hK).1).trans hK
            have neD : gy ≠ D' := by omega
            refine ⟨by simp, .inl ⟨_, _, rfl, run_takeDeferred hKD, ?_⟩⟩
            refine ⟨.tuple #[.slice (some ⟨gy, 0, none⟩) n n, .int .i64 (sumN (atF xv) n msk), .int .i64 0], by simp [results, Tryd.results30, go_sem], ?_⟩
            have hz7 := hB0.size
            have hzW := hH.1
            have E8 : Ext w w8 := hBW.trans (x8.mono (by omega))
            exact ⟨some ⟨gy, 0, none⟩, n, msk, rfl, .blk ((World.putObj_heap_other neD).trans (hX.ext x8)) (by unfold rowA; simp), MB.out.1, MB.out.2, Nat.le_refl _, (by simp only [maxLen]; omega), OPT.out, E8.trans (belowK_b (w := w) (Nat.le_refl _) w8 D' _ _ (by omega) hKD rfl rfl)⟩
          case stop =>
            rintro D c pre W _ _ h _
            exact h.elim
theorem knapsack_any (i : InstP) (us : List Value) (n : Nat) (w : World) (H : RInst w us i) (hT : Tab w) (hc : checkP i = 0) (hk : i.kind = 1) (hn : i.n = n) (h18 : n ≤ 18) :
    Calls Tryd.prog 30 #[.agg (List.toArray us)] w (KnapPost i n w) := callsIn_wide.1 (knapsack_in i us n w H hT hc hk hn h18)
end Go.Proofs.YtleckhbmciiooaaDoor
namespace Go.Proofs.YtleckhbmciiooaaDoor

section
variable {n R : Nat} {cst : Nat → Nat → Int} {far M : Int} {has frm : Nat → Nat} {L : List Nat} {a : Nat} {u v least : Nat → Int}
theorem GI.bound (h : GI n cst far R has L a u v least frm) (ho : HasOk n R has) (hRn : R ≤ n) (hf : ∃ c, 1 ≤ c ∧ c ≤ n ∧ has c = 0) (num : ∀ i c, 1 ≤ i → i ≤ n → 1 ≤ c → c ≤ n → 0 ≤ cst i c ∧ cst i c ≤ M) :
    (∀ i, 1 ≤ i → i ≤ n → 0 ≤ u i ∧ u i ≤ M) ∧ ∀ c, 1 ≤ c → c ≤ n → -M ≤ v c ∧ v c ≤ 0 := by
  obtain ⟨c0, k1, k2, k3⟩ := hf
  have hu : ∀ i, 1 ≤ i → i ≤ n → 0 ≤ u i ∧ u i ≤ M := fun i h1 h2 => by
    have a1 := h.slack i c0 h1 h2 k1 k2
    have a2 := h.free c0 k1 k2 k3
    have a3 := (num i c0 h1 h2 k1 k2).2
    have a4 := h.pos i
    omega
  refine ⟨hu, fun c h1 h2 => ?_⟩
  have hM : 0 ≤ M := by
    have := num 1 c0 (by omega) (by omega) k1 k2
    omega
  have a1 := h.neg c h1 h2
  by_cases hc : has c = 0
  · have := h.free c h1 h2 hc
    omega
  · have a2 := h.tight c h1 h2 hc
    have a3 := ho.le c h2
    have a4 := hu (has c) (by omega) (by omega)
    have a5 := num (has c) c (by omega) (by omega) h1 h2
    omega
end
/-- while a way is turned: at the hole nobody stands -/
structure TI (n : Nat) (cst : Nat → Nat → Int) (R : Nat) (u v : Nat → Int) (has : Nat → Nat) (hole : Nat) : Prop where
  all : ∀ i, 1 ≤ i → i ≤ R → ∃ c, c ≤ n ∧ c ≠ hole ∧ has c = i
  inj : ∀ c c', c ≤ n → c' ≤ n → c ≠ hole → c' ≠ hole → has c = has c' → has c ≠ 0 → c = c'
  le : ∀ c, c ≤ n → c ≠ hole → has c ≤ R
  tight : ∀ c, 1 ≤ c → c ≤ n → c ≠ hole → has c ≠ 0 → cst (has c) c = u (has c) + v c
  free : ∀ c, 1 ≤ c → c ≤ n → c ≠ hole → has c = 0 → v c = 0
section
variable {n R : Nat} {cst : Nat → Nat → Int} {far : Int} {has has' hs frm : Nat → Nat} {L : List Nat} {a hole : Nat} {u v least : Nat → Int}
theorem GI.turn (h : GI n cst far R has L a u v least frm) (ho : HasOk n R has) (ha : has a = 0) : TI n cst R u v has a where
  all := fun i h1 h2 => by
    obtain ⟨c, k1, k2⟩ := ho.all i h1 h2
    refine ⟨c, k1, ?_, k2⟩
    rintro rfl
    omega
  inj := fun c c' h1 h2 _ _ => ho.inj c c' h1 h2
  le := fun c h1 _ => ho.le c h1
  tight := fun c h1 h2 _ => h.tight c h1 h2
  free := fun c h1 h2 _ => h.free c h1 h2
/-- the hole goes back by one -/
theorem TI.back {p : Nat} (h : TI n cst R u v hs hole) (hh : hole ≤ n) (hp : p ≤ n) (hne : p ≠ hole) (hp0 : hs p ≠ 0) (ht : cst (hs p) hole = u (hs p) + v hole) (hn : ∀ c, has' c = if c = hole then hs p else hs c) : TI n cst R u v has' p where
  all := fun i h1 h2 => by
    obtain ⟨c, k1, k2, k3⟩ := h.all i h1 h2
    by_cases e : c = p
    · subst e
      exact ⟨hole, hh, fun e => hne e.symm, by rw [hn, if_pos rfl, k3]⟩
    · exact ⟨c, k1, e, by rw [hn, if_neg k2, k3]⟩
  inj := fun c c' h1 h2 h3 h4 e h0 => by
    rw [hn] at e h0
    rw [hn c'] at e
    by_cases e1 : c = hole
    · by_cases e2 : c' = hole
      · rw [e1, e2]
      · rw [if_pos e1, if_neg e2] at e
        exact absurd (h.inj p c' hp h2 hne e2 e hp0).symm h4
    · by_cases e2 : c' = hole
      · rw [if_neg e1, if_pos e2] at e
        rw [if_neg e1] at h0
        exact absurd (h.inj c p h1 hp e1 hne e h0) h3
      · rw [if_neg e1, if_neg e2] at e
        rw [if_neg e1] at h0
        exact h.inj c c' h1 h2 e1 e2 e h0
  le := fun c h1 h2 => by
    rw [hn]
    split
    · exact h.le p hp hne
    · rename_i e
      exact h.le c h1 e
  tight := fun c h1 h2 h3 h4 => by
    rw [hn] at h4 ⊢
    by_cases e : c = hole
    · subst e
      rw [if_pos rfl]
      exact ht
    · rw [if_neg e] at h4 ⊢
      exact h.tight c h1 h2 e h4
  free := fun c h1 h2 h3 h4 => by
    rw [hn] at h4
    by_cases e : c = hole
    · rw [if_pos e] at h4
      exact absurd h4 hp0
    · rw [if_neg e] at h4
      exact h.free c h1 h2 e h4
theorem TI.done (h : TI n cst R u v hs 0) (slack : ∀ i c, 1 ≤ i → i ≤ n → 1 ≤ c → c ≤ n → u i + v c ≤ cst i c) (neg : ∀ c, 1 ≤ c → c ≤ n → v c ≤ 0) (pos : ∀ i, 0 ≤ u i) (fresh : ∀ i, R < i → u i = 0) : HI n cst R u v hs where
  le := fun c h1 h2 => h.le c h2 (by omega)
  all := fun i h1 h2 => by
    obtain ⟨c, k1, k2, k3⟩ := h.all i h1 h2
    exact ⟨c, by omega, k1, k3⟩
  inj := fun c c' h1 h2 h3 h4 => h.inj c c' h2 h4 (by omega) (by omega)
  slack := slack
  tight := fun c h1 h2 => h.tight c h1 h2 (by omega)
  free := fun c h1 h2 => h.free c h1 h2 (by omega)
  neg := neg
  pos := pos
  fresh := fresh
/-- the way back: what is still as it was -/
structure BackI (n : Nat) (has : Nat → Nat) (full : List Nat) (hs : Nat → Nat) (hole : Nat) : Prop where
  path : ∃ A B, full = A ++ hole :: B ∧ ∀ c ∈ A, hs c = has c
theorem GI.back (h : GI n cst far R has L a u v least frm) (ho : HasOk n R has) (hb : BackI n has (L ++ [a]) hs hole) (ht : TI n cst R u v hs hole) (h0 : hole ≠ 0) (hn : ∀ c, has' c = if c = hole then hs (frm hole) else hs c) :
    frm hole ≤ n ∧ TI n cst R u v has' (frm hole) ∧ BackI n has (L ++ [a]) has' (frm hole) ∧ ∃ A B, L ++ [a] = A ++ hole :: B ∧ frm hole ∈ A := by
  obtain ⟨A, B, e, hA⟩ := hb.path
  have hA0 : A ≠ [] := by
    rintro rfl
    have := h.first
    rw [e] at this
    simp at this
    exact h0 this
  obtain ⟨m1, m2⟩ := h.way A B hole e hA0
  have hmem : ∀ c ∈ A ++ hole :: B, c ≤ n := fun c hc => h.le c (by rw [e]; exact hc)
  have hp : frm hole ≤ n := hmem _ (by simp [m1])
  have hnd := h.nodup
  rw [e] at hnd
  have hne : frm hole ≠ hole := fun e2 => (List.nodup_append.1 hnd).2.2 (frm hole) m1 hole (by simp) e2
  have hseen : has (frm hole) ≠ 0 := by
    have hAL : ∀ c ∈ A, c ∈ L := by
      intro c hc
      have h1 : c ∈ L ++ [a] := by rw [e]; simp [hc]
      rcases List.mem_append.1 h1 with h2 | h2
      · exact h2
      · obtain rfl := List.mem_singleton.1 h2
        exfalso
        -- c = a stands last, but A is ahead of something
        rcases List.eq_nil_or_concat B with rfl | ⟨B', b, rfl⟩
        · have e' : L ++ [c] = A ++ [hole] := e
          have := (List.append_inj' e' rfl).2
          have e3 : c = hole := by simpa using this
          exact (List.nodup_append.1 hnd).2.2 c hc hole (by simp) e3
        · rw [List.concat_eq_append] at e hnd
          have e' : L ++ [c] = (A ++ hole :: B') ++ [b] := by simpa using e
          have := (List.append_inj' e' rfl).2
          have e3 : c = b := by simpa using this
          exact (List.nodup_append.1 hnd).2.2 c hc b (by simp) e3
    exact h.seen _ (hAL _ m1)
  have e1 : hs (frm hole) = has (frm hole) := hA _ m1
  refine ⟨hp, ht.back (hmem hole (by simp)) hp hne (by rw [e1]; exact hseen) (by rw [e1]; exact m2) hn, ⟨?_⟩, A, B, e, m1⟩
  obtain ⟨A1, A2, e2⟩ := List.append_of_mem m1
  refine ⟨A1, A2 ++ hole :: B, by rw [e, e2]; simp, fun c hc => ?_⟩
  have hcA : c ∈ A := by rw [e2]; simp [hc]
  rw [hn, if_neg (fun e3 => (List.nodup_append.1 hnd).2.2 c hcA hole (by simp) e3), hA c hcA]
end
theorem costF_tight {F : Nat → Int} : ∀ {rows : List (List Int)} {off : List Int} {q : List Nat}, rows.length = q.length → off.length = q.length → (∀ (k c : Nat) (x : List Int) (o : Int), rows[k]? = some x → off[k]? = some o → q[k]? = some c → x.getD c 0 = o + F c) → costF rows (intsN q) = sumL off + sumL (q.map F)
  | [], off, q, h1, h2, _ => by
    have : q = [] := List.eq_nil_of_length_eq_zero (by simpa using h1.symm)
    subst this
    have : off = [] := List.eq_nil_of_length_eq_zero (by simpa using h2)
    subst this
    simp [sumL, costF, intsN]
  | r :: rows, [], q, h1, h2, _ => by
    exfalso
    simp at h1 h2
    omega
  | r :: rows, o :: off, [], h1, _, _ => by simp at h1
  | r :: rows, o :: off, c :: q, h1, h2, h => by
    have h3 := h 0 c r o rfl rfl rfl
    have ih := costF_tight (F := F) (rows := rows) (off := off) (q := q) (by simpa using h1) (by simpa using h2) fun k c x o a b d => h (k + 1) c x o a b d
    simp only [intsN, List.map_cons, sumL, costF] at ih ⊢
    rw [Int.toNat_natCast]
    omega
/-- at the end: no order costs less -/
theorem hung_min {n : Nat} {rows : List (List Int)} {u v : Nat → Int} {has : Nat → Nat} {x : List Nat} (hr : rows.length = n) (h : HI n (fun i c => (rows.getD (i - 1) []).getD (c - 1) 0) n u v has) (hx : x.length = n) (hxc : ∀ c, 1 ≤ c → c ≤ n → x[has c - 1]? = some (c - 1)) :
    x.Perm (List.range n) ∧ ∀ q : List Nat, q.Perm (List.range n) → costF rows (intsN x) ≤ costF rows (intsN q) := by
  have at' : ∀ i, i < n → ∃ c, 1 ≤ c ∧ c ≤ n ∧ has c = i + 1 ∧ x[i]? = some (c - 1) := fun i hi => by
    obtain ⟨c, k1, k2, k3⟩ := h.all (i + 1) (by omega) (by omega)
    have := hxc c k1 k2
    rw [k3, Nat.add_sub_cancel] at this
    exact ⟨c, k1, k2, k3, this⟩
  have hperm : x.Perm (List.range n) := by
    have hd : x.Nodup := by
      refine List.pairwise_iff_getElem.2 fun i j hi hj hij e => ?_
      obtain ⟨c, k1, k2, k3, k4⟩ := at' i (by omega)
      obtain ⟨d, m1, m2, m3, m4⟩ := at' j (by omega)
      rw [List.getElem?_eq_getElem hi] at k4
      rw [List.getElem?_eq_getElem hj] at m4
      have e1 := Option.some.inj k4
      have e2 := Option.some.inj m4
      have : c = d := by omega
      subst this
      omega
    refine (List.perm_ext_iff_of_nodup hd List.nodup_range).2 fun y => ?_
    rw [List.mem_range]
    constructor
    · intro hy
      obtain ⟨i, hi, rfl⟩ := List.mem_iff_getElem.1 hy
      obtain ⟨c, k1, k2, k3, k4⟩ := at' i (by omega)
      rw [List.getElem?_eq_getElem hi] at k4
      have := Option.some.inj k4
      omega
    · intro hy
      have hne : has (y + 1) ≠ 0 := by
        -- every column has a row: as many rows as columns
        intro e0
        have hl := nodup_le (l := (List.range n).map fun i => x.getD i 0) (n := n) ?_ ?_
        · have hs : y ∈ x := by
            cases hd2 : decide (y ∈ x) with
            | true => exact of_decide_eq_true hd2
            | false =>
              exfalso
              have hny := of_decide_eq_false hd2
              have h2 := nodup_le (l := y :: x) (n := n) (List.nodup_cons.2 ⟨hny, hd⟩) ?_
              · rw [List.length_cons, hx] at h2
                omega
              · intro z hz
                rcases List.mem_cons.1 hz with rfl | hz
                · exact hy
                · obtain ⟨i, hi, rfl⟩ := List.mem_iff_getElem.1 hz
                  obtain ⟨c, k1, k2, k3, k4⟩ := at' i (by omega)
                  rw [List.getElem?_eq_getElem hi] at k4
                  have := Option.some.inj k4
                  omega
          obtain ⟨i, hi, e⟩ := List.mem_iff_getElem.1 hs
          obtain ⟨c, k1, k2, k3, k4⟩ := at' i (by omega)
          rw [List.getElem?_eq_getElem hi, e] at k4
          have := Option.some.inj k4
          have e5 : c = y + 1 := by omega
          subst e5
          omega
        · refine List.pairwise_map.2 (List.Pairwise.imp_of_mem ?_ List.nodup_range)
          intro i j hi hj hij e
          have hi := List.mem_range.1 hi
          have hj := List.mem_range.1 hj
          obtain ⟨c, k1, k2, k3, k4⟩ := at' i hi
          obtain ⟨d, m1, m2, m3, m4⟩ := at' j hj
          rw [getD_some k4, getD_some m4] at e
          have : c = d := by omega
          subst this
          omega
        · intro z hz
          obtain ⟨i, hi, rfl⟩ := List.mem_map.1 hz
          obtain ⟨c, k1, k2, k3, k4⟩ := at' i (List.mem_range.1 hi)
          rw [getD_some k4]
          omega
      have := hxc (y + 1) (by omega) (by omega)
      rw [Nat.add_sub_cancel] at this
      exact List.mem_of_getElem? this
  refine ⟨hperm, fun q hq => ?_⟩
  have hoff : ∀ k, ((List.range n).map fun i => u (i + 1))[k]? = if k < n then some (u (k + 1)) else none := fun k => by
    rw [List.getElem?_map]
    by_cases hk : k < n
    · rw [List.getElem?_range hk, if_pos hk]; rfl
    · rw [List.getElem?_eq_none (by simp; omega), if_neg hk]; rfl
  have hge := costF_ge (F := fun c => v (c + 1)) (rows := rows) (off := (List.range n).map fun i => u (i + 1)) (q := q) (by rw [hr, hq.length_eq, List.length_range]) (by simp [hq.length_eq]) fun k c r o h1 h2 h3 => by
    have hk : k < n := by rw [← hr]; exact (List.getElem?_eq_some_iff.1 h1).1
    rw [hoff, if_pos hk] at h2
    obtain rfl := Option.some.inj h2
    have hc : c < n := List.mem_range.1 (hq.mem_iff.1 (List.mem_of_getElem? h3))
    have := h.slack (k + 1) (c + 1) (by omega) (by omega) (by omega) (by omega)
    simp only [Nat.add_sub_cancel] at this
    rw [show rows.getD k [] = r from getD_some h1] at this
    exact this
  have hle : costF rows (intsN x) = sumL ((List.range n).map fun i => u (i + 1)) + sumL (x.map fun c => v (c + 1)) := by
    refine costF_tight (by rw [hr, hx]) (by simp [hx]) fun k c r o h1 h2 h3 => ?_
    have hk : k < n := by rw [← hr]; exact (List.getElem?_eq_some_iff.1 h1).1
    rw [hoff, if_pos hk] at h2
    obtain rfl := Option.some.inj h2
    obtain ⟨d, k1, k2, k3, k4⟩ := at' k hk
    rw [h3] at k4
    have e : c = d - 1 := Option.some.inj k4
    subst e
    have := h.tight d k1 k2 (by omega)
    rw [k3] at this
    simp only [Nat.add_sub_cancel] at this
    rw [show rows.getD k [] = r from getD_some h1] at this
    rw [show d - 1 + 1 = d by omega]
    exact this
  have e := sumL_perm ((hperm.trans hq.symm).map fun c => v (c + 1))
  omega
end Go.Proofs.YtleckhbmciiooaaDoor
namespace Go.Proofs.YtleckhbmciiooaaDoor

/-- the columns below k have been looked at: sl is what they cost over the row of where one stands -/
structure LookR (n : Nat) (far : Int) (sl : Nat → Int) (S : Nat → Bool) (a : Nat) (least least' : Nat → Int) (frm frm' : Nat → Nat) (k next : Nat) (step : Int) : Prop where
  done : ∀ c, 1 ≤ c → c < k → S c = false → (sl c < least c ∧ least' c = sl c ∧ frm' c = a) ∨ (least c ≤ sl c ∧ least' c = least c ∧ frm' c = frm c)
  keep : ∀ c, c < 1 ∨ k ≤ c ∨ S c = true → least' c = least c ∧ frm' c = frm c
  best : (step = far ∧ next = 0 ∧ ∀ c, 1 ≤ c → c < k → S c = true) ∨ (1 ≤ next ∧ next < k ∧ S next = false ∧ step = least' next ∧ ∀ c, 1 ≤ c → c < k → S c = false → step ≤ least' c)
section
variable {n : Nat} {far : Int} {sl : Nat → Int} {S : Nat → Bool} {a : Nat} {least least' : Nat → Int} {frm frm' : Nat → Nat} {k next : Nat} {step : Int}
theorem LookR.start : LookR n far sl S a least least frm frm 1 0 far :=
  ⟨fun c h1 h2 => by omega, fun _ _ => ⟨rfl, rfl⟩, .inl ⟨rfl, rfl, fun c h1 h2 => by omega⟩⟩
theorem LookR.skip (h : LookR n far sl S a least least' frm frm' k next step) (hs : S k = true) : LookR n far sl S a least least' frm frm' (k + 1) next step := by
  have lt : ∀ c, c < k + 1 → c ≠ k → c < k := fun c h1 h2 => by omega
  refine ⟨fun c h1 h2 h3 => ?_, fun c hc => ?_, ?_⟩
  · refine h.done c h1 (lt c h2 ?_) h3
    rintro rfl
    rw [hs] at h3
    cases h3
  · refine h.keep c ?_
    rcases hc with hc | hc | hc
    · exact .inl hc
    · exact .inr (.inl (by omega))
    · exact .inr (.inr hc)
  · rcases h.best with ⟨b1, b2, b3⟩ | ⟨b1, b2, b3, b4, b5⟩
    · refine .inl ⟨b1, b2, fun c h1 h2 => ?_⟩
      by_cases e : c = k
      · rw [e]; exact hs
      · exact b3 c h1 (lt c h2 e)
    · refine .inr ⟨b1, by omega, b3, b4, fun c h1 h2 h3 => b5 c h1 (lt c h2 ?_) h3⟩
      rintro rfl
      rw [hs] at h3
      cases h3
/-- a column that isn't seen: its least one is what it was, or what it costs now -/
theorem LookR.look {l2 : Nat → Int} {f2 : Nat → Nat} {x : Int} (h : LookR n far sl S a least least' frm frm' k next step) (hs : S k = false) (k1 : 1 ≤ k) (hx : (sl k < least k ∧ x = sl k ∧ f2 k = a) ∨ (least k ≤ sl k ∧ x = least k ∧ f2 k = frm k))
    (hl : ∀ c, l2 c = if c = k then x else least' c) (hf : ∀ c, c ≠ k → f2 c = frm' c) (hfar : x < far) :
    (x < step → LookR n far sl S a least l2 frm f2 (k + 1) k x) ∧ (step ≤ x → LookR n far sl S a least l2 frm f2 (k + 1) next step) := by
  have d : ∀ c, 1 ≤ c → c < k + 1 → S c = false → (sl c < least c ∧ l2 c = sl c ∧ f2 c = a) ∨ (least c ≤ sl c ∧ l2 c = least c ∧ f2 c = frm c) := fun c h1 h2 h3 => by
    by_cases e : c = k
    · subst e
      rw [hl, if_pos rfl]
      exact hx
    · rw [hl, if_neg e, hf c e]
      exact h.done c h1 (by omega) h3
  have kp : ∀ c, c < 1 ∨ k + 1 ≤ c ∨ S c = true → l2 c = least c ∧ f2 c = frm c := fun c hc => by
    have e : c ≠ k := by
      rintro rfl
      rcases hc with hc | hc | hc
      · omega
      · omega
      · rw [hs] at hc
        cases hc
    rw [hl, if_neg e, hf c e]
    refine h.keep c ?_
    rcases hc with hc | hc | hc
    · exact .inl hc
    · exact .inr (.inl (by omega))
    · exact .inr (.inr hc)
  have ek : l2 k = x := by rw [hl, if_pos rfl]
  refine ⟨fun hlt => ⟨d, kp, .inr ⟨k1, by omega, hs, ek.symm, fun c h1 h2 h3 => ?_⟩⟩, fun hle => ⟨d, kp, ?_⟩⟩
  · by_cases e : c = k
    · subst e; omega
    · rw [hl, if_neg e]
      rcases h.best with ⟨b1, b2, b3⟩ | ⟨b1, b2, b3, b4, b5⟩
      · rw [b3 c h1 (by omega)] at h3
        cases h3
      · have := b5 c h1 (by omega) h3
        omega
  · rcases h.best with ⟨b1, b2, b3⟩ | ⟨b1, b2, b3, b4, b5⟩
    · omega
    · refine .inr ⟨b1, by omega, b3, ?_, fun c h1 h2 h3 => ?_⟩
      · rw [hl, if_neg (by omega)]
        exact b4
      · by_cases e : c = k
        · subst e; omega
        · rw [hl, if_neg e]
          exact b5 c h1 (by omega) h3
end
/-- the columns below k have been turned by a step -/
structure TurnR (S : Nat → Bool) (has : Nat → Nat) (step : Int) (u v least u' v' least' : Nat → Int) (k : Nat) : Prop where
  u : ∀ i, u' i = if ∃ s, s < k ∧ S s = true ∧ has s = i then u i + step else u i
  v : ∀ c, 1 ≤ c → v' c = if c < k ∧ S c = true then v c - step else v c
  l : ∀ c, least' c = if c < k ∧ S c = false then least c - step else least c
section
variable {S : Nat → Bool} {has : Nat → Nat} {step : Int} {u v least u' v' least' : Nat → Int} {k : Nat}
theorem TurnR.start : TurnR S has step u v least u v least 0 :=
  ⟨fun i => by rw [if_neg]; rintro ⟨s, h, _⟩; omega, fun c _ => by rw [if_neg (by omega)], fun c => by rw [if_neg (by omega)]⟩
theorem TurnR.seen {v2 : Nat → Int} (h : TurnR S has step u v least u' v' least' k) (hs : S k = true) (inj : ∀ s, s < k → S s = true → has s ≠ has k) (h2 : ∀ c, 1 ≤ c → v2 c = if c = k then v' k - step else v' c) :
    u' (has k) = u (has k) ∧ (1 ≤ k → v' k = v k) ∧ TurnR S has step u v least (fun i => if i = has k then u' (has k) + step else u' i) v2 least' (k + 1) := by
  have e1 : u' (has k) = u (has k) := by
    rw [h.u, if_neg]
    rintro ⟨s, a, b, c⟩
    exact inj s a b c
  refine ⟨e1, fun h1 => by rw [h.v k h1, if_neg (by omega)], ⟨fun i => ?_, fun c hc => ?_, fun c => ?_⟩⟩
  · by_cases e : i = has k
    · rw [if_pos e, e1, if_pos ⟨k, by omega, hs, e.symm⟩, e]
    · rw [if_neg e, h.u]
      by_cases hx : ∃ s, s < k ∧ S s = true ∧ has s = i
      · obtain ⟨s, a, b, c⟩ := hx
        rw [if_pos ⟨s, a, b, c⟩, if_pos ⟨s, by omega, b, c⟩]
      · rw [if_neg hx, if_neg]
        rintro ⟨s, a, b, c⟩
        by_cases e2 : s = k
        · subst e2; exact e c.symm
        · exact hx ⟨s, by omega, b, c⟩
  · rw [h2 c hc]
    by_cases e : c = k
    · subst e
      rw [if_pos rfl, if_pos ⟨by omega, hs⟩, h.v c hc, if_neg (by omega)]
    · rw [if_neg e, h.v c hc]
      by_cases h3 : c < k ∧ S c = true
      · rw [if_pos h3, if_pos ⟨by omega, h3.2⟩]
      · rw [if_neg h3, if_neg]
        rintro ⟨a, b⟩
        exact h3 ⟨by omega, b⟩
  · rw [h.l]
    by_cases e : c = k
    · subst e
      rw [if_neg (by omega), if_neg]
      rintro ⟨_, b⟩
      rw [hs] at b
      cases b
    · by_cases h3 : c < k ∧ S c = false
      · rw [if_pos h3, if_pos ⟨by omega, h3.2⟩]
      · rw [if_neg h3, if_neg]
        rintro ⟨a, b⟩
        exact h3 ⟨by omega, b⟩
theorem TurnR.unseen (h : TurnR S has step u v least u' v' least' k) (hs : S k = false) :
    least' k = least k ∧ TurnR S has step u v least u' v' (fun c => if c = k then least' k - step else least' c) (k + 1) := by
  have e1 : least' k = least k := by rw [h.l, if_neg (by omega)]
  refine ⟨e1, ⟨fun i => ?_, fun c hc => ?_, fun c => ?_⟩⟩
  · rw [h.u]
    by_cases hx : ∃ s, s < k ∧ S s = true ∧ has s = i
    · obtain ⟨s, a, b, c⟩ := hx
      rw [if_pos ⟨s, a, b, c⟩, if_pos ⟨s, by omega, b, c⟩]
    · rw [if_neg hx, if_neg]
      rintro ⟨s, a, b, c⟩
      by_cases e2 : s = k
      · subst e2
        rw [hs] at b
        cases b
      · exact hx ⟨s, by omega, b, c⟩
  · rw [h.v c hc]
    by_cases h3 : c < k ∧ S c = true
    · rw [if_pos h3, if_pos ⟨by omega, h3.2⟩]
    · rw [if_neg h3, if_neg]
      rintro ⟨a, b⟩
      by_cases e : c = k
      · subst e
        rw [hs] at b
        cases b
      · exact h3 ⟨by omega, b⟩
  · by_cases e : c = k
    · subst e
      rw [if_pos rfl, e1, if_pos ⟨by omega, hs⟩]
    · rw [if_neg e, h.l]
      by_cases h3 : c < k ∧ S c = false
      · rw [if_pos h3, if_pos ⟨by omega, h3.2⟩]
      · rw [if_neg h3, if_neg]
        rintro ⟨a, b⟩
        exact h3 ⟨by omega, b⟩
end
/-- how many truth values of a block are false -/
def leftB (w : World) (g : Nat) : Nat := match w.heap[g]? with
  | some (.cells cs _ _) => cs.toList.countP fun v => match v with | .bool b => !b | _ => false
  | _ => 0
theorem ArrB.left {w : World} {g n : Nat} {S : Nat → Bool} (h : ArrB w g n S) : leftB w g = (List.range n).countP fun i => !S i := by
  unfold ArrB Blk at h
  unfold leftB
  rw [h]
  simp only [List.countP_map]
  rfl
theorem countP_less {α : Type} {p q : α → Bool} {a : α} : ∀ {l : List α}, a ∈ l → p a = true → q a = false → (∀ x, q x = true → p x = true) → l.countP q < l.countP p
  | [], h, _, _, _ => by cases h
  | x :: l, h, hp, hq, hs => by
    have hle : l.countP q ≤ l.countP p := List.countP_mono_left fun y _ hy => hs y hy
    rw [List.countP_cons, List.countP_cons]
    rcases List.mem_cons.1 h with rfl | h
    · rw [hp, hq]
      simp
      omega
    · have ih := countP_less h hp hq hs
      have : (if q x = true then 1 else 0) ≤ (if p x = true then 1 else 0) := by
        cases hqx : q x
        · simp
        · rw [hs x hqx]
          simp
      omega
/-- who is seen now wasn't: fewer are left -/
theorem left_less {n a : Nat} {S S' : Nat → Bool} (ha : a < n) (h1 : S a = false) (h2 : ∀ i, S' i = if i = a then true else S i) : ((List.range n).countP fun i => !S' i) < (List.range n).countP fun i => !S i := by
  refine countP_less (a := a) (List.mem_range.2 ha) (by simp [h1]) (by simp [h2]) fun x hx => ?_
  rw [h2] at hx
  split at hx
  · simp at hx
  · exact hx
end Go.Proofs.YtleckhbmciiooaaDoor
namespace Go.Proofs.YtleckhbmciiooaaDoor
open Go.RowKit Go.ChangeShapes Go.WideShapes Go.ChangeAt Go.Deep

/-- the prices' own cells -/
def PB (w : World) (gp : Nat) (D : Option Addr) (d n N gu gv gh gf : Nat) : Prop :=
  Blk w gp 105 #[.slice D n d, .slice (some ⟨gu, 0, none⟩) N N, .slice (some ⟨gv, 0, none⟩) N N, .slice (some ⟨gh, 0, none⟩) N N, .slice (some ⟨gf, 0, none⟩) N N]
set_option maxRecDepth 100000 in
set_option maxHeartbeats 1000000 in
theorem slack_any {w : World} {gp d n N gu gv gh gf : Nat} {D : Option Addr} {rows : List (List Int)} {u v : Nat → Int} (hP : PB w gp D d n N gu gv gh gf) (hu : Arr w gu N u) (hv : Arr w gv N v)
    (hC : RdE 1 RInts w D rows) (rok : RowsOk rows) (hn : rows.length = n) (hN : N = n + 1) {r c : Nat} (r1 : 1 ≤ r) (r2 : r ≤ n) (c1 : 1 ≤ c) (c2 : c ≤ n) (bu : 0 ≤ u r ∧ u r ≤ 2147483647) (bv : -2147483647 ≤ v c ∧ v c ≤ 0) :
    Calls Tryd.prog 98 #[.pointer (some ⟨gp, 0, none⟩), .int .i64 r, .int .i64 c] w fun e w' => e = .returned (.int .i64 (costAt rows (r - 1) (c - 1) - u r - v c)) ∧ Ext w w' := by
  subst hn
  obtain ⟨rp, hrp⟩ : ∃ rp, Hid (r - 1 = rp) := ⟨_, rfl⟩
  obtain ⟨cp, hcp⟩ : ∃ cp, Hid (c - 1 = cp) := ⟨_, rfl⟩
  rw [hrp.out, hcp.out]
  have e1 : (r : Int) - 1 = (rp : Int) := by rw [← hrp.out]; omega
  have e2 : (c : Int) - 1 = (cp : Int) := by rw [← hcp.out]; omega
  have w1 : IntKind.i64.wrap ((r : Int) - 1) = (rp : Int) := by rw [e1]; exact IntWalk.i64_in _ (by have := rok.n2; omega)
  have w2 : IntKind.i64.wrap ((c : Int) - 1) = (cp : Int) := by rw [e2]; exact IntWalk.i64_in _ (by have := rok.n2; omega)
  have z1 : rp < rows.length := by rw [← hrp.out]; omega
  have z2 : cp < rows.length := by rw [← hcp.out]; omega
  obtain ⟨cb, cof, rb, ro, d', rfl, k1, k2⟩ := cost_at rok hC z1 z2
  have bc := ends_num rok rp cp z1 z2
  have ku := hu.cell (k := r) (by omega)
  have kv := hv.cell (k := c) (by omega)
  generalize costAt rows rp cp = x at *
  generalize u r = ur at *
  generalize v c = vc at *
  have p0 : w.cell? ⟨gp, 0, none⟩ = some (.slice (some ⟨cb, cof, none⟩) rows.length d) := hP.cell 0
  have p1 : w.cell? ⟨gp, 1, none⟩ = some (.slice (some ⟨gu, 0, none⟩) N N) := hP.cell 1
  have p2 : w.cell? ⟨gp, 2, none⟩ = some (.slice (some ⟨gv, 0, none⟩) N N) := hP.cell 2
  have w3 : IntKind.i64.wrap (x - ur) = x - ur := IntWalk.i64_in _ (by omega)
  have w4 : IntKind.i64.wrap (x - ur - vc) = x - ur - vc := IntWalk.i64_in _ (by omega)
  have q1 : (r : Int) < (N : Int) := by omega
  have q2 : (c : Int) < (N : Int) := by omega
  have q3 : (rp : Int) < (rows.length : Int) := by omega
  have q4 : (cp : Int) < (rows.length : Int) := by omega
  replace hN := Lib.hid hN
  clear hP hu hv hC rok e1 e2 bu bv bc
  go_enter Tryd.func98, Tryd.ntmps98
  go_wp2_with (fail)
  go_quiet (fail)
  go_wp2_with (fail)
  go_ret
  exact ⟨rfl, by (repeat (first | assumption | exact Ext.rf _ | apply Ext.drew | apply Ext.drewN | apply Ext.alloc))⟩
/-- which blocks a way turns -/
def PS (gu gv gh gf : Nat) (k : Nat) : Prop := k = gu ∨ k = gv ∨ k = gh ∨ k = gf
set_option maxRecDepth 100000 in
set_option maxHeartbeats 1000000 in
theorem turn_any {w : World} {gp d n N R gu gv gh gf : Nat} {D : Option Addr} {cst : Nat → Nat → Int} {far : Int} {has frm : Nat → Nat} {L : List Nat} {a : Nat} {u v least : Nat → Int}
    (hP : PB w gp D d n N gu gv gh gf) (hh : Arr w gh N fun c => (has c : Int)) (hf : Arr w gf N fun c => (frm c : Int)) (hne : gh ≠ gf) (hN : N = n + 1) (hn : n ≤ 1000)
    (hG : GI n cst far R has L a u v least frm) (ho : HasOk n R has) (ha : has a = 0) :
    Calls Tryd.prog 67 #[.pointer (some ⟨gp, 0, none⟩), .int .i64 a] w fun e w' => e = .returned (.tuple #[]) ∧ (∃ hs, Arr w' gh N (fun c => (hs c : Int)) ∧ HI n cst R u v hs) ∧ Mod (fun k => k = gh) w w' := by
  have hgp : gp ≠ gh := fun e => hh.ne hP (by decide) e.symm
  have T0 := hG.turn ho ha
  have B0 : BackI n has (L ++ [a]) has a := ⟨⟨L, [], by simp, fun _ _ => rfl⟩⟩
  have la : a ≤ n := hG.le a (by simp)
  replace hG := Lib.hid hG
  replace ho := Lib.hid ho
  replace T0 := Lib.hid T0
  replace B0 := Lib.hid B0
  replace hP := Lib.hid hP
  replace hh := Lib.hid hh
  replace hf := Lib.hid hf
  replace hN := Lib.hid hN
  clear ha
  go_enter Tryd.func67, Tryd.ntmps67
  go_wp2_with (fail)
  go_loopw [1] (fun v1 wr => ∃ (hole : Nat) (hs : Nat → Nat), v1 = .int .i64 hole ∧ hole ≤ n ∧ Hid (Arr wr gh N (fun c => (hs c : Int)) ∧ TI n cst R u v hs hole ∧ BackI n has (L ++ [a]) hs hole) ∧ Hid (Mod (fun k => k = gh) w wr)) (fun v1 _ => (L ++ [a]).idxOf (intOf v1).toNat)
  case atStart => exact ⟨a, has, rfl, la, ⟨hh.out, T0.out, B0.out⟩, Mod.rf _⟩
  case round =>
    obtain ⟨wo, rfl⟩ : ∃ wo : World, wo = wr := ⟨_, rfl⟩
    obtain ⟨hole, hs, rfl, hle, HH, HM⟩ := hrel
    by_cases h0 : hole = 0
    · subst h0
      go_wp2_with (fail)
      go_end0
      exact ⟨rfl, ⟨hs, HH.out.1, HH.out.2.1.done hG.out.slack hG.out.neg hG.out.pos hG.out.fresh⟩, HM.out⟩
    · obtain ⟨HA, HT, HB⟩ := HH.out
      obtain ⟨f1, f2, f3, A, B, f4, f5⟩ := hG.out.back ho.out HB HT h0 (has' := fun c => if c = hole then hs (frm hole) else hs c) (fun c => rfl)
      have hP1 : PB wo gp D d n N gu gv gh gf := hP.out.mod HM.out hgp
      have hF1 := hf.out.mod HM.out (fun e => hne e.symm)
      have kf := hF1.cell (k := hole) (by have := hN.out; omega)
      have kh := HA.cell (k := frm hole) (by have := hN.out; omega)
      have fh := HA.free hole
      have S1 := HA.set hole (hs (frm hole) : Int)
      have p3 : wo.cell? ⟨gp, 3, none⟩ = some (.slice (some ⟨gh, 0, none⟩) N N) := hP1.cell 3
      have p4 : wo.cell? ⟨gp, 4, none⟩ = some (.slice (some ⟨gf, 0, none⟩) N N) := hP1.cell 4
      have kh0 := HA.cell (k := hole) (by have := hN.out; omega)
      have S1' : Arr (wo.setCell ⟨gh, hole, none⟩ (.int .i64 (hs (frm hole)))) gh N (fun c => ((if c = hole then hs (frm hole) else hs c : Nat) : Int)) := S1.congr fun i _ => by split <;> rfl
      have FIN := Lib.hid (And.intro S1' (And.intro f2 f3))
      have MM : Hid (Mod (fun k => k = gh) w (wo.setCell ⟨gh, hole, none⟩ (.int .i64 (hs (frm hole))))) := HM.out.set (p := ⟨gh, hole, none⟩) (.inl rfl) _
      have ML : Hid ((L ++ [a]).idxOf (frm hole) < (L ++ [a]).idxOf hole) := by
        have nd := hG.out.nodup
        have h : (L ++ [a]).idxOf (frm hole) < (L ++ [a]).idxOf hole := by
          rw [f4] at nd ⊢
          have h1 : hole ∉ A := fun hm => (List.nodup_append.1 nd).2.2 hole hm hole (by simp) rfl
          rw [List.idxOf_append, if_pos f5, List.idxOf_append, if_neg h1]
          have := List.idxOf_lt_length_of_mem f5
          omega
        exact h
      have q0 : ((hole : Int) != 0) = true := by simp; omega
      have q1 : (hole : Int) < (N : Int) := by have := hN.out; omega
      have q2 : ((frm hole : Nat) : Int) < (N : Int) := by have := hN.out; omega
      clear HA HT HB hF1 hP1 S1 S1' f2 f3 f4 f5 HH HM
      replace f1 := Lib.hid f1
      generalize frm hole = p at *
      generalize hs p = x at *
      go_wp2_with (fail)
      refine wp_region_any (by kernel_rfl) ?_
      change wpAny _ _ _ _ _ _ _ (World.drew _)
      refine wpAny_T (i := 0) (op := Op.move (Operand.tmp 0)) (t := 103) (d := some 14) (v := ?_) rfl (by decide +kernel) (by decide +kernel) (by decide +kernel) (fun _ _ _ h => h) ?_ ?_
      case refine_2 => (intro _; unfold exec2; go_simp; try with_reducible rfl)
      try simp only [Act.put, List.setIfInBounds_toArray, List.set_cons_zero, List.set_cons_succ]
      refine wpAny_T (i := 1) (op := Op.nilCheck (Operand.tmp 14)) (t := 0) (d := some 15) (v := ?_) rfl (by decide +kernel) (by decide +kernel) (by decide +kernel) (fun _ _ _ h => h) ?_ ?_
      case refine_2 => (intro _; unfold exec2; go_simp; try with_reducible rfl)
      try simp only [Act.put, List.setIfInBounds_toArray, List.set_cons_zero, List.set_cons_succ]
      refine wpAny_T (i := 2) (op := Op.fieldAddr 105 (Operand.tmp 15) 3) (t := 0) (d := some 16) (v := ?_) rfl (by decide +kernel) (by decide +kernel) (by decide +kernel) (fun _ _ _ h => h) ?_ ?_
      case refine_2 => (intro _; unfold exec2; go_simp; try with_reducible rfl)
      try simp only [Act.put, List.setIfInBounds_toArray, List.set_cons_zero, List.set_cons_succ]
      refine wpAny_T (i := 4) (op := Op.move (Operand.tmp 1)) (t := 3) (d := some 18) (v := ?_) rfl (by decide +kernel) (by decide +kernel) (by decide +kernel) (fun _ _ _ h => h) ?_ ?_
      case refine_2 => (intro _; unfold exec2; go_simp; try with_reducible rfl)
      try simp only [Act.put, List.setIfInBounds_toArray, List.set_cons_zero, List.set_cons_succ]
      refine wpAny_T (i := 5) (op := Op.move (Operand.tmp 0)) (t := 103) (d := some 19) (v := ?_) rfl (by decide +kernel) (by decide +kernel) (by decide +kernel) (fun _ _ _ h => h) ?_ ?_
      case refine_2 => (intro _; unfold exec2; go_simp; try with_reducible rfl)
      try simp only [Act.put, List.setIfInBounds_toArray, List.set_cons_zero, List.set_cons_succ]
      refine wpAny_T (i := 6) (op := Op.nilCheck (Operand.tmp 19)) (t := 0) (d := some 20) (v := ?_) rfl (by decide +kernel) (by decide +kernel) (by decide +kernel) (fun _ _ _ h => h) ?_ ?_
      case refine_2 => (intro _; unfold exec2; go_simp; try with_reducible rfl)
      try simp only [Act.put, List.setIfInBounds_toArray, List.set_cons_zero, List.set_cons_succ]
      refine wpAny_T (i := 7) (op := Op.fieldAddr 105 (Operand.tmp 20) 3) (t := 0) (d := some 21) (v := ?_) rfl (by decide +kernel) (by decide +kernel) (by decide +kernel) (fun _ _ _ h => h) ?_ ?_
      case refine_2 => (intro _; unfold exec2; go_simp; try with_reducible rfl)
      try simp only [Act.put, List.setIfInBounds_toArray, List.set_cons_zero, List.set_cons_succ]
      refine wpAny_T (i := 9) (op := Op.move (Operand.tmp 4)) (t := 3) (d := some 23) (v := ?_) rfl (by decide +kernel) (by decide +kernel) (by decide +kernel) (fun _ _ _ h => h) ?_ ?_
      case refine_2 => (intro _; unfold exec2; go_simp; try with_reducible rfl)
      try simp only [Act.put, List.setIfInBounds_toArray, List.set_cons_zero, List.set_cons_succ]
      refine wpAny_reads (n := 2) [(3, some 17), (8, some 22), (10, some 24), (11, some 25)] (fun | 3 => .slice (some ⟨gh, 0, none⟩) N N | 8 => .slice (some ⟨gh, 0, none⟩) N N | 10 => .pointer (some ⟨gh, p, none⟩) | 11 => .int .i64 x | _ => undef) #[true, true, true, true, true, true, true, true, true, true, true, true, false, false] (by decide +kernel) ?_ ?_
      · intro pS hpm uS hD K hK
        simp only [List.mem_cons, List.not_mem_nil, or_false] at hpm
        rcases hpm with rfl | rfl | rfl | rfl
        · exact op_ld (T := 22) (x := Operand.tmp 16) (t := 22) (d := some 17) rfl (.pointer (some ⟨gp, 3, none⟩)) (by kernel_rfl) (.slice (some ⟨gh, 0, none⟩) N N) (by go_simp) hK
        · exact op_ld (T := 22) (x := Operand.tmp 21) (t := 22) (d := some 22) rfl (.pointer (some ⟨gp, 3, none⟩)) (by kernel_rfl) (.slice (some ⟨gh, 0, none⟩) N N) (by go_simp) hK
        · exact op_ix (T := 22) (x := Operand.tmp 22) (y := Operand.tmp 23) (t := 0) (d := some 24) rfl (.slice (some ⟨gh, 0, none⟩) N N) (.int .i64 p) (Eq.trans (b := uS 8) (by kernel_rfl) (hD 8 (depIn (by kernel_rfl)))) (by kernel_rfl) (.pointer (some ⟨gh, p, none⟩)) (by go_simp) hK
        · exact op_ld (T := 3) (x := Operand.tmp 24) (t := 3) (d := some 25) rfl (.pointer (some ⟨gh, p, none⟩)) (Eq.trans (b := uS 10) (by kernel_rfl) (hD 10 (depIn (by kernel_rfl)))) (.int .i64 x) (by go_simp) hK
      simp only [putAll, Act.put, List.setIfInBounds_toArray, List.set_cons_zero, List.set_cons_succ]
      refine wpAny_T (i := 12) (op := Op.indexAddr 22 (Operand.tmp 17) (Operand.tmp 18)) (t := 0) (d := some 26) (v := ?_) rfl (by decide +kernel) (by decide +kernel) (by decide +kernel) (fun _ _ _ h => h) ?_ ?_
      case refine_2 => (intro _; unfold exec2; go_simp; try with_reducible rfl)
      try simp only [Act.put, List.setIfInBounds_toArray, List.set_cons_zero, List.set_cons_succ]
      refine wpAny_next 13 (by decide +kernel) (op_st rfl (.pointer (some ⟨gh, hole, none⟩)) (.int .i64 x) (by kernel_rfl) (by kernel_rfl) (by go_simp; rfl) ?_)
      refine wpAny_done (by kernel_rfl) ?_ _
      clear kf kh kh0 fh p3 p4
      generalize wo.setCell ⟨gh, hole, none⟩ (.int .i64 x) = w4 at *
      go_wp2_with (fail)
      go_roundw
      case rel => exact ⟨p, _, rfl, f1.out, ⟨FIN.out.1.ext ((Ext.rf _).drew), FIN.out.2.1, FIN.out.2.2⟩, MM.out.drew⟩
      case measure => exact ML.out
end Go.Proofs.YtleckhbmciiooaaDoor
namespace Go.Proofs.YtleckhbmciiooaaDoor
open Go.RowKit Go.ChangeShapes Go.WideShapes Go.ChangeAt Go.Deep

def cstR (rows : List (List Int)) (i c : Nat) : Int := costAt rows (i - 1) (c - 1)
abbrev farV : Int := 1152921504606846976
/-- all rows of a growing way -/
structure GrowS (w wr : World) (gu gv gh gf gl gs N : Nat) (has : Nat → Nat) (u v least : Nat → Int) (frm : Nat → Nat) (S : Nat → Bool) : Prop where
  u : Arr wr gu N u
  v : Arr wr gv N v
  h : Arr wr gh N fun c => (has c : Int)
  f : Arr wr gf N fun c => (frm c : Int)
  l : Arr wr gl N least
  s : ArrB wr gs N S
  m : Mod (PS gu gv gh gf) w wr
def ApartH (w : World) (gu gv gh gf gl gs : Nat) : Prop := [gu, gv, gh, gf, gl, gs].Nodup ∧ w.heap.size ≤ gl ∧ w.heap.size ≤ gs
section
variable {w wr w' : World} {gu gv gh gf gl gs N : Nat} {has : Nat → Nat} {u v least : Nat → Int} {frm : Nat → Nat} {S : Nat → Bool}
theorem GrowS.ext (h : GrowS w wr gu gv gh gf gl gs N has u v least frm S) (x : Ext wr w') : GrowS w w' gu gv gh gf gl gs N has u v least frm S :=
  ⟨h.u.ext x, h.v.ext x, h.h.ext x, h.f.ext x, h.l.ext x, h.s.ext x, h.m.ext x⟩
theorem ApartH.ne (h : ApartH w gu gv gh gf gl gs) : (gu ≠ gv ∧ gu ≠ gh ∧ gu ≠ gf ∧ gu ≠ gl ∧ gu ≠ gs) ∧ (gv ≠ gh ∧ gv ≠ gf ∧ gv ≠ gl ∧ gv ≠ gs) ∧ (gh ≠ gf ∧ gh ≠ gl ∧ gh ≠ gs) ∧ (gf ≠ gl ∧ gf ≠ gs) ∧ gl ≠ gs := by
  have := h.1
  simp only [List.nodup_cons, List.mem_cons, List.not_mem_nil, or_false, not_or] at this
  obtain ⟨⟨a1, a2, a3, a4, a5⟩, ⟨b1, b2, b3, b4⟩, ⟨c1, c2, c3⟩, ⟨d1, d2⟩, e1, -⟩ := this
  exact ⟨⟨a1, a2, a3, a4, a5⟩, ⟨b1, b2, b3, b4⟩, ⟨c1, c2, c3⟩, ⟨d1, d2⟩, e1⟩
theorem GrowS.setU (h : GrowS w wr gu gv gh gf gl gs N has u v least frm S) (d : ApartH w gu gv gh gf gl gs) (k : Nat) (x : Int) : GrowS w (wr.setCell ⟨gu, k, none⟩ (.int .i64 x)) gu gv gh gf gl gs N has (fun i => if i = k then x else u i) v least frm S := by
  obtain ⟨⟨a1, a2, a3, a4, a5⟩, ⟨b1, b2, b3, b4⟩, ⟨c1, c2, c3⟩, ⟨d1, d2⟩, e1⟩ := d.ne
  exact ⟨h.u.set k x, h.v.far a1.symm _, h.h.far a2.symm _, h.f.far a3.symm _, h.l.far a4.symm _, h.s.far a5.symm _, h.m.set (p := ⟨gu, k, none⟩) (.inl (.inl rfl)) _⟩
theorem GrowS.setV (h : GrowS w wr gu gv gh gf gl gs N has u v least frm S) (d : ApartH w gu gv gh gf gl gs) (k : Nat) (x : Int) : GrowS w (wr.setCell ⟨gv, k, none⟩ (.int .i64 x)) gu gv gh gf gl gs N has u (fun i => if i = k then x else v i) least frm S := by
  obtain ⟨⟨a1, a2, a3, a4, a5⟩, ⟨b1, b2, b3, b4⟩, ⟨c1, c2, c3⟩, ⟨d1, d2⟩, e1⟩ := d.ne
  exact ⟨h.u.far a1 _, h.v.set k x, h.h.far b1.symm _, h.f.far b2.symm _, h.l.far b3.symm _, h.s.far b4.symm _, h.m.set (p := ⟨gv, k, none⟩) (.inl (.inr (.inl rfl))) _⟩
theorem GrowS.setF (h : GrowS w wr gu gv gh gf gl gs N has u v least frm S) (d : ApartH w gu gv gh gf gl gs) (k : Nat) (x : Nat) : GrowS w (wr.setCell ⟨gf, k, none⟩ (.int .i64 x)) gu gv gh gf gl gs N has u v least (fun i => if i = k then x else frm i) S := by
  obtain ⟨⟨a1, a2, a3, a4, a5⟩, ⟨b1, b2, b3, b4⟩, ⟨c1, c2, c3⟩, ⟨d1, d2⟩, e1⟩ := d.ne
  exact ⟨h.u.far a3 _, h.v.far b2 _, h.h.far c1 _, (h.f.set k x).congr fun i _ => by split <;> rfl, h.l.far d1.symm _, h.s.far d2.symm _, h.m.set (p := ⟨gf, k, none⟩) (.inl (.inr (.inr (.inr rfl)))) _⟩
theorem GrowS.setL (h : GrowS w wr gu gv gh gf gl gs N has u v least frm S) (d : ApartH w gu gv gh gf gl gs) (k : Nat) (x : Int) : GrowS w (wr.setCell ⟨gl, k, none⟩ (.int .i64 x)) gu gv gh gf gl gs N has u v (fun i => if i = k then x else least i) frm S := by
  obtain ⟨⟨a1, a2, a3, a4, a5⟩, ⟨b1, b2, b3, b4⟩, ⟨c1, c2, c3⟩, ⟨d1, d2⟩, e1⟩ := d.ne
  exact ⟨h.u.far a4 _, h.v.far b3 _, h.h.far c2 _, h.f.far d1 _, h.l.set k x, h.s.far e1.symm _, h.m.set (p := ⟨gl, k, none⟩) (.inr d.2.1) _⟩
theorem GrowS.setS (h : GrowS w wr gu gv gh gf gl gs N has u v least frm S) (d : ApartH w gu gv gh gf gl gs) (k : Nat) (x : Bool) : GrowS w (wr.setCell ⟨gs, k, none⟩ (.bool x)) gu gv gh gf gl gs N has u v least frm (fun i => if i = k then x else S i) := by
  obtain ⟨⟨a1, a2, a3, a4, a5⟩, ⟨b1, b2, b3, b4⟩, ⟨c1, c2, c3⟩, ⟨d1, d2⟩, e1⟩ := d.ne
  exact ⟨h.u.far a5 _, h.v.far b4 _, h.h.far c3 _, h.f.far d2 _, h.l.far e1 _, h.s.set k x, h.m.set (p := ⟨gs, k, none⟩) (.inr d.2.2) _⟩
theorem GrowS.congL {l2 : Nat → Int} (h : GrowS w wr gu gv gh gf gl gs N has u v least frm S) (e : ∀ i, i < N → least i = l2 i) : GrowS w wr gu gv gh gf gl gs N has u v l2 frm S :=
  ⟨h.u, h.v, h.h, h.f, h.l.congr e, h.s, h.m⟩
end
/-- what a way that has grown is -/
def GrowPost (n N R gu gv gh gf : Nat) (cst : Nat → Nat → Int) (w : World) (e : Ending) (w' : World) : Prop :=
  ∃ (a : Nat) (L : List Nat) (u v least : Nat → Int) (has frm : Nat → Nat), e = .returned (.int .i64 a) ∧ has a = 0 ∧ Arr w' gu N u ∧ Arr w' gv N v ∧ Arr w' gh N (fun c => (has c : Int)) ∧ Arr w' gf N (fun c => (frm c : Int)) ∧ GI n cst farV R has L a u v least frm ∧ HasOk n R has ∧ Mod (PS gu gv gh gf) w w'
theorem near_bd {n R : Nat} {cst : Nat → Nat → Int} {has frm frm' : Nat → Nat} {L : List Nat} {a : Nat} {u v least least' : Nat → Int} {c : Nat} (h : GI n cst farV R has L a u v least frm) (ho : HasOk n R has) (hRn : R ≤ n) (ha : has a ≠ 0)
    (num : ∀ i c, 1 ≤ i → i ≤ n → 1 ≤ c → c ≤ n → 0 ≤ cst i c ∧ cst i c ≤ 2147483647) (bu : ∀ i, 1 ≤ i → i ≤ n → 0 ≤ u i ∧ u i ≤ 2147483647) (bv : ∀ c, 1 ≤ c → c ≤ n → -2147483647 ≤ v c ∧ v c ≤ 0) (c1 : 1 ≤ c) (c2 : c ≤ n) (hc : c ∉ L ++ [a])
    (k1 : (cst (has a) c - u (has a) - v c < least c ∧ least' c = cst (has a) c - u (has a) - v c ∧ frm' c = a) ∨ (least c ≤ cst (has a) c - u (has a) - v c ∧ least' c = least c ∧ frm' c = frm c)) : 0 ≤ least' c ∧ least' c ≤ 4294967294 := by
  have la := h.le a (by simp)
  have h1 := ho.le a la
  have s1 := h.slack (has a) c (by omega) (by omega) c1 c2
  have b1 := num (has a) c (by omega) (by omega) c1 c2
  have b2 := bu (has a) (by omega) (by omega)
  have b3 := bv c c1 c2
  rcases k1 with ⟨_, e, _⟩ | ⟨k, e, _⟩
  · omega
  · by_cases hL : L = []
    · have := h.far0 hL c c1 c2
      have e2 : farV = 1152921504606846976 := rfl
      omega
    · have hcL : c ∉ L := fun hm => hc (List.mem_append_left _ hm)
      obtain ⟨m1, m2⟩ := h.least2 hL c c1 c2 hcL
      have l2 := h.le (frm c) (List.mem_append_left _ m1)
      have h2 := ho.le (frm c) l2
      have h3 := h.seen _ m1
      have s2 := h.slack (has (frm c)) c (by omega) (by omega) c1 c2
      omega
end Go.Proofs.YtleckhbmciiooaaDoor
