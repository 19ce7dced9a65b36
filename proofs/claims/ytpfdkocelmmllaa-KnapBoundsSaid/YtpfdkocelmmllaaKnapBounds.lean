/-
  KnapBounds: of all problems and beginnings Bound is what the chapter says; what is done to the problem since is nothing.
-/
import Derived.Test.YtpfdkocelmmllaaKnapI
import Derived.Test.YtpfdkocelmmllaaRefKD
import Derived.Test.YtpfdkocelmmllaaThere
import Derived.Test.YtpfdkocelmmllaaRows
import Derived.Test.YtpfdkocelmmllaaChecked
namespace Go.Proofs.Ytpfdkocelmmllaa.knapBounds
open Go.RowKit Go.ChangeShapes Go.WideShapes Go.ChangeAt Go.Deep

set_option maxRecDepth 100000 in
theorem cut11_any (A : Option Addr) (c : Nat) (xs : List Int) (w : World) (hx : RdI w A xs) (ix : Ints xs) (lx : xs.length ≤ c) (lc : c ≤ maxLen) :
    Calls Try.prog 14 #[.slice A xs.length c] w (CutPost xs 70 w) := by
  unfold maxLen at lc
  obtain ⟨ps, hp, ip, lp, lp', kp, ep⟩ := cut_min 70 hx ix
  simp only [Int.cast_ofNat_Int] at ep
  have lpd : ps.length ≤ c := by omega
  replace hp := Lib.hid hp
  clear hx ix
  go_enter Try.func14, Try.ntmps14
  go_wp2_with (at_builtin; refine wpl_copy_i _ rfl _ _ rfl w.heap.size _ ps A c rfl rfl ?_ ?_ ?_ ?_ ?_; (first | exact .new (by simp) | exact .drew (.new (by simp)) | exact .alloc (.new (by simp)) _ | exact .drew (.alloc (.new (by simp)) _) | exact .alloc (.alloc (.new (by simp)) _) _ | exact .drew (.alloc (.alloc (.new (by simp)) _) _) | (repeat (first | assumption | (refine Blk.new ?_; (focus (simp; done))) | apply Blk.drew | apply Blk.drewN | apply Blk.alloc))); (first | exact Nat.le_refl _ | omega | (focus (simp; try omega))); (refine hp.out.ext ?_; (repeat (first | assumption | exact Ext.rf _ | apply Ext.drew | apply Ext.drewN | apply Ext.alloc))); omega; rintro A7 c7 w7 o7 x7; have y7 := Ext.tr (a := w) (by (repeat (first | assumption | exact Ext.rf _ | apply Ext.drew | apply Ext.drewN | apply Ext.alloc))) x7)
  have kq := kp.out
  exact bodyPost_ret (v := .slice A7 ps.length c7) (by simp [results, Try.results14, go_sem]) rfl ⟨A7, c7, by rw [← kq], by rw [← kq]; exact o7, y7⟩
/-- the same, told by another list's name -/
def CutTo (ys : List Int) (w : World) (e : Ending) (w' : World) : Prop := ∃ A c, e = .returned (.slice A ys.length c) ∧ OwI w' w.heap.size A c ys ∧ Ext w w'
theorem cut_to {xs ys : List Int} (h : ys = xs.take 70) (A : Option Addr) (c : Nat) (w : World) (hx : RdI w A xs) (ix : Ints xs) (lx : xs.length ≤ c) (lc : c ≤ maxLen) :
    Calls Try.prog 14 #[.slice A xs.length c] w (CutTo ys w) := by subst h; exact cut11_any A c xs w hx ix lx lc
set_option maxRecDepth 100000 in
set_option maxHeartbeats 4000000 in
theorem walk_yes (i j : InstP) (hj : j = copyP i) (vs : List Value) (P : Option Addr) (pc : Nat) (xs ps : List Int) (hps : ps = xs.take 70) (w : World) (H : RInst w vs i) (hP : RdI w P xs) (ix : Ints xs) (lx : xs.length ≤ pc) (lc : pc ≤ maxLen) (hc : checkP j = 0) (hk : j.kind = 1) :
    Calls Try.prog 4 #[.agg (List.toArray vs), .slice P xs.length pc] w fun e w' => e = .returned (.bool true) ∧ Ext w w' := by
  have CP := fun (W : World) (x : Ext w W) => copy_to hj vs W (H.ext x)
  have CU := fun (W : World) (x : Ext w W) => cut_to hps P pc W (hP.ext x) ix lx lc
  have lps : ps.length ≤ 70 := by rw [hps]; exact List.length_take_le _ _
  have ips : Ints ps := by rw [hps]; exact ix.take _
  have CP2 := fun (us : List Value) (W : World) (h : RInst W us j) => copy_to (i := j) (j := j) (by rw [hj]; exact (copy_copy i).symm) us W h
  have hI : InstInts j := hj ▸ H.ints.copy
  have hn := fun (us : List Value) (W : World) (h : RInst W us j) => new_yes j us W h hc hk
  have ok := knap_ok hc hk
  have KO := kok ok
  have BO := fun (g base : Nat) (A : Option Addr) (c : Nat) (W : World) (h : KernB W base g j.cap (orderP j) (wsP j) (vsP j) (sumsL (vsP j) 0)) (hp : RdI W A ps) => bound_any A c ps W h KO rfl hp (by omega)
  have RB := fun (us : List Value) (A : Option Addr) (c : Nat) (W : World) (h : RInst W us j) (hp : RdI W A ps) => rbound_any j us A c ps W h ok hp (by omega)
  have nW : j.weight.length = j.value.length ∧ 1 ≤ j.weight.length ∧ j.weight.length ≤ 64 ∧ j.cost = [] := by have h1 := ok.w; have h2 := ok.v; have h3 := ok.n1; have h4 := ok.n2; exact ⟨by omega, by omega, by omega, ok.cost⟩
  change ∀ (us : List Value) (W : World), RInst W us j → Calls Try.prog _ _ W (fun e w' => ∃ g, e = .returned (.tuple #[.pointer (some ⟨g, 0, none⟩), .int .i64 0]) ∧ KernB w' W.heap.size g j.cap (orderP j) (wsP j) (vsP j) (sumsL (vsP j) 0) ∧ Ext W w') at hn
  generalize boundP j.cap (wsP j) (vsP j) ps = bd at *
  generalize orderP j = l at *
  generalize wsP j = ws at *
  generalize vsP j = vl at *
  clear hj hps ok KO hc hk
  obtain ⟨n, hn3⟩ : ∃ n, n = j.weight.length := ⟨_, rfl⟩
  have nB : 1 ≤ n ∧ n ≤ 64 := by omega
  have hn4 : j.value.length = n := by omega
  have lC := Lib.hid nW.2.2.2
  replace hn3 := Lib.hid hn3
  replace hn4 := Lib.hid hn4
  clear nW
  obtain ⟨A, a, B, b, C, c, rfl, -, -, -⟩ := H
  have B1 : Hid (Blk (w.alloc (.cells #[.int .i64 i.kind, .int .i64 i.n, .int .i64 i.cap, .slice A i.weight.length a, .slice B i.value.length b, .slice C i.cost.length c] 25)) w.heap.size 25 #[.int .i64 i.kind, .int .i64 i.n, .int .i64 i.cap, .slice A i.weight.length a, .slice B i.value.length b, .slice C i.cost.length c]) := .new rfl
  replace CP := Lib.hid CP
  replace CU := Lib.hid CU
  replace CP2 := Lib.hid CP2
  replace hn := Lib.hid hn
  replace BO := Lib.hid BO
  replace RB := Lib.hid RB
  replace hP := Lib.hid hP
  replace ix := Lib.hid ix
  replace ips := Lib.hid ips
  replace lc := Lib.hid lc
  go_enter Try.func4, Try.ntmps4
  go_wp2_with (fail)
  refine (CP.out _ (by (repeat (first | assumption | exact Ext.rf _ | apply Ext.drew | apply Ext.drewN | apply Ext.alloc)))).mono ?_
  rintro e w1 ⟨us, rfl, O1, x1⟩
  obtain ⟨A3, d3, A4, d4, A5, d5, rfl, oW, oV⟩ := O1.parts
  rw [← hn3.out] at O1 ⊢
  rw [hn4.out] at O1 ⊢
  have tW := oW.there (by have := hn3.out; omega)
  have tV := oV.there (by have := hn4.out; omega)
  rw [← hn3.out] at tW
  rw [hn4.out] at tV
  have sW : ∀ k, (bl A3 = some k ∨ bl A4 = some k) → w.heap.size + 1 ≤ k ∧ k < w1.heap.size := fun k h => by
    rcases h with h | h
    · simpa using oW.lt k h
    · simpa using oV.lt k h
  clear oW oV
  have X1 := Lib.hid (Ext.tr (a := w) (by (repeat (first | assumption | exact Ext.rf _ | apply Ext.drew | apply Ext.drewN | apply Ext.alloc))) x1)
  have B1' := Lib.hid (B1.out.ext x1)
  replace O1 := Lib.hid O1
  clear x1
  go_wp2_with (fail)
  refine (CU.out _ X1.out).mono ?_
  rintro e w2 ⟨Q, qc, rfl, oQ, x2⟩
  have X2 := Ext.tr X1.out x2
  have B2 := B1'.out.ext x2
  have O2 := O1.out.ext x2
  obtain ⟨X3, B3, O3⟩ := put_copy B2 X2 O2
  have t0 : w2.cell? ⟨w.heap.size, 0, none⟩ = some (.int .i64 i.kind) := B2.cell 0
  have t1 : w2.cell? ⟨w.heap.size, 1, none⟩ = some (.int .i64 i.n) := B2.cell 1
  have t2 : w2.cell? ⟨w.heap.size, 2, none⟩ = some (.int .i64 i.cap) := B2.cell 2
  have t3 : w2.cell? ⟨w.heap.size, 3, none⟩ = some (.slice A i.weight.length a) := B2.cell 3
  have t4 : w2.cell? ⟨w.heap.size, 4, none⟩ = some (.slice B i.value.length b) := B2.cell 4
  have t5 : w2.cell? ⟨w.heap.size, 5, none⟩ = some (.slice C i.cost.length c) := B2.cell 5
  have f0 := B2.free 0
  have f1 := B2.free 1
  have f2 := B2.free 2
  have f3 := B2.free 3
  have f4 := B2.free 4
  have f5 := B2.free 5
  have M3 := (set6 B2 (base := w.heap.size) (Nat.le_refl _) (.int .i64 j.kind) (.int .i64 j.n) (.int .i64 j.cap) (.slice A3 n d3) (.slice A4 n d4) (.slice A5 j.cost.length d5)).2
  have Q3 := Lib.hid (oQ.modT M3 (by decide))
  have tW3 := tW.ext x2
  have tV3 := tV.ext x2
  have z12 := x2.size
  clear tW tV
  replace tW3 := ((((((tW3.set w.heap.size 0 (.int .i64 j.kind)).set w.heap.size 1 (.int .i64 j.n)).set w.heap.size 2 (.int .i64 j.cap)).set w.heap.size 3 (.slice A3 n d3)).set w.heap.size 4 (.slice A4 n d4)).set w.heap.size 5 (.slice A5 j.cost.length d5))
  replace tV3 := ((((((tV3.set w.heap.size 0 (.int .i64 j.kind)).set w.heap.size 1 (.int .i64 j.n)).set w.heap.size 2 (.int .i64 j.cap)).set w.heap.size 3 (.slice A3 n d3)).set w.heap.size 4 (.slice A4 n d4)).set w.heap.size 5 (.slice A5 j.cost.length d5))
  have sz : w2.heap.size = ((((((w2.setCell ⟨w.heap.size, 0, none⟩ (.int .i64 j.kind)).setCell ⟨w.heap.size, 1, none⟩ (.int .i64 j.n)).setCell ⟨w.heap.size, 2, none⟩ (.int .i64 j.cap)).setCell ⟨w.heap.size, 3, none⟩ (.slice A3 n d3)).setCell ⟨w.heap.size, 4, none⟩ (.slice A4 n d4)).setCell ⟨w.heap.size, 5, none⟩ (.slice A5 j.cost.length d5)).heap.size := by simp [World.setCell]
  have FIN := Lib.hid (And.intro X3 (And.intro B3 (And.intro O3 (And.intro Q3 (And.intro tW3 (And.intro tV3 sz))))))
  replace X2 := Lib.hid X2
  replace B2 := Lib.hid B2
  clear O2 x2 M3 oQ O1 B1' B1 X3 B3 O3 Q3 tW3 tV3 sz
  go_upto_region 2 with (fail)
  generalize ((((((w2.setCell ⟨w.heap.size, 0, none⟩ (.int .i64 j.kind)).setCell ⟨w.heap.size, 1, none⟩ (.int .i64 j.n)).setCell ⟨w.heap.size, 2, none⟩ (.int .i64 j.cap)).setCell ⟨w.heap.size, 3, none⟩ (.slice A3 n d3)).setCell ⟨w.heap.size, 4, none⟩ (.slice A4 n d4)).setCell ⟨w.heap.size, 5, none⟩ (.slice A5 j.cost.length d5)) = w3 at FIN ⊢
  obtain ⟨X3, B3, O3, Q3, tW3, tV3, sz⟩ := FIN.out
  clear FIN t0 t1 t2 t3 t4 t5 f0 f1 f2 f3 f4 f5
  have c0 : w3.cell? ⟨w.heap.size, 0, none⟩ = some (.int .i64 j.kind) := B3.cell 0
  have c1 : w3.cell? ⟨w.heap.size, 1, none⟩ = some (.int .i64 j.n) := B3.cell 1
  have c2 : w3.cell? ⟨w.heap.size, 2, none⟩ = some (.int .i64 j.cap) := B3.cell 2
  have c3 : w3.cell? ⟨w.heap.size, 3, none⟩ = some (.slice A3 n d3) := B3.cell 3
  have c4 : w3.cell? ⟨w.heap.size, 4, none⟩ = some (.slice A4 n d4) := B3.cell 4
  have c5 : w3.cell? ⟨w.heap.size, 5, none⟩ = some (.slice A5 j.cost.length d5) := B3.cell 5
  go_cut [5] (fun t5 w5 => ∃ h A6 d6 A7 d7 A8 d8, t5 = .pointer (some ⟨h, 0, none⟩) ∧ w3.heap.size ≤ h ∧ Ext w3 w5 ∧ Blk w5 h 25 #[.int .i64 j.kind, .int .i64 j.n, .int .i64 j.cap, .slice A6 n d6, .slice A7 n d7, .slice A8 j.cost.length d8] ∧ InstO w5 w3.heap.size [.int .i64 j.kind, .int .i64 j.n, .int .i64 j.cap, .slice A6 n d6, .slice A7 n d7, .slice A8 j.cost.length d8] j)
  case first =>
    go_wp2_with (fail)
    refine (CP2.out _ _ (O3.rinst hI)).mono ?_
    rintro e w4 ⟨us2, rfl, O4, x4⟩
    obtain ⟨A6, d6, A7, d7, A8, d8, rfl, -, -⟩ := O4.parts
    rw [← hn3.out, hn4.out] at O4 ⊢
    have xa : Ext w4 (w4.alloc (.cells #[.int .i64 j.kind, .int .i64 j.n, .int .i64 j.cap, .slice A6 n d6, .slice A7 n d7, .slice A8 j.cost.length d8] 25)) := (Ext.rf w4).alloc _
    have b5 : Blk (w4.alloc (.cells #[.int .i64 j.kind, .int .i64 j.n, .int .i64 j.cap, .slice A6 n d6, .slice A7 n d7, .slice A8 j.cost.length d8] 25)) w4.heap.size 25 #[.int .i64 j.kind, .int .i64 j.n, .int .i64 j.cap, .slice A6 n d6, .slice A7 n d7, .slice A8 j.cost.length d8] := .new rfl
    have z34 := x4.size
    have FIN := Lib.hid (And.intro (x4.tr xa) (And.intro b5 (O4.ext xa)))
    clear X3 B3 O3 Q3 tW3 tV3 xa b5 O4 x4
    go_wp2_with (fail)
    go_meet
    exact ⟨_, _, _, _, _, _, _, rfl, z34, FIN.out⟩
  case rest =>
  obtain ⟨h, A6, d6, A7, d7, A8, d8, rfl, zh, x35, W5, P5⟩ := hcut
  obtain ⟨w5, rfl⟩ : ∃ w5 : World, w5 = wc := ⟨_, rfl⟩
  have X5 := X3.tr x35
  have B5 := B3.ext x35
  have O5 := O3.ext x35
  have Q5 := Q3.ext x35
  have tW5 := tW3.ext x35
  have tV5 := tV3.ext x35
  have z35 := x35.size
  clear X3 B3 O3 Q3 tW3 tV3 x35 c0 c1 c2 c3 c4 c5
  have c0 : w5.cell? ⟨w.heap.size, 0, none⟩ = some (.int .i64 j.kind) := B5.cell 0
  have c1 : w5.cell? ⟨w.heap.size, 1, none⟩ = some (.int .i64 j.n) := B5.cell 1
  have c2 : w5.cell? ⟨w.heap.size, 2, none⟩ = some (.int .i64 j.cap) := B5.cell 2
  have c3 : w5.cell? ⟨w.heap.size, 3, none⟩ = some (.slice A3 n d3) := B5.cell 3
  have c4 : w5.cell? ⟨w.heap.size, 4, none⟩ = some (.slice A4 n d4) := B5.cell 4
  have c5 : w5.cell? ⟨w.heap.size, 5, none⟩ = some (.slice A5 j.cost.length d5) := B5.cell 5
  go_wp2_with (fail)
  clear c0 c1 c2 c3 c4 c5
  refine (hn.out _ _ (O5.rinst hI)).mono ?_
  rintro e w6 ⟨g, rfl, K6, x6⟩
  clear O5
  replace X5 := Lib.hid (X5.tr x6)
  replace B5 := Lib.hid (B5.ext x6)
  replace Q5 := Lib.hid (Q5.ext x6)
  replace tW5 := Lib.hid (tW5.ext x6)
  replace tV5 := Lib.hid (tV5.ext x6)
  replace W5 := Lib.hid (W5.ext x6)
  replace P5 := Lib.hid (P5.ext x6)
  have z56 := x6.size
  replace K6 := Lib.hid K6
  clear x6
  go_wp2_with (fail)
  refine (knaps_any _).mono ?_
  rintro e w7 ⟨rfl, x7⟩
  have X7 := Lib.hid (X5.out.tr x7)
  have B7 := Lib.hid (B5.out.ext x7)
  have Q7 := Lib.hid (Q5.out.ext x7)
  have W7 := Lib.hid (W5.out.ext x7)
  have P7 := Lib.hid (P5.out.ext x7)
  have K7 := Lib.hid (K6.out.ext x7)
  have tW7 := Lib.hid (tW5.out.ext x7)
  have tV7 := Lib.hid (tV5.out.ext x7)
  have z67 := x7.size
  clear X5 B5 Q5 W5 P5 K6 tW5 tV5 x7
  go_wp2_with (fail)
  have noS : ∀ k, (bl A3 = some k ∨ bl A4 = some k) → w.heap.size + 1 ≤ k ∧ k < w1.heap.size ∧ k < w3.heap.size ∧ k < w5.heap.size := fun k h => by have := sW k h; omega
  clear sW
  go_loopw [8] (fun v wq => ∃ k : Nat, v = .int .i64 k ∧ k ≤ n ∧ Hid (There wq A3 n) ∧ Hid (There wq A4 n) ∧ Hid (Mod (fun k => bl A3 = some k ∨ bl A4 = some k) w7 wq)) (fun v _ => 64 - (intOf v).toNat)
  case atStart => exact ⟨0, rfl, by omega, tW7, tV7, Mod.rf _⟩
  case round =>
    obtain ⟨wo, rfl⟩ : ∃ wo : World, wo = wr := ⟨_, rfl⟩
    obtain ⟨k, rfl, hk, tW, tV, M⟩ := hrel
    have Bo := B7.out.mod M.out (fun h => by have := noS _ h; omega)
    clear tW7 tV7
    by_cases hlt : k < n
    · obtain ⟨g3, v3, hA3, q3, e3⟩ := tW.out.at hlt
      obtain ⟨g4, v4, hA4, q4, e4⟩ := tV.out.at hlt
      subst hA3
      subst hA4
      clear q3 e3 q4 e4
      have c3 : wo.cell? ⟨w.heap.size, 3, none⟩ = some (.slice (some ⟨g3, 0, none⟩) n d3) := Bo.cell 3
      go_upto_region 9 with (fail)
      refine wp_region_any (by kernel_rfl) ?_
      change wpAny _ _ _ _ _ _ _ (World.drew _)
      refine wpAny_T (i := 0) (op := Op.fieldAddr 25 (Operand.tmp 2) 3) (t := 0) (d := some 39) (v := ?_) rfl (by decide +kernel) (by decide +kernel) (by decide +kernel) (fun _ _ _ h => h) ?_ ?_
      case refine_2 => (intro _; unfold exec2; go_simp; try with_reducible rfl)
      try simp only [Act.put, List.setIfInBounds_toArray, List.set_cons_zero, List.set_cons_succ]
      refine wpAny_T (i := 2) (op := Op.move (Operand.tmp 8)) (t := 3) (d := some 41) (v := ?_) rfl (by decide +kernel) (by decide +kernel) (by decide +kernel) (fun _ _ _ h => h) ?_ ?_
      case refine_2 => (intro _; unfold exec2; go_simp; try with_reducible rfl)
      try simp only [Act.put, List.setIfInBounds_toArray, List.set_cons_zero, List.set_cons_succ]
      refine wpAny_T (i := 3) (op := Op.fieldAddr 25 (Operand.tmp 2) 4) (t := 0) (d := some 42) (v := ?_) rfl (by decide +kernel) (by decide +kernel) (by decide +kernel) (fun _ _ _ h => h) ?_ ?_
      case refine_2 => (intro _; unfold exec2; go_simp; try with_reducible rfl)
      try simp only [Act.put, List.setIfInBounds_toArray, List.set_cons_zero, List.set_cons_succ]
      refine wpAny_T (i := 5) (op := Op.move (Operand.tmp 8)) (t := 3) (d := some 44) (v := ?_) rfl (by decide +kernel) (by decide +kernel) (by decide +kernel) (fun _ _ _ h => h) ?_ ?_
      case refine_2 => (intro _; unfold exec2; go_simp; try with_reducible rfl)
      try simp only [Act.put, List.setIfInBounds_toArray, List.set_cons_zero, List.set_cons_succ]
      refine wpAny_core2 (n := 2) [(1, some 40), (4, some 43), (6, some 45), (7, none)] (fun W => There W (some ⟨g3, 0, none⟩) n ∧ There W (some ⟨g4, 0, none⟩) n ∧ Mod (fun q => bl (some (⟨g3, 0, none⟩ : Addr)) = some q ∨ bl (some (⟨g4, 0, none⟩ : Addr)) = some q) w7 W)
        (VF (fun | 1 => some (.slice (some ⟨g3, 0, none⟩) n d3) | 4 => some (.slice (some ⟨g4, 0, none⟩) n d4) | 6 => some (.pointer (some ⟨g3, k, none⟩)) | _ => none) (fun _ _ _ => True))
        (fun _ _ => True) #[true, true, true, true, true, true, true, true, false, false] (by kernel_rfl) (VF.stab ?_) ?_ ?_ ⟨tW.out.ext ((Ext.rf _).drew), tV.out.ext ((Ext.rf _).drew), M.out.drew⟩
      · intro _ _ _ _ _ h _
        exact h
      · intro p hpm u w2' hRW hD K hK
        obtain ⟨R3, R4, RM⟩ := hRW
        have b2 := B7.out.mod RM (fun h => by have := noS _ h; omega)
        have r3 : w2'.cell? ⟨w.heap.size, 3, none⟩ = some (.slice (some ⟨g3, 0, none⟩) n d3) := b2.cell 3
        have r4 : w2'.cell? ⟨w.heap.size, 4, none⟩ = some (.slice (some ⟨g4, 0, none⟩) n d4) := b2.cell 4
        obtain ⟨g, v, hg, e3, e3f⟩ := R3.at hlt
        obtain rfl : g3 = g := by simpa using hg
        simp only [List.mem_cons, List.not_mem_nil, or_false] at hpm
        rcases hpm with rfl | rfl | rfl | rfl
        · exact op_ld (T := 22) rfl (.pointer (some ⟨w.heap.size, 3, none⟩)) (by kernel_rfl) (.slice (some ⟨g3, 0, none⟩) n d3) (by go_simp) (hK _ _ (VF.mk rfl) ⟨R3, R4, RM⟩ trivial)
        · exact op_ld (T := 22) rfl (.pointer (some ⟨w.heap.size, 4, none⟩)) (by kernel_rfl) (.slice (some ⟨g4, 0, none⟩) n d4) (by go_simp) (hK _ _ (VF.mk rfl) ⟨R3, R4, RM⟩ trivial)
        · have h1 := (hD 1 (depIn (by kernel_rfl))).k rfl
          exact op_ix (T := 22) rfl _ (.int .i64 (k : Int)) (Eq.trans (b := u 1) (by kernel_rfl) h1) (by kernel_rfl) (.pointer (some ⟨g3, k, none⟩)) (by go_simp) (hK _ _ (VF.mk rfl) ⟨R3, R4, RM⟩ trivial)
        · have h6 := (hD 6 (depIn (by kernel_rfl))).k rfl
          exact op_st (T := 3) rfl _ (.int .i64 1) (Eq.trans (b := u 6) (by kernel_rfl) h6) (by kernel_rfl) (by go_simp) (hK undef _ (VF.mg rfl trivial) ⟨R3.set g3 k (.int .i64 1), R4.set g3 k (.int .i64 1), RM.set (p := ⟨g3, k, none⟩) (.inl (.inl rfl)) (.int .i64 1)⟩ trivial)
      · intro u w8 hRW hV
        obtain ⟨R3, R4, RM⟩ := hRW
        have h1' := (hV (1, some 40) (by simp)).k rfl
        have h4' := (hV (4, some 43) (by simp)).k rfl
        have h6' := (hV (6, some 45) (by simp)).k rfl
        simp only [putAll, h1', h4', h6']
        obtain ⟨g, v, hg, e4, e4f⟩ := R4.at hlt
        obtain rfl : g4 = g := by simpa using hg
        refine wpAny_next 8 (by kernel_rfl) (op_ix (T := 22) rfl (.slice (some ⟨g4, 0, none⟩) n d4) (.int .i64 (k : Int)) (by kernel_rfl) (by kernel_rfl) (.pointer (some ⟨g4, k, none⟩)) (by go_simp) ?_)
        try simp only [Act.put, List.setIfInBounds_toArray, List.set_cons_zero, List.set_cons_succ]
        refine wpAny_next 9 (by kernel_rfl) (op_st (T := 3) rfl (.pointer (some ⟨g4, k, none⟩)) (.int .i64 1) (by kernel_rfl) (by kernel_rfl) (by go_simp; rfl) ?_)
        refine wpAny_done (by kernel_rfl) ?_ _
        have F := Lib.hid (And.intro (R3.set g4 k (.int .i64 1)) (And.intro (R4.set g4 k (.int .i64 1)) (RM.set (p := ⟨g4, k, none⟩) (.inl (.inr rfl)) (.int .i64 1))))
        clear e4 e4f R3 R4 RM Bo c3
        generalize w8.setCell ⟨g4, k, none⟩ (.int .i64 1) = w9 at F ⊢
        go_simp
        go_wp2_with (fail)
        go_roundw
        case rel => exact ⟨k + 1, by go_num, by omega, F.out.1, F.out.2.1, F.out.2.2⟩
        case measure => simp [intOf]; omega
    · have c3 : wo.cell? ⟨w.heap.size, 3, none⟩ = some (.slice A3 n d3) := Bo.cell 3
      go_wp2_with (fail)
      go_loopw [9] (fun v wq => v = .int .i64 0 ∧ Hid (Mod (fun k => bl A3 = some k ∨ bl A4 = some k) w7 wq)) (fun _ _ => 0)
      case atStart => exact ⟨rfl, M⟩
      case round =>
        obtain ⟨w8, rfl⟩ : ∃ w8 : World, w8 = wr := ⟨_, rfl⟩
        clear M tW tV Bo c3
        obtain ⟨rfl, M⟩ := hrel
        have B8 := B7.out.mod M.out (fun h => by have := noS _ h; omega)
        have c5 : w8.cell? ⟨w.heap.size, 5, none⟩ = some (.slice A5 0 d5) := by
          have h := B8.cell 5
          rw [lC.out] at h
          exact h
        have K8 := K7.out.mod M.out (fun k hk h => by have := noS _ h; omega)
        have Q8 := (Q7.out.mod M.out (fun k hk h => by have := noS _ h; have := (Q7.out.lt k hk).1; omega)).read
        have W8 := W7.out.mod M.out (fun h => by have := noS _ h; omega)
        have P8 := P7.out.mod M.out (fun k hk h => by have := noS _ h; omega)
        have X8 : Ext w w8 := Below.trans X7.out (M.out.below X7.out.size (fun k hk h => by have := noS _ h; omega))
        replace K8 := Lib.hid K8
        replace Q8 := Lib.hid Q8
        replace W8 := Lib.hid W8
        replace P8 := Lib.hid P8
        replace X8 := Lib.hid X8
        replace B8 := Lib.hid B8
        clear M
        go_wp2_with (fail)
        refine (BO.out g _ Q qc _ K8.out Q8.out).mono ?_
        rintro e w9 ⟨rfl, x9⟩
        have W9 := W8.out.ext x9
        have v0 : w9.cell? ⟨h, 0, none⟩ = some (.int .i64 j.kind) := W9.cell 0
        have v1 : w9.cell? ⟨h, 1, none⟩ = some (.int .i64 j.n) := W9.cell 1
        have v2 : w9.cell? ⟨h, 2, none⟩ = some (.int .i64 j.cap) := W9.cell 2
        have v3 : w9.cell? ⟨h, 3, none⟩ = some (.slice A6 n d6) := W9.cell 3
        have v4 : w9.cell? ⟨h, 4, none⟩ = some (.slice A7 n d7) := W9.cell 4
        have v5 : w9.cell? ⟨h, 5, none⟩ = some (.slice A8 j.cost.length d8) := W9.cell 5
        replace W9 := Lib.hid W9
        have Q9 := Lib.hid (Q8.out.ext x9)
        have P9 := Lib.hid (P8.out.ext x9)
        have X9 := Lib.hid (X8.out.tr x9)
        clear x9 c5
        unfold BoundVal
        go_wp2_with (fail)
        refine (RB.out _ Q qc _ (P9.out.rinst hI) Q9.out).mono ?_
        rintro e wa ⟨rfl, xa⟩
        have Xa := Lib.hid (X9.out.tr xa)
        clear xa v0 v1 v2 v3 v4 v5
        unfold BoundVal
        go_wp2_with (fail)
        go_ret
        exact ⟨rfl, Xa.out⟩
set_option maxRecDepth 100000 in
set_option maxHeartbeats 4000000 in
theorem walk_no (i j : InstP) (hj : j = copyP i) (vs : List Value) (P : Option Addr) (pc : Nat) (xs ps : List Int) (hps : ps = xs.take 70) (w : World) (H : RInst w vs i) (hP : RdI w P xs) (ix : Ints xs) (lx : xs.length ≤ pc) (lc : pc ≤ maxLen) (err : Int) (he : err ≠ 0) (hn : ∀ (us : List Value) (W : World), RInst W us j → Calls Try.prog 15 #[.agg (List.toArray us)] W fun e w' => e = .returned (.tuple #[.pointer none, .int .i64 err]) ∧ Ext W w') :
    Calls Try.prog 4 #[.agg (List.toArray vs), .slice P xs.length pc] w fun e w' => e = .returned (.bool true) ∧ Ext w w' := by
  have CP := fun (W : World) (x : Ext w W) => copy_to hj vs W (H.ext x)
  have CU := fun (W : World) (x : Ext w W) => cut_to hps P pc W (hP.ext x) ix lx lc
  have lps : ps.length ≤ 70 := by rw [hps]; exact List.length_take_le _ _
  have ips : Ints ps := by rw [hps]; exact ix.take _
  have CP2 := fun (us : List Value) (W : World) (h : RInst W us j) => copy_to (i := j) (j := j) (by rw [hj]; exact (copy_copy i).symm) us W h
  have hI : InstInts j := hj ▸ H.ints.copy
  have eb : (err != 0) = true := by simpa using he
  clear hj hps he
  obtain ⟨n, hn3⟩ : ∃ n, n = j.weight.length := ⟨_, rfl⟩
  obtain ⟨m, hn4⟩ : ∃ m, j.value.length = m := ⟨_, rfl⟩
  replace hn3 := Lib.hid hn3
  replace hn4 := Lib.hid hn4
  obtain ⟨A, a, B, b, C, c, rfl, -, -, -⟩ := H
  have B1 : Hid (Blk (w.alloc (.cells #[.int .i64 i.kind, .int .i64 i.n, .int .i64 i.cap, .slice A i.weight.length a, .slice B i.value.length b, .slice C i.cost.length c] 25)) w.heap.size 25 #[.int .i64 i.kind, .int .i64 i.n, .int .i64 i.cap, .slice A i.weight.length a, .slice B i.value.length b, .slice C i.cost.length c]) := .new rfl
  replace CP := Lib.hid CP
  replace CU := Lib.hid CU
  replace CP2 := Lib.hid CP2
  replace hn := Lib.hid hn
  replace hP := Lib.hid hP
  replace ix := Lib.hid ix
  replace ips := Lib.hid ips
  replace lc := Lib.hid lc
  go_enter Try.func4, Try.ntmps4
  go_wp2_with (fail)
  refine (CP.out _ (by (repeat (first | assumption | exact Ext.rf _ | apply Ext.drew | apply Ext.drewN | apply Ext.alloc)))).mono ?_
  rintro e w1 ⟨us, rfl, O1, x1⟩
  obtain ⟨A3, d3, A4, d4, A5, d5, rfl, oW, oV⟩ := O1.parts
  rw [← hn3.out] at O1 ⊢
  rw [hn4.out] at O1 ⊢
  clear oW oV
  have X1 := Lib.hid (Ext.tr (a := w) (by (repeat (first | assumption | exact Ext.rf _ | apply Ext.drew | apply Ext.drewN | apply Ext.alloc))) x1)
  have B1' := Lib.hid (B1.out.ext x1)
  replace O1 := Lib.hid O1
  clear x1
  go_wp2_with (fail)
  refine (CU.out _ X1.out).mono ?_
  rintro e w2 ⟨Q, qc, rfl, oQ, x2⟩
  have X2 := Ext.tr X1.out x2
  have B2 := B1'.out.ext x2
  have O2 := O1.out.ext x2
  obtain ⟨X3, B3, O3⟩ := put_copy B2 X2 O2
  have t0 : w2.cell? ⟨w.heap.size, 0, none⟩ = some (.int .i64 i.kind) := B2.cell 0
  have t1 : w2.cell? ⟨w.heap.size, 1, none⟩ = some (.int .i64 i.n) := B2.cell 1
  have t2 : w2.cell? ⟨w.heap.size, 2, none⟩ = some (.int .i64 i.cap) := B2.cell 2
  have t3 : w2.cell? ⟨w.heap.size, 3, none⟩ = some (.slice A i.weight.length a) := B2.cell 3
  have t4 : w2.cell? ⟨w.heap.size, 4, none⟩ = some (.slice B i.value.length b) := B2.cell 4
  have t5 : w2.cell? ⟨w.heap.size, 5, none⟩ = some (.slice C i.cost.length c) := B2.cell 5
  have f0 := B2.free 0
  have f1 := B2.free 1
  have f2 := B2.free 2
  have f3 := B2.free 3
  have f4 := B2.free 4
  have f5 := B2.free 5
  have M3 := (set6 B2 (base := w.heap.size) (Nat.le_refl _) (.int .i64 j.kind) (.int .i64 j.n) (.int .i64 j.cap) (.slice A3 n d3) (.slice A4 m d4) (.slice A5 j.cost.length d5)).2
  have Q3 := Lib.hid (oQ.modT M3 (by decide))
  have z12 := x2.size
  have sz : w2.heap.size = ((((((w2.setCell ⟨w.heap.size, 0, none⟩ (.int .i64 j.kind)).setCell ⟨w.heap.size, 1, none⟩ (.int .i64 j.n)).setCell ⟨w.heap.size, 2, none⟩ (.int .i64 j.cap)).setCell ⟨w.heap.size, 3, none⟩ (.slice A3 n d3)).setCell ⟨w.heap.size, 4, none⟩ (.slice A4 m d4)).setCell ⟨w.heap.size, 5, none⟩ (.slice A5 j.cost.length d5)).heap.size := by simp [World.setCell]
  have FIN := Lib.hid (And.intro X3 (And.intro B3 (And.intro O3 (And.intro Q3 sz))))
  replace X2 := Lib.hid X2
  replace B2 := Lib.hid B2
  clear O2 x2 M3 oQ O1 B1' B1 X3 B3 O3 Q3 sz
  go_upto_region 2 with (fail)
  generalize ((((((w2.setCell ⟨w.heap.size, 0, none⟩ (.int .i64 j.kind)).setCell ⟨w.heap.size, 1, none⟩ (.int .i64 j.n)).setCell ⟨w.heap.size, 2, none⟩ (.int .i64 j.cap)).setCell ⟨w.heap.size, 3, none⟩ (.slice A3 n d3)).setCell ⟨w.heap.size, 4, none⟩ (.slice A4 m d4)).setCell ⟨w.heap.size, 5, none⟩ (.slice A5 j.cost.length d5)) = w3 at FIN ⊢
  obtain ⟨X3, B3, O3, Q3, sz⟩ := FIN.out
  clear FIN t0 t1 t2 t3 t4 t5 f0 f1 f2 f3 f4 f5
  have c0 : w3.cell? ⟨w.heap.size, 0, none⟩ = some (.int .i64 j.kind) := B3.cell 0
  have c1 : w3.cell? ⟨w.heap.size, 1, none⟩ = some (.int .i64 j.n) := B3.cell 1
  have c2 : w3.cell? ⟨w.heap.size, 2, none⟩ = some (.int .i64 j.cap) := B3.cell 2
  have c3 : w3.cell? ⟨w.heap.size, 3, none⟩ = some (.slice A3 n d3) := B3.cell 3
  have c4 : w3.cell? ⟨w.heap.size, 4, none⟩ = some (.slice A4 m d4) := B3.cell 4
  have c5 : w3.cell? ⟨w.heap.size, 5, none⟩ = some (.slice A5 j.cost.length d5) := B3.cell 5
  go_cut [5] (fun t5 w5 => ∃ h A6 d6 A7 d7 A8 d8, t5 = .pointer (some ⟨h, 0, none⟩) ∧ w3.heap.size ≤ h ∧ Ext w3 w5 ∧ Blk w5 h 25 #[.int .i64 j.kind, .int .i64 j.n, .int .i64 j.cap, .slice A6 n d6, .slice A7 m d7, .slice A8 j.cost.length d8] ∧ InstO w5 w3.heap.size [.int .i64 j.kind, .int .i64 j.n, .int .i64 j.cap, .slice A6 n d6, .slice A7 m d7, .slice A8 j.cost.length d8] j)
  case first =>
    go_wp2_with (fail)
    refine (CP2.out _ _ (O3.rinst hI)).mono ?_
    rintro e w4 ⟨us2, rfl, O4, x4⟩
    obtain ⟨A6, d6, A7, d7, A8, d8, rfl, -, -⟩ := O4.parts
    rw [← hn3.out, hn4.out] at O4 ⊢
    have xa : Ext w4 (w4.alloc (.cells #[.int .i64 j.kind, .int .i64 j.n, .int .i64 j.cap, .slice A6 n d6, .slice A7 m d7, .slice A8 j.cost.length d8] 25)) := (Ext.rf w4).alloc _
    have b5 : Blk (w4.alloc (.cells #[.int .i64 j.kind, .int .i64 j.n, .int .i64 j.cap, .slice A6 n d6, .slice A7 m d7, .slice A8 j.cost.length d8] 25)) w4.heap.size 25 #[.int .i64 j.kind, .int .i64 j.n, .int .i64 j.cap, .slice A6 n d6, .slice A7 m d7, .slice A8 j.cost.length d8] := .new rfl
    have z34 := x4.size
    have FIN := Lib.hid (And.intro (x4.tr xa) (And.intro b5 (O4.ext xa)))
    clear X3 B3 O3 Q3 xa b5 O4 x4
    go_wp2_with (fail)
    go_meet
    exact ⟨_, _, _, _, _, _, _, rfl, z34, FIN.out⟩
  case rest =>
  obtain ⟨h, A6, d6, A7, d7, A8, d8, rfl, zh, x35, W5, P5⟩ := hcut
  obtain ⟨w5, rfl⟩ : ∃ w5 : World, w5 = wc := ⟨_, rfl⟩
  have X5 := X3.tr x35
  have B5 := B3.ext x35
  have O5 := O3.ext x35
  have Q5 := Q3.ext x35
  have z35 := x35.size
  clear X3 B3 O3 Q3 x35 c0 c1 c2 c3 c4 c5
  have c0 : w5.cell? ⟨w.heap.size, 0, none⟩ = some (.int .i64 j.kind) := B5.cell 0
  have c1 : w5.cell? ⟨w.heap.size, 1, none⟩ = some (.int .i64 j.n) := B5.cell 1
  have c2 : w5.cell? ⟨w.heap.size, 2, none⟩ = some (.int .i64 j.cap) := B5.cell 2
  have c3 : w5.cell? ⟨w.heap.size, 3, none⟩ = some (.slice A3 n d3) := B5.cell 3
  have c4 : w5.cell? ⟨w.heap.size, 4, none⟩ = some (.slice A4 m d4) := B5.cell 4
  have c5 : w5.cell? ⟨w.heap.size, 5, none⟩ = some (.slice A5 j.cost.length d5) := B5.cell 5
  go_wp2_with (fail)
  clear c0 c1 c2 c3 c4 c5
  refine (hn.out _ _ (O5.rinst hI)).mono ?_
  rintro e w6 ⟨rfl, x6⟩
  go_wp2_with (fail)
  refine (knaps_any _).mono ?_
  rintro e w7 ⟨rfl, x7⟩
  go_wp2_with (fail)
  refine (knaps_any _).mono ?_
  rintro e w8 ⟨rfl, x8⟩
  have Xd := Lib.hid (X5.tr (Ext.tr (Ext.tr x6 x7) x8))
  clear x6 x7 x8
  go_wp2_with (fail)
  go_ret
  exact ⟨rfl, Xd.out⟩
theorem walk (vs : List Value) (i : InstP) (P : Option Addr) (pc : Nat) (xs : List Int) (w : World) (H : RInst w vs i) (_ : InstOk i) (hP : RdI w P xs) (ix : Ints xs) (lx : xs.length ≤ pc) (lc : pc ≤ maxLen) :
    Calls Try.prog 4 #[.agg (List.toArray vs), .slice P xs.length pc] w fun e w' => e = .returned (.bool true) ∧ Ext w w' := by
  obtain ⟨l1, l2, _⟩ := copyP_lens i
  by_cases hc : checkP (copyP i) = 0
  · by_cases hk : (copyP i).kind = 1
    · exact walk_yes i (copyP i) rfl vs P pc xs _ rfl w H hP ix lx lc hc hk
    · exact walk_no i (copyP i) rfl vs P pc xs _ rfl w H hP ix lx lc 14 (by omega) (fun us W h => new_kind (copyP i) us W h (by omega) (by omega) hc hk)
  · exact walk_no i (copyP i) rfl vs P pc xs _ rfl w H hP ix lx lc (checkP (copyP i)) hc (fun us W h => new_bad (copyP i) us W h (by omega) (by omega) hc)

set_option maxRecDepth 100000 in
theorem lifted (os : Os) (started : os.Started) (H : Type) (enc : TypeId × Value → H) :
    ReturnsInHanded {} Try.checked os 4 .any (Rows.knapBoundsSpec.pre6 enc Try.prog Try.f4 Rows.knapBoundsRow.domain false) (Rows.knapBoundsSpec.post enc Try.prog Try.f4 false true false false) := by
  refine returnsInHanded_of_change (C := Try.checked) own started (by kernel_rfl) Try.func4
    (ChangeSpec.witness6 (enc := enc) (C := Try.checked) false ⟨#[], #[.agg #[.int .i64 0, .int .i64 0, .int .i64 0, .slice none 0 0, .slice none 0 0, .slice none 0 0], .slice none 0 0], []⟩ 8 (by kernel_rfl) (by kernel_rfl) (by kernel_rfl) (by kernel_rfl)) ?_
  intro W base args ds gs before hval0 hW _ _
  have hval : ∀ (j : Nat) t v, Try.f4.params[j]? = some t → args[j]? = some v → Value.okWide Try.prog W .any base t v := hval0
  have hW' := hW
  obtain ⟨p, q, hA0, hV, rfl, hfz, hnd⟩ := hW
  have hA : DataW.TrodAll enc Try.prog W 0 (fun _ => true) true Try.f4.params.toList args.toList ds p := hA0
  rw [Try.params4] at hA hval
  obtain ⟨v0, vs0, d0, ds0, p0, q0, hargs, rfl, rfl, h0, r0⟩ := trodAll_cons hA
  obtain ⟨v1, vs1, d1, ds1, p1, q1, rfl, rfl, rfl, h1, r1⟩ := trodAll_cons r0
  obtain ⟨rfl, rfl, rfl⟩ := trodAll_nil r1
  obtain rfl : args = #[v0, v1] := by cases args; simp_all
  obtain ⟨rfl, rfl⟩ := trodVars_none hV
  obtain ⟨y0, x0, rfl, hx0, ix0⟩ := open_Inst h0 (hval 0 _ v0 rfl rfl)
  obtain ⟨A1, x1, c1, rfl, hx1, ix1, lx1, lc1⟩ := open_RdI h1 (hval 1 _ v1 rfl rfl)
  refine (walk y0 x0 A1 c1 x1 W hx0 ix0 hx1 ix1 lx1 lc1).mono fun e W' ⟨he, hg⟩ => ?_
  subst he
  exact ⟨_, rfl, post_law hW' rfl rfl rfl rfl rfl (readable_of (by kernel_rfl)) hg⟩

theorem proved : Rows.KnapBoundsSaid :=
  OpenClaim.holds_of_wide 4 Try.f4 rfl rfl rfl rfl rfl rfl rfl ⟨rfl, rfl, rfl, rfl, rfl⟩ rfl rfl rfl rfl rfl (by kernel_rfl) Try.func4 (by kernel_rfl)
    (of_decide_eq_true (by kernel_rfl)) (by unfold Func.isWrapper; first | (rw [if_pos (by decide +kernel)]; kernel_rfl) | (rw [if_neg (by decide +kernel)]; exact ⟨rfl, rfl⟩))
    (fun os started H enc _ => lifted os started H enc)
end Go.Proofs.Ytpfdkocelmmllaa.knapBounds
