/-
  TourBounds: of all problems and beginnings Bound is what the chapter says; what is done to the problem since is nothing.
-/
import Derived.Test.YtpngflmngnjjoaaDoorTourLaw
import Derived.Test.YtpngflmngnjjoaaDoorTourN
import Derived.Test.YtpngflmngnjjoaaDoorThere
import Derived.Test.YtpngflmngnjjoaaDoorRows
import Derived.Test.YtpngflmngnjjoaaDoorCards
import Derived.Test.YtpngflmngnjjoaaDoorTie
import Derived.Test.YtpngflmngnjjoaaDoorChecked
namespace Go.Proofs.YtpngflmngnjjoaaDoor.tourBounds
open Go.RowKit Go.ChangeShapes Go.WideShapes Go.ChangeAt Go.Deep

theorem KernT.mod {S : Nat → Prop} {w w' : World} {base g : Nat} {rows : List (List Int)} {mi : Bool} (h : KernT w base g rows mi) (m : Mod S w w') (hS : ∀ k, base ≤ k → ¬ S k) : KernT w' base g rows mi := by
  obtain ⟨C, c, us, h1, h2, h3, h4⟩ := h
  exact ⟨C, c, us, h1.mod m (hS _ h2), h2, h3.mod m (fun k hk => hS k (h3.lt k hk).1), h4.mod m hS⟩
/-- the rows' ints lie there, whatever they are, in these blocks -/
def RowT (lo hi : Nat) (us : List Value) (rows : List (List Int)) (W : World) : Prop := ∀ (a : Nat) (r : List Int), rows[a]? = some r → ∃ (D : Option Addr) (d : Nat), us[a]? = some (.slice D r.length d) ∧ There W D r.length ∧ (∀ k, bl D = some k → lo ≤ k ∧ k < hi)
theorem RowT.ext {lo hi : Nat} {us : List Value} {rows : List (List Int)} {w w' : World} (h : RowT lo hi us rows w) (x : Ext w w') : RowT lo hi us rows w' := fun a r hr => by
  obtain ⟨D, d, h1, h2, h3⟩ := h a r hr
  exact ⟨D, d, h1, h2.ext x, h3⟩
theorem RowT.set {lo hi : Nat} {us : List Value} {rows : List (List Int)} {w : World} (h : RowT lo hi us rows w) (k i : Nat) (u : Value) : RowT lo hi us rows (w.setCell ⟨k, i, none⟩ u) := fun a r hr => by
  obtain ⟨D, d, h1, h2, h3⟩ := h a r hr
  exact ⟨D, d, h1, h2.set k i u, h3⟩
theorem _root_.Go.Proofs.YtpngflmngnjjoaaDoor.RowsO.rowT {w : World} {base : Nat} {us : List Value} {rows : List (List Int)} (h : RowsO w base us rows) (hp : ∀ r ∈ rows, 0 < r.length) : RowT base w.heap.size us rows w := fun a r hr => by
  obtain ⟨D, d, h1, h2⟩ := h.2 a r hr
  exact ⟨D, d, h1, h2.there (hp r (List.mem_of_getElem? hr)), h2.lt⟩
theorem _root_.Go.Proofs.YtpngflmngnjjoaaDoor.There.ne {w : World} {base n m c g : Nat} {C : Option Addr} {us : List Value} (h : There w (some ⟨g, 0, none⟩) n) (k : OwV w base 22 1 C m c us) : bl C ≠ some g := by
  obtain ⟨g', cur, hg, hh, _⟩ := h
  obtain rfl : g = g' := by simpa using hg
  intro e
  exact k.ne (show Blk w g 3 cur from hh) (by decide) g e rfl
theorem _root_.Go.Proofs.YtpngflmngnjjoaaDoor.OwV.modI {w w' : World} {base b size n c : Nat} {C : Option Addr} {us : List Value} (h : OwV w base 22 size C n c us) (k : ModT b [25] w w') : OwV w' base 22 size C n c us := h.modT k (by decide)
set_option maxRecDepth 100000 in
set_option maxHeartbeats 4000000 in
theorem walk_yes (i j : InstP) (hj : j = copyP i) (vs : List Value) (P : Option Addr) (pc : Nat) (xs ps : List Int) (hps : ps = xs.take 70) (w : World) (hT : Tab w) (H : RInst w vs i) (hP : RdI w P xs) (ix : Ints xs) (lx : xs.length ≤ pc) (lc : pc ≤ maxLen) (hc : checkP j = 0) (hk : j.kind = 3) :
    Calls Tryd.prog 8 #[.agg (List.toArray vs), .slice P xs.length pc] w fun e w' => e = .returned (.bool true) ∧ Ext w w' := by
  have CP := fun (W : World) (x : Ext w W) => copy_to hj vs W (H.ext x)
  have CU := fun (W : World) (x : Ext w W) => cut_toT hps P pc W (hP.ext x) ix lx lc
  have lps : ps.length ≤ 70 := by rw [hps]; exact List.length_take_le _ _
  have ips : Ints ps := by rw [hps]; exact ix.take _
  have CP2 := fun (us : List Value) (W : World) (h : RInst W us j) => copy_to (i := j) (j := j) (by rw [hj]; exact (copy_copy i).symm) us W h
  have hI : InstInts j := hj ▸ H.ints.copy
  have hn := fun (us : List Value) (W : World) (h : RInst W us j) => newt_yes j us W h hc hk
  have sq := square_ok hc (by omega)
  have rok := rows_ok sq
  have BO := fun (g base : Nat) (A : Option Addr) (c : Nat) (W : World) (hW : Tab W) (h : KernT W base g j.cost (mirP j.cost)) (hp : RdI W A ps) => boundt_any A c ps W hW h rok hp (by omega)
  have RB := fun (us : List Value) (A : Option Addr) (c : Nat) (W : World) (h : RInst W us j) (hp : RdI W A ps) => rbound13_any j us A c ps W h sq hp (by omega)
  have lW : Hid (j.weight.length = 0) := by
    have h : j.weight.length = 0 := by rw [sq.w]; rfl
    exact h
  have hpos : Hid (∀ r ∈ j.cost, 0 < r.length) := fun r hr => by rw [rok.row r hr]; exact rok.n1
  have n24 := rok.n2
  change ∀ (us : List Value) (W : World), RInst W us j → Calls Tryd.prog _ _ W (fun e w' => ∃ g, e = .returned (.tuple #[.pointer (some ⟨g, 0, none⟩), .int .i64 0]) ∧ KernT w' W.heap.size g j.cost (mirP j.cost) ∧ Ext W w') at hn
  generalize (boundT j.cost (mirP j.cost) ps).1 = bd1 at *
  generalize (boundT j.cost (mirP j.cost) ps).2 = bd2 at *
  generalize mirP j.cost = mi at *
  clear hj hps sq rok hc hk
  obtain ⟨n, hn3⟩ : ∃ n, n = j.weight.length := ⟨_, rfl⟩
  obtain ⟨m, hn4⟩ : ∃ m, j.value.length = m := ⟨_, rfl⟩
  replace hn3 := Lib.hid hn3
  replace hn4 := Lib.hid hn4
  obtain ⟨A, a, B, b, C, c, rfl, -, -, -⟩ := H
  have B1 : Hid (Blk (w.alloc (.cells #[.int .i64 i.kind, .int .i64 i.n, .int .i64 i.cap, .slice A i.weight.length a, .slice B i.value.length b, .slice C i.cost.length c] 25)) w.heap.size 25 #[.int .i64 i.kind, .int .i64 i.n, .int .i64 i.cap, .slice A i.weight.length a, .slice B i.value.length b, .slice C i.cost.length c]) := .new rfl
  replace CP := Lib.hid CP
  replace hT := Lib.hid hT
  replace CU := Lib.hid CU
  replace CP2 := Lib.hid CP2
  replace hn := Lib.hid hn
  replace BO := Lib.hid BO
  replace RB := Lib.hid RB
  replace hP := Lib.hid hP
  replace ix := Lib.hid ix
  replace ips := Lib.hid ips
  replace lc := Lib.hid lc
  go_enter Tryd.func8, Tryd.ntmps8
  go_wp2_with (fail)
  refine (CP.out _ (by (repeat (first | assumption | exact Ext.rf _ | apply Ext.drew | apply Ext.drewN | apply Ext.alloc)))).mono ?_
  rintro e w1 ⟨us, rfl, O1, x1⟩
  obtain ⟨A3, d3, A4, d4, A5, d5, us1, rfl, oW, oV, oC, oR⟩ := O1
  have O1 : InstO w1 (w.heap.size + 1) [.int .i64 j.kind, .int .i64 j.n, .int .i64 j.cap, .slice A3 j.weight.length d3, .slice A4 j.value.length d4, .slice A5 j.cost.length d5] j := ⟨A3, d3, A4, d4, A5, d5, us1, rfl, by simpa using oW, by simpa using oV, by simpa using oC, by simpa using oR⟩
  have RT1 : RowT (w.heap.size + 1) w1.heap.size us1 j.cost w1 := by
    have := oR.rowT hpos.out
    simpa using this
  have CT1 : OwV w1 (w.heap.size + 1) 22 1 A5 j.cost.length d5 us1 := by simpa using oC
  have lus : Hid (us1.length = j.cost.length) := oR.1
  rw [← hn3.out] at O1 ⊢
  rw [hn4.out] at O1 ⊢
  clear oW oV oC oR
  have X1 := Lib.hid (Ext.tr (a := w) (by (repeat (first | assumption | exact Ext.rf _ | apply Ext.drew | apply Ext.drewN | apply Ext.alloc))) x1)
  have B1' := Lib.hid (B1.out.ext x1)
  replace O1 := Lib.hid O1
  clear x1
  go_wp2_with (fail)
  refine (CU.out _ X1.out).mono ?_
  rintro e w2 ⟨Q, qc, rfl, oQ, x2⟩
  have X2 := Ext.tr X1.out x2
  have B2 := B1'.out.ext x2
  have O2 := O1.out.ext x2
  obtain ⟨X3, B3, O3⟩ := put_copy B2 X2 O2
  have t0 : w2.cell? ⟨w.heap.size, 0, none⟩ = some (.int .i64 i.kind) := B2.cell 0
  have t1 : w2.cell? ⟨w.heap.size, 1, none⟩ = some (.int .i64 i.n) := B2.cell 1
  have t2 : w2.cell? ⟨w.heap.size, 2, none⟩ = some (.int .i64 i.cap) := B2.cell 2
  have t3 : w2.cell? ⟨w.heap.size, 3, none⟩ = some (.slice A i.weight.length a) := B2.cell 3
  have t4 : w2.cell? ⟨w.heap.size, 4, none⟩ = some (.slice B i.value.length b) := B2.cell 4
  have t5 : w2.cell? ⟨w.heap.size, 5, none⟩ = some (.slice C i.cost.length c) := B2.cell 5
  have f0 := B2.free 0
  have f1 := B2.free 1
  have f2 := B2.free 2
  have f3 := B2.free 3
  have f4 := B2.free 4
  have f5 := B2.free 5
  have M3 := (set6 B2 (base := w.heap.size) (Nat.le_refl _) (.int .i64 j.kind) (.int .i64 j.n) (.int .i64 j.cap) (.slice A3 n d3) (.slice A4 m d4) (.slice A5 j.cost.length d5)).2
  have Q3 := Lib.hid (oQ.modT M3 (by decide))
  have z12 := x2.size
  have RT3 := ((((((RT1.ext x2).set w.heap.size 0 (.int .i64 j.kind)).set w.heap.size 1 (.int .i64 j.n)).set w.heap.size 2 (.int .i64 j.cap)).set w.heap.size 3 (.slice A3 n d3)).set w.heap.size 4 (.slice A4 m d4)).set w.heap.size 5 (.slice A5 j.cost.length d5)
  have zw1 : w.heap.size < w1.heap.size := by
    have := X1.out.size
    have h7 := B1'.out.lt
    omega
  have CT3 := (CT1.ext x2).modI M3
  have sz : w2.heap.size = ((((((w2.setCell ⟨w.heap.size, 0, none⟩ (.int .i64 j.kind)).setCell ⟨w.heap.size, 1, none⟩ (.int .i64 j.n)).setCell ⟨w.heap.size, 2, none⟩ (.int .i64 j.cap)).setCell ⟨w.heap.size, 3, none⟩ (.slice A3 n d3)).setCell ⟨w.heap.size, 4, none⟩ (.slice A4 m d4)).setCell ⟨w.heap.size, 5, none⟩ (.slice A5 j.cost.length d5)).heap.size := by simp [World.setCell]
  have FIN := Lib.hid (And.intro X3 (And.intro B3 (And.intro O3 (And.intro Q3 (And.intro RT3 (And.intro CT3 sz))))))
  replace X2 := Lib.hid X2
  replace B2 := Lib.hid B2
  clear O2 x2 M3 oQ O1 B1' B1 X3 B3 O3 Q3 sz RT1 CT1 RT3 CT3
  go_upto_region 2 with (fail)
  generalize ((((((w2.setCell ⟨w.heap.size, 0, none⟩ (.int .i64 j.kind)).setCell ⟨w.heap.size, 1, none⟩ (.int .i64 j.n)).setCell ⟨w.heap.size, 2, none⟩ (.int .i64 j.cap)).setCell ⟨w.heap.size, 3, none⟩ (.slice A3 n d3)).setCell ⟨w.heap.size, 4, none⟩ (.slice A4 m d4)).setCell ⟨w.heap.size, 5, none⟩ (.slice A5 j.cost.length d5)) = w3 at FIN ⊢
  obtain ⟨X3, B3, O3, Q3, RT3, CT3, sz⟩ := FIN.out
  replace RT3 := Lib.hid RT3
  replace CT3 := Lib.hid CT3
  clear FIN t0 t1 t2 t3 t4 t5 f0 f1 f2 f3 f4 f5
  have c0 : w3.cell? ⟨w.heap.size, 0, none⟩ = some (.int .i64 j.kind) := B3.cell 0
  have c1 : w3.cell? ⟨w.heap.size, 1, none⟩ = some (.int .i64 j.n) := B3.cell 1
  have c2 : w3.cell? ⟨w.heap.size, 2, none⟩ = some (.int .i64 j.cap) := B3.cell 2
  have c3 : w3.cell? ⟨w.heap.size, 3, none⟩ = some (.slice A3 n d3) := B3.cell 3
  have c4 : w3.cell? ⟨w.heap.size, 4, none⟩ = some (.slice A4 m d4) := B3.cell 4
  have c5 : w3.cell? ⟨w.heap.size, 5, none⟩ = some (.slice A5 j.cost.length d5) := B3.cell 5
  go_cut [5] (fun t5 w5 => ∃ h A6 d6 A7 d7 A8 d8, t5 = .pointer (some ⟨h, 0, none⟩) ∧ w3.heap.size ≤ h ∧ Ext w3 w5 ∧ Blk w5 h 25 #[.int .i64 j.kind, .int .i64 j.n, .int .i64 j.cap, .slice A6 n d6, .slice A7 m d7, .slice A8 j.cost.length d8] ∧ InstO w5 w3.heap.size [.int .i64 j.kind, .int .i64 j.n, .int .i64 j.cap, .slice A6 n d6, .slice A7 m d7, .slice A8 j.cost.length d8] j)
  case first =>
    go_wp2_with (fail)
    refine (CP2.out _ _ (O3.rinst hI)).mono ?_
    rintro e w4 ⟨us2, rfl, O4, x4⟩
    obtain ⟨A6, d6, A7, d7, A8, d8, rfl, -, -⟩ := O4.parts
    rw [← hn3.out, hn4.out] at O4 ⊢
    have xa : Ext w4 (w4.alloc (.cells #[.int .i64 j.kind, .int .i64 j.n, .int .i64 j.cap, .slice A6 n d6, .slice A7 m d7, .slice A8 j.cost.length d8] 25)) := (Ext.rf w4).alloc _
    have b5 : Blk (w4.alloc (.cells #[.int .i64 j.kind, .int .i64 j.n, .int .i64 j.cap, .slice A6 n d6, .slice A7 m d7, .slice A8 j.cost.length d8] 25)) w4.heap.size 25 #[.int .i64 j.kind, .int .i64 j.n, .int .i64 j.cap, .slice A6 n d6, .slice A7 m d7, .slice A8 j.cost.length d8] := .new rfl
    have z34 := x4.size
    have FIN := Lib.hid (And.intro (x4.tr xa) (And.intro b5 (O4.ext xa)))
    clear X3 B3 O3 Q3 xa b5 O4 x4
    go_wp2_with (fail)
    go_meet
    exact ⟨_, _, _, _, _, _, _, rfl, z34, FIN.out⟩
  case rest =>
  obtain ⟨h, A6, d6, A7, d7, A8, d8, rfl, zh, x35, W5, P5⟩ := hcut
  obtain ⟨w5, rfl⟩ : ∃ w5 : World, w5 = wc := ⟨_, rfl⟩
  have X5 := X3.tr x35
  have B5 := B3.ext x35
  have O5 := O3.ext x35
  have Q5 := Q3.ext x35
  have z35 := x35.size
  have RT5 := Lib.hid (RT3.out.ext x35)
  have CT5 := Lib.hid (CT3.out.ext x35)
  clear X3 B3 O3 Q3 x35 c0 c1 c2 c3 c4 c5
  have c0 : w5.cell? ⟨w.heap.size, 0, none⟩ = some (.int .i64 j.kind) := B5.cell 0
  have c1 : w5.cell? ⟨w.heap.size, 1, none⟩ = some (.int .i64 j.n) := B5.cell 1
  have c2 : w5.cell? ⟨w.heap.size, 2, none⟩ = some (.int .i64 j.cap) := B5.cell 2
  have c3 : w5.cell? ⟨w.heap.size, 3, none⟩ = some (.slice A3 n d3) := B5.cell 3
  have c4 : w5.cell? ⟨w.heap.size, 4, none⟩ = some (.slice A4 m d4) := B5.cell 4
  have c5 : w5.cell? ⟨w.heap.size, 5, none⟩ = some (.slice A5 j.cost.length d5) := B5.cell 5
  go_wp2_with (fail)
  clear c0 c1 c2 c3 c4 c5
  refine (hn.out _ _ (O5.rinst hI)).mono ?_
  rintro e w6 ⟨g, rfl, K6, x6⟩
  clear O5
  replace X5 := Lib.hid (X5.tr x6)
  replace B5 := Lib.hid (B5.ext x6)
  replace Q5 := Lib.hid (Q5.ext x6)
  replace RT5 := Lib.hid (RT5.out.ext x6)
  replace CT5 := Lib.hid (CT5.out.ext x6)
  replace W5 := Lib.hid (W5.ext x6)
  replace P5 := Lib.hid (P5.ext x6)
  have z56 := x6.size
  replace K6 := Lib.hid K6
  clear x6
  go_wp2_with (fail)
  refine (tours_any _ (hT.out.ext X5.out)).mono ?_
  rintro e w7 ⟨rfl, x7⟩
  have X7 := Lib.hid (X5.out.tr x7)
  have B7 := Lib.hid (B5.out.ext x7)
  have Q7 := Lib.hid (Q5.out.ext x7)
  have W7 := Lib.hid (W5.out.ext x7)
  have P7 := Lib.hid (P5.out.ext x7)
  have K7 := Lib.hid (K6.out.ext x7)
  have RT7 := Lib.hid (RT5.out.ext x7)
  have CT7 := Lib.hid (CT5.out.ext x7)
  have z67 := x7.size
  clear X5 B5 Q5 W5 P5 K6 RT5 CT5 x7
  have l3 : n = 0 := by rw [hn3.out, lW.out]
  subst l3
  have c3 : w7.cell? ⟨w.heap.size, 3, none⟩ = some (.slice A3 0 d3) := B7.out.cell 3
  obtain ⟨rows, hrows⟩ : ∃ rows, Hid (rows = j.cost) := ⟨_, rfl⟩
  go_wp2_with (fail)
  go_loopw [8] (fun v wq => v = .int .i64 0 ∧ Hid (wq = w7)) (fun _ _ => 0)
  case atStart => exact ⟨rfl, rfl⟩
  case round =>
    obtain ⟨w8, rfl⟩ : ∃ w8 : World, w8 = wr := ⟨_, rfl⟩
    obtain ⟨rfl, hw8⟩ := hrel
    obtain rfl := hw8.out
    clear hw8
    go_wp2_with (fail)
    go_loopw [9] (fun v wq => ∃ k : Nat, v = .int .i64 k ∧ k ≤ j.cost.length ∧ Hid (RowT (w.heap.size + 1) w1.heap.size us1 j.cost wq) ∧ Hid (Mod (fun k => w.heap.size + 1 ≤ k ∧ k < w1.heap.size ∧ bl A5 ≠ some k) w8 wq)) (fun v _ => j.cost.length - (intOf v).toNat)
    case atStart => exact ⟨0, rfl, by omega, RT7, Mod.rf _⟩
    case round =>
      obtain ⟨wo, rfl⟩ : ∃ wo : World, wo = wr := ⟨_, rfl⟩
      clear RT7 c3
      obtain ⟨k, rfl, hk, RT, M⟩ := hrel
      have Bo := B7.out.mod M.out (fun h => by omega)
      have c5 : wo.cell? ⟨w.heap.size, 5, none⟩ = some (.slice A5 j.cost.length d5) := Bo.cell 5
      by_cases hlt : k < j.cost.length
      · have er : j.cost[k]? = some j.cost[k] := List.getElem?_eq_getElem hlt
        obtain ⟨D, d, hu, tD, bD⟩ := RT.out k _ er
        have hp0 := hpos.out _ (List.getElem_mem hlt)
        generalize j.cost[k] = row at *
        have CTo := OwV.mod CT7.out M.out (fun q hq h => h.2.2 hq)
        obtain ⟨ab, ao, vv, hC, zv, cv, ev⟩ := CTo.read.at (j := k) (by rw [lus.out]; exact hlt)
        obtain rfl : .slice D row.length d = vv := by
          have h := ev.out
          rw [hu] at h
          exact Option.some.inj h
        obtain ⟨gd, vd, rfl, cd, fd⟩ := tD.at hp0
        have hne := tD.ne CTo
        have hbd := bD gd rfl
        have NX : Hid (RowT (w.heap.size + 1) w1.heap.size us1 j.cost (wo.setCell ⟨gd, 0, none⟩ (.int .i64 9)) ∧ Mod (fun k => w.heap.size + 1 ≤ k ∧ k < w1.heap.size ∧ bl A5 ≠ some k) w8 (wo.setCell ⟨gd, 0, none⟩ (.int .i64 9))) :=
          ⟨RT.out.set gd 0 _, M.out.set (p := ⟨gd, 0, none⟩) (.inl ⟨hbd.1, hbd.2, hne⟩) _⟩
        subst hC
        have q1 : (k : Int) < (j.cost.length : Int) := by omega
        have q2 : (0 : Int) < (row.length : Int) := by omega
        clear er hu tD bD CTo ev hne RT M Bo
        go_wp2_with (first | go_quiet (fail) | go_region)
        go_roundw
        case rel => exact ⟨k + 1, by go_num, by omega, NX.out.1, NX.out.2⟩
        case measure => simp [intOf]; omega
      · have q1 : ¬ (k : Int) < (j.cost.length : Int) := by omega
        have K8 := Lib.hid (KernT.mod K7.out M.out (fun k hk h => by omega))
        have Q8 := Lib.hid (Q7.out.mod M.out (fun k hk h => by have := (Q7.out.lt k hk).1; omega)).read
        have W8 := Lib.hid (W7.out.mod M.out (fun h => by omega))
        have P8 := Lib.hid (P7.out.mod M.out (fun k hk h => by omega))
        have X8 : Hid (Ext w wo) := Below.trans X7.out (M.out.below X7.out.size (fun k hk h => by omega))
        clear M RT
        go_wp2_with (fail)
        refine (BO.out g _ Q qc _ (hT.out.ext X8.out) K8.out Q8.out).mono ?_
        rintro e w9 ⟨rfl, x9⟩
        have W9 := W8.out.ext x9
        have v0 : w9.cell? ⟨h, 0, none⟩ = some (.int .i64 j.kind) := W9.cell 0
        have v1 : w9.cell? ⟨h, 1, none⟩ = some (.int .i64 j.n) := W9.cell 1
        have v2 : w9.cell? ⟨h, 2, none⟩ = some (.int .i64 j.cap) := W9.cell 2
        have v3 : w9.cell? ⟨h, 3, none⟩ = some (.slice A6 0 d6) := W9.cell 3
        have v4 : w9.cell? ⟨h, 4, none⟩ = some (.slice A7 m d7) := W9.cell 4
        have v5 : w9.cell? ⟨h, 5, none⟩ = some (.slice A8 j.cost.length d8) := W9.cell 5
        replace W9 := Lib.hid W9
        have Q9 := Lib.hid (Q8.out.ext x9)
        have P9 := Lib.hid (P8.out.ext x9)
        have X9 := Lib.hid (X8.out.tr x9)
        clear x9 c5
        go_wp2_with (fail)
        refine (RB.out _ Q qc _ (P9.out.rinst hI) Q9.out).mono ?_
        rintro e wa ⟨rfl, xa⟩
        have Xa := Lib.hid (X9.out.tr xa)
        clear xa v0 v1 v2 v3 v4 v5
        go_wp2_with (fail)
        go_ret
        exact ⟨rfl, Xa.out⟩
set_option maxRecDepth 100000 in
set_option maxHeartbeats 4000000 in
theorem walk_no (i j : InstP) (hj : j = copyP i) (vs : List Value) (P : Option Addr) (pc : Nat) (xs ps : List Int) (hps : ps = xs.take 70) (w : World) (hT : Tab w) (H : RInst w vs i) (hP : RdI w P xs) (ix : Ints xs) (lx : xs.length ≤ pc) (lc : pc ≤ maxLen) (err : Int) (he : err ≠ 0) (hn : ∀ (us : List Value) (W : World), RInst W us j → Calls Tryd.prog 33 #[.agg (List.toArray us)] W fun e w' => e = .returned (.tuple #[.pointer none, .int .i64 err]) ∧ Ext W w') :
    Calls Tryd.prog 8 #[.agg (List.toArray vs), .slice P xs.length pc] w fun e w' => e = .returned (.bool true) ∧ Ext w w' := by
  have CP := fun (W : World) (x : Ext w W) => copy_to hj vs W (H.ext x)
  have CU := fun (W : World) (x : Ext w W) => cut_toT hps P pc W (hP.ext x) ix lx lc
  have lps : ps.length ≤ 70 := by rw [hps]; exact List.length_take_le _ _
  have ips : Ints ps := by rw [hps]; exact ix.take _
  have CP2 := fun (us : List Value) (W : World) (h : RInst W us j) => copy_to (i := j) (j := j) (by rw [hj]; exact (copy_copy i).symm) us W h
  have hI : InstInts j := hj ▸ H.ints.copy
  have eb : (err != 0) = true := by simpa using he
  clear hj hps he
  obtain ⟨n, hn3⟩ : ∃ n, n = j.weight.length := ⟨_, rfl⟩
  obtain ⟨m, hn4⟩ : ∃ m, j.value.length = m := ⟨_, rfl⟩
  replace hn3 := Lib.hid hn3
  replace hn4 := Lib.hid hn4
  obtain ⟨A, a, B, b, C, c, rfl, -, -, -⟩ := H
  have B1 : Hid (Blk (w.alloc (.cells #[.int .i64 i.kind, .int .i64 i.n, .int .i64 i.cap, .slice A i.weight.length a, .slice B i.value.length b, .slice C i.cost.length c] 25)) w.heap.size 25 #[.int .i64 i.kind, .int .i64 i.n, .int .i64 i.cap, .slice A i.weight.length a, .slice B i.value.length b, .slice C i.cost.length c]) := .new rfl
  replace CP := Lib.hid CP
  replace hT := Lib.hid hT
  replace CU := Lib.hid CU
  replace CP2 := Lib.hid CP2
  replace hn := Lib.hid hn
  replace hP := Lib.hid hP
  replace ix := Lib.hid ix
  replace ips := Lib.hid ips
  replace lc := Lib.hid lc
  go_enter Tryd.func8, Tryd.ntmps8
  go_wp2_with (fail)
  refine (CP.out _ (by (repeat (first | assumption | exact Ext.rf _ | apply Ext.drew | apply Ext.drewN | apply Ext.alloc)))).mono ?_
  rintro e w1 ⟨us, rfl, O1, x1⟩
  obtain ⟨A3, d3, A4, d4, A5, d5, rfl, oW, oV⟩ := O1.parts
  rw [← hn3.out] at O1 ⊢
  rw [hn4.out] at O1 ⊢
  clear oW oV
  have X1 := Lib.hid (Ext.tr (a := w) (by (repeat (first | assumption | exact Ext.rf _ | apply Ext.drew | apply Ext.drewN | apply Ext.alloc))) x1)
  have B1' := Lib.hid (B1.out.ext x1)
  replace O1 := Lib.hid O1
  clear x1
  go_wp2_with (fail)
  refine (CU.out _ X1.out).mono ?_
  rintro e w2 ⟨Q, qc, rfl, oQ, x2⟩
  have X2 := Ext.tr X1.out x2
  have B2 := B1'.out.ext x2
  have O2 := O1.out.ext x2
  obtain ⟨X3, B3, O3⟩ := put_copy B2 X2 O2
  have t0 : w2.cell? ⟨w.heap.size, 0, none⟩ = some (.int .i64 i.kind) := B2.cell 0
  have t1 : w2.cell? ⟨w.heap.size, 1, none⟩ = some (.int .i64 i.n) := B2.cell 1
  have t2 : w2.cell? ⟨w.heap.size, 2, none⟩ = some (.int .i64 i.cap) := B2.cell 2
  have t3 : w2.cell? ⟨w.heap.size, 3, none⟩ = some (.slice A i.weight.length a) := B2.cell 3
  have t4 : w2.cell? ⟨w.heap.size, 4, none⟩ = some (.slice B i.value.length b) := B2.cell 4
  have t5 : w2.cell? ⟨w.heap.size, 5, none⟩ = some (.slice C i.cost.length c) := B2.cell 5
  have f0 := B2.free 0
  have f1 := B2.free 1
  have f2 := B2.free 2
  have f3 := B2.free 3
  have f4 := B2.free 4
  have f5 := B2.free 5
  have M3 := (set6 B2 (base := w.heap.size) (Nat.le_refl _) (.int .i64 j.kind) (.int .i64 j.n) (.int .i64 j.cap) (.slice A3 n d3) (.slice A4 m d4) (.slice A5 j.cost.length d5)).2
  have Q3 := Lib.hid (oQ.modT M3 (by decide))
  have z12 := x2.size
  have sz : w2.heap.size = ((((((w2.setCell ⟨w.heap.size, 0, none⟩ (.int .i64 j.kind)).setCell ⟨w.heap.size, 1, none⟩ (.int .i64 j.n)).setCell ⟨w.heap.size, 2, none⟩ (.int .i64 j.cap)).setCell ⟨w.heap.size, 3, none⟩ (.slice A3 n d3)).setCell ⟨w.heap.size, 4, none⟩ (.slice A4 m d4)).setCell ⟨w.heap.size, 5, none⟩ (.slice A5 j.cost.length d5)).heap.size := by simp [World.setCell]
  have FIN := Lib.hid (And.intro X3 (And.intro B3 (And.intro O3 (And.intro Q3 sz))))
  replace X2 := Lib.hid X2
  replace B2 := Lib.hid B2
  clear O2 x2 M3 oQ O1 B1' B1 X3 B3 O3 Q3 sz
  go_upto_region 2 with (fail)
  generalize ((((((w2.setCell ⟨w.heap.size, 0, none⟩ (.int .i64 j.kind)).setCell ⟨w.heap.size, 1, none⟩ (.int .i64 j.n)).setCell ⟨w.heap.size, 2, none⟩ (.int .i64 j.cap)).setCell ⟨w.heap.size, 3, none⟩ (.slice A3 n d3)).setCell ⟨w.heap.size, 4, none⟩ (.slice A4 m d4)).setCell ⟨w.heap.size, 5, none⟩ (.slice A5 j.cost.length d5)) = w3 at FIN ⊢
  obtain ⟨X3, B3, O3, Q3, sz⟩ := FIN.out
  clear FIN t0 t1 t2 t3 t4 t5 f0 f1 f2 f3 f4 f5
  have c0 : w3.cell? ⟨w.heap.size, 0, none⟩ = some (.int .i64 j.kind) := B3.cell 0
  have c1 : w3.cell? ⟨w.heap.size, 1, none⟩ = some (.int .i64 j.n) := B3.cell 1
  have c2 : w3.cell? ⟨w.heap.size, 2, none⟩ = some (.int .i64 j.cap) := B3.cell 2
  have c3 : w3.cell? ⟨w.heap.size, 3, none⟩ = some (.slice A3 n d3) := B3.cell 3
  have c4 : w3.cell? ⟨w.heap.size, 4, none⟩ = some (.slice A4 m d4) := B3.cell 4
  have c5 : w3.cell? ⟨w.heap.size, 5, none⟩ = some (.slice A5 j.cost.length d5) := B3.cell 5
  go_cut [5] (fun t5 w5 => ∃ h A6 d6 A7 d7 A8 d8, t5 = .pointer (some ⟨h, 0, none⟩) ∧ w3.heap.size ≤ h ∧ Ext w3 w5 ∧ Blk w5 h 25 #[.int .i64 j.kind, .int .i64 j.n, .int .i64 j.cap, .slice A6 n d6, .slice A7 m d7, .slice A8 j.cost.length d8] ∧ InstO w5 w3.heap.size [.int .i64 j.kind, .int .i64 j.n, .int .i64 j.cap, .slice A6 n d6, .slice A7 m d7, .slice A8 j.cost.length d8] j)
  case first =>
    go_wp2_with (fail)
    refine (CP2.out _ _ (O3.rinst hI)).mono ?_
    rintro e w4 ⟨us2, rfl, O4, x4⟩
    obtain ⟨A6, d6, A7, d7, A8, d8, rfl, -, -⟩ := O4.parts
    rw [← hn3.out, hn4.out] at O4 ⊢
    have xa : Ext w4 (w4.alloc (.cells #[.int .i64 j.kind, .int .i64 j.n, .int .i64 j.cap, .slice A6 n d6, .slice A7 m d7, .slice A8 j.cost.length d8] 25)) := (Ext.rf w4).alloc _
    have b5 : Blk (w4.alloc (.cells #[.int .i64 j.kind, .int .i64 j.n, .int .i64 j.cap, .slice A6 n d6, .slice A7 m d7, .slice A8 j.cost.length d8] 25)) w4.heap.size 25 #[.int .i64 j.kind, .int .i64 j.n, .int .i64 j.cap, .slice A6 n d6, .slice A7 m d7, .slice A8 j.cost.length d8] := .new rfl
    have z34 := x4.size
    have FIN := Lib.hid (And.intro (x4.tr xa) (And.intro b5 (O4.ext xa)))
    clear X3 B3 O3 Q3 xa b5 O4 x4
    go_wp2_with (fail)
    go_meet
    exact ⟨_, _, _, _, _, _, _, rfl, z34, FIN.out⟩
  case rest =>
  obtain ⟨h, A6, d6, A7, d7, A8, d8, rfl, zh, x35, W5, P5⟩ := hcut
  obtain ⟨w5, rfl⟩ : ∃ w5 : World, w5 = wc := ⟨_, rfl⟩
  have X5 := X3.tr x35
  have B5 := B3.ext x35
  have O5 := O3.ext x35
  have Q5 := Q3.ext x35
  have z35 := x35.size
  clear X3 B3 O3 Q3 x35 c0 c1 c2 c3 c4 c5
  have c0 : w5.cell? ⟨w.heap.size, 0, none⟩ = some (.int .i64 j.kind) := B5.cell 0
  have c1 : w5.cell? ⟨w.heap.size, 1, none⟩ = some (.int .i64 j.n) := B5.cell 1
  have c2 : w5.cell? ⟨w.heap.size, 2, none⟩ = some (.int .i64 j.cap) := B5.cell 2
  have c3 : w5.cell? ⟨w.heap.size, 3, none⟩ = some (.slice A3 n d3) := B5.cell 3
  have c4 : w5.cell? ⟨w.heap.size, 4, none⟩ = some (.slice A4 m d4) := B5.cell 4
  have c5 : w5.cell? ⟨w.heap.size, 5, none⟩ = some (.slice A5 j.cost.length d5) := B5.cell 5
  go_wp2_with (fail)
  clear c0 c1 c2 c3 c4 c5
  refine (hn.out _ _ (O5.rinst hI)).mono ?_
  rintro e w6 ⟨rfl, x6⟩
  go_wp2_with (fail)
  refine (tours_any _ (hT.out.ext (X5.tr x6))).mono ?_
  rintro e w7 ⟨rfl, x7⟩
  go_wp2_with (fail)
  refine (tours_any _ (hT.out.ext ((X5.tr x6).tr x7))).mono ?_
  rintro e w8 ⟨rfl, x8⟩
  have Xd := Lib.hid (X5.tr (Ext.tr (Ext.tr x6 x7) x8))
  clear x6 x7 x8
  go_wp2_with (fail)
  go_ret
  exact ⟨rfl, Xd.out⟩
theorem walk (vs : List Value) (i : InstP) (P : Option Addr) (pc : Nat) (xs : List Int) (w : World) (hT : Tab w) (H : RInst w vs i) (_ : InstOk i) (hP : RdI w P xs) (ix : Ints xs) (lx : xs.length ≤ pc) (lc : pc ≤ maxLen) :
    Calls Tryd.prog 8 #[.agg (List.toArray vs), .slice P xs.length pc] w fun e w' => e = .returned (.bool true) ∧ Ext w w' := by
  obtain ⟨l1, l2, _⟩ := copyP_lens i
  by_cases hc : checkP (copyP i) = 0
  · by_cases hk : (copyP i).kind = 3
    · exact walk_yes i (copyP i) rfl vs P pc xs _ rfl w hT H hP ix lx lc hc hk
    · exact walk_no i (copyP i) rfl vs P pc xs _ rfl w hT H hP ix lx lc 14 (by omega) (fun us W h => newt_kind (copyP i) us W h (by omega) (by omega) hc hk)
  · exact walk_no i (copyP i) rfl vs P pc xs _ rfl w hT H hP ix lx lc (checkP (copyP i)) hc (fun us W h => newt_bad (copyP i) us W h (by omega) (by omega) hc)

set_option maxRecDepth 100000 in
theorem lifted (os : Os) (started : os.Started) (H : Type) (enc : TypeId × Value → H) :
    ReturnsInHanded {} Tryd.checked os 8 .any (fun w args => (Rows.tourBoundsSpec.pre enc Tryd.prog Tryd.f8 Rows.tourBoundsRow.domain false w args ∧ laidMetH Tryd.prog tabL w) ∧ sizedMet enc Tryd.prog Tryd.f8 (OpenSpec.ofChange Rows.tourBoundsSpec) false w args) (Rows.tourBoundsSpec.post enc Tryd.prog Tryd.f8 false true false false) := by
  refine returnsInHanded_of_change_and (C := Tryd.checked) (X := fun w _ => laidMetH Tryd.prog tabL w) (fun _ _ _ hh h => h.of_heap hh) own started (by kernel_rfl) Tryd.func8
    (ChangeSpec.witness_shaped (enc := enc) (C := Tryd.checked) (os := os) (X := fun w _ => laidMetH Tryd.prog tabL w) false (World.laidAll Tryd.prog os tabL) #[.agg #[.int .i64 0, .int .i64 0, .int .i64 0, .slice none 0 0, .slice none 0 0, .slice none 0 0], .slice none 0 0] 8 (World.laidAll_os _ _ _)
      (World.shaped_of_ZipB (by kernel_rfl) (by kernel_rfl)) (by kernel_rfl) (by kernel_rfl) (by kernel_rfl)
      (by rw [MakeChecks.laidMetH_plain _ _ _ (by kernel_rfl)]; exact laidMet_laidAll _ (by kernel_rfl) (by kernel_rfl))) ?_
  intro W base args ds gs before hval0 hW _ _ hL _
  have hval : ∀ (j : Nat) t v, Tryd.f8.params[j]? = some t → args[j]? = some v → Value.okWide Tryd.prog W .any base t v := hval0
  have hW' := hW
  obtain ⟨p, q, hA0, hV, rfl, hfz, hnd⟩ := hW
  have hA : DataW.TrodAll enc Tryd.prog W 0 (fun _ => true) true Tryd.f8.params.toList args.toList ds p := hA0
  rw [Tryd.params8] at hA hval
  obtain ⟨v0, vs0, d0, ds0, p0, q0, hargs, rfl, rfl, h0, r0⟩ := trodAll_cons hA
  obtain ⟨v1, vs1, d1, ds1, p1, q1, rfl, rfl, rfl, h1, r1⟩ := trodAll_cons r0
  obtain ⟨rfl, rfl, rfl⟩ := trodAll_nil r1
  obtain rfl : args = #[v0, v1] := by cases args; simp_all
  obtain ⟨rfl, rfl⟩ := trodVars_none hV
  obtain ⟨y0, x0, rfl, hx0, ix0⟩ := open_Inst h0 (hval 0 _ v0 rfl rfl)
  obtain ⟨A1, x1, c1, rfl, hx1, ix1, lx1, lc1⟩ := open_RdI h1 (hval 1 _ v1 rfl rfl)
  refine (walk y0 x0 A1 c1 x1 W (tab_of_laid hL) hx0 ix0 hx1 ix1 lx1 lc1).mono fun e W' ⟨he, hg⟩ => ?_
  subst he
  exact ⟨_, rfl, post_law hW' rfl rfl rfl rfl rfl (readable_of (by kernel_rfl)) hg⟩

theorem row : Rows.TourBoundsSaid :=
  OpenClaim.holds_of_wide 8 Tryd.f8 rfl rfl rfl rfl rfl rfl rfl ⟨rfl, rfl, rfl, rfl, rfl⟩ rfl rfl rfl rfl rfl (by kernel_rfl) Tryd.func8 (by kernel_rfl)
    (of_decide_eq_true (by kernel_rfl)) (by unfold Func.isWrapper; first | (rw [if_pos (by decide +kernel)]; kernel_rfl) | (rw [if_neg (by decide +kernel)]; exact ⟨rfl, rfl⟩))
    (fun os started H enc _ => lifted os started H enc)
theorem proved : Rows.TourBoundsCardSaid :=
  Claim7.holds_tied_plain_at .later [] [.data] true Rows.tourBoundsCard.stood.harness false row (fun _ h => by cases h) (by kernel_rfl) (fun _ h => by cases h) tourBounds_row_tie rfl ⟨rfl, rfl⟩ (by kernel_rfl) rfl
    (fun f fn hf hfn => by
      obtain rfl : f = 8 := Option.some.inj ((show Tryd.prog.funcNamed "kurgan/kurganlaw13.TourBounds" = some 8 by kernel_rfl).symm.trans hf) |>.symm
      obtain rfl : fn = Tryd.f8 := (Option.some.inj (Tryd.func8.symm.trans hfn)).symm
      exact ⟨by kernel_rfl, fun j t ht => by
        rw [Tryd.params8] at ht
        have hm : t ∈ [25, 22] := by simpa using Array.mem_of_getElem? ht
        have hall : ([25, 22].all fun u => !Tryd.prog.wantsStandIn u) = true := by kernel_rfl
        exact (show Tryd.prog.wantsStandIn t = false by simpa using List.all_eq_true.1 hall t hm)⟩)
    (by kernel_rfl)
end Go.Proofs.YtpngflmngnjjoaaDoor.tourBounds
