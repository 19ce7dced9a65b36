/-
  An assignment by prices: a way grows: the walk.
  exact.Assignment: the best assignment, and what it costs.
  An assignment's least cost, plainly: rows that cost so much more; rows as columns.
  exact.Assignment: the best assignment, and what it costs: the walk.
  exact's four functions, of all problems: what is taken, what is told, Best; what the document says to it.
  exact's functions, of all problems: an answer that is best, or why there is none.
  Best answers, plainly: when all that is paid is so many times as much; an item that has no room.
  The program's Copy of a problem: its rows copied.
  The program's Copy of a problem, whole: no two of its rows are one.
  inst.Check of a problem whose rows of numbers are as long as a machine's.
  A knapsack's kernel: what New leaves alone of other problems; what a problem in form says.
    A knapsack's kernel as New makes it: its first half, the memory of it.
    A knapsack's kernel as New makes it: what an append and a store do to it.
  An assignment's kernel: New, Depth, free.
    An assignment's kernel: which columns a beginning leaves.
    An assignment's kernel: the least of a row's numbers in some columns.
    An assignment's kernel: what rows cost at least, in some columns.
    A region that draws its order and only reads, walked once inside a round of a loop over a function.
    An assignment's kernel: what rows cost at least, walked.
    An assignment's kernel: what no answer that begins so is below.
  An assignment's kernel: the order of the kids.
    An assignment's kernel: what may follow a beginning.
    The law's own example: a kernel of two rows.
  A core of a drawn region, with words that need not be kept once they are spent.
  kurganref08.Small, Perm, Cost and Best at a checked assignment.
  exact.Best, of all problems; what the document's Cost says to an answer.
  kurgantop.stands and few: problems of few items.
  A square of numbers in memory that is written into: its rows are blocks of their own.
  A problem of the call's own, part by part; how much a best answer costs at most.
  A problem as an argument: how long its rows of numbers may be.
  append(v, x) of ints: the value that was appended to reads as it did.
  From the condition that the table of the lowest bits is as it was laid to the table's cells.
-/
import Derived.Test.YtleckhbmciiooaaDoorKurganScalesP3
import Derived.Sort.BigQuietIn
import Derived.Deep.QuietTactic
import Derived.BigQuiet
import Derived.SizedLaws
import Derived.ArgAppend
import Derived.LaidMore
import Derived.Lay
import Derived.SevenTiedAt
import Derived.Stop.Joined
import Derived.Test.YtleckhbmciiooaaDoorRows
namespace Go.Proofs.YtleckhbmciiooaaDoor
open Go.RowKit Go.ChangeShapes Go.WideShapes Go.ChangeAt Go.Deep

set_option maxRecDepth 100000 in
set_option maxHeartbeats 4000000 in
theorem grow_any {wb w : World} {gp d n N r R gu gv gh gf : Nat} {D : Option Addr} {rows : List (List Int)} {u v : Nat → Int} {has frm : Nat → Nat}
    (hP : PB w gp D d n N gu gv gh gf) (hu : Arr w gu N u) (hv : Arr w gv N v) (hh : Arr w gh N fun c => (has c : Int)) (hf : Arr w gf N fun c => (frm c : Int)) (hd : [gu, gv, gh, gf].Nodup)
    (hC : RdE 1 RInts wb D rows) (hx : Ext wb w) (hb : ∀ k, k < wb.heap.size → ¬ PS gu gv gh gf k) (rok : RowsOk rows) (hn : rows.length = n) (hN : N = n + 1) (hI : HI n (cstR rows) r u v has) (hr : r < n) (hR : R = r + 1) :
    Calls Tryd.prog 68 #[.pointer (some ⟨gp, 0, none⟩), .int .i64 R] w (GrowPost n N R gu gv gh gf (cstR rows) w) := by
  have num : ∀ i c, 1 ≤ i → i ≤ n → 1 ≤ c → c ≤ n → 0 ≤ cstR rows i c ∧ cstR rows i c ≤ 2147483647 := fun i c h1 h2 h3 h4 => ends_num rok (i - 1) (c - 1) (by omega) (by omega)
  have n24 : n ≤ 24 := by rw [← hn]; exact rok.n2
  have SL := fun (W : World) (u v : Nat → Int) (hp : PB W gp D d n N gu gv gh gf) (a1 : Arr W gu N u) (a2 : Arr W gv N v) (x : Ext wb W) (i c : Nat) (i1 : 1 ≤ i) (i2 : i ≤ n) (c1 : 1 ≤ c) (c2 : c ≤ n) (bu : 0 ≤ u i ∧ u i ≤ 2147483647) (bv : -2147483647 ≤ v c ∧ v c ≤ 0) =>
    slack_any hp a1 a2 (hC.ext x fun _ _ h => h.ext x) rok hn hN i1 i2 c1 c2 bu bv
  have XM := fun (W : World) (m : Mod (PS gu gv gh gf) w W) => hx.mod m hb
  have gpn : ¬ PS gu gv gh gf gp := by
    rintro (h | h | h | h)
    · exact hu.ne hP (by decide) h.symm
    · exact hv.ne hP (by decide) h.symm
    · exact hh.ne hP (by decide) h.symm
    · exact hf.ne hP (by decide) h.symm
  have PM := fun (W : World) (m : Mod (PS gu gv gh gf) w W) => (show PB W gp D d n N gu gv gh gf from hP.mod m gpn)
  have h0 : (fun c => if c = 0 then R else has c) 0 = R := rfl
  obtain ⟨hs, hhs⟩ : ∃ hs : Nat → Nat, hs = fun c => if c = 0 then R else has c := ⟨_, rfl⟩
  have hs0 : hs 0 = R := by rw [hhs]; rfl
  have hs1 : ∀ c, 1 ≤ c → hs c = has c := fun c hc => by rw [hhs]; simp only; rw [if_neg (by omega)]
  have HO : HasOk n R hs := by rw [hR]; exact hI.hasOk (by rw [hs0, hR]) hs1
  obtain ⟨cf, cf1, cf2, cf3⟩ := hI.some_free hr
  have HF : ∃ c, 1 ≤ c ∧ c ≤ n ∧ hs c = 0 := ⟨cf, cf1, cf2, by rw [hs1 cf cf1]; exact cf3⟩
  have HG := fun (least : Nat → Int) (frm : Nat → Nat) (e : ∀ c, 1 ≤ c → c ≤ n → least c = farV) => (show GI n (cstR rows) farV R hs [] 0 u v least frm by rw [hR]; exact hI.grow hs1 e)
  have hRn : R ≤ n := by omega
  have MU := And.intro hd (And.intro hu.lt (And.intro hv.lt (And.intro hh.lt hf.lt)))
  have p0 : w.cell? ⟨gp, 0, none⟩ = some (.slice D n d) := hP.cell 0
  have p3 : w.cell? ⟨gp, 3, none⟩ = some (.slice (some ⟨gh, 0, none⟩) N N) := hP.cell 3
  have f0 := hh.free 0
  have k0 := hh.cell (k := 0) (by omega)
  have A1 := hh.set 0 (R : Int)
  have A1' : Arr (w.setCell ⟨gh, 0, none⟩ (.int .i64 R)) gh N (fun c => (hs c : Int)) := A1.congr fun i _ => by rw [hhs]; simp only; split <;> rfl
  have hne : gu ≠ gh ∧ gv ≠ gh ∧ gf ≠ gh := by
    simp only [List.nodup_cons, List.mem_cons, List.not_mem_nil, or_false, not_or] at hd
    exact ⟨hd.1.2.1, hd.2.1.1, fun e => hd.2.2.1 e.symm⟩
  have AA := And.intro A1' (And.intro (hu.far (a := ⟨gh, 0, none⟩) hne.1 (.int .i64 R)) (And.intro (hv.far (a := ⟨gh, 0, none⟩) hne.2.1 (.int .i64 R)) (And.intro (hf.far (a := ⟨gh, 0, none⟩) hne.2.2 (.int .i64 R)) ((Mod.rf (S := PS gu gv gh gf) w).set (p := ⟨gh, 0, none⟩) (.inl (.inr (.inr (.inl rfl)))) (.int .i64 R)))))
  have z0 : (0 : Int) < (N : Int) := by omega
  have e1 : (n : Int) + 1 = (N : Int) := by omega
  have w1 : IntKind.i64.wrap ((n : Int) + 1) = (N : Int) := by rw [e1]; exact IntWalk.i64_in _ (by omega)
  have szw : (w.setCell ⟨gh, 0, none⟩ (.int .i64 R)).heap.size = w.heap.size := by simp [World.setCell]
  have n24N : N ≤ 25 := by omega
  replace AA := Lib.hid AA
  replace SL := Lib.hid SL
  replace XM := Lib.hid XM
  replace PM := Lib.hid PM
  replace HO := Lib.hid HO
  replace HF := Lib.hid HF
  replace HG := Lib.hid HG
  replace hRn := Lib.hid hRn
  replace MU := Lib.hid MU
  replace num := Lib.hid num
  replace hN := Lib.hid hN
  replace hs0 := Lib.hid hs0
  replace szw := Lib.hid szw
  clear hP hu hv hh hf hd hC hx hb rok hn hI hr hR hhs hs1 h0 A1 A1' hne cf cf1 cf2 cf3
  go_enter Tryd.func68, Tryd.ntmps68
  go_upto_region 3 with (fail)
  generalize w.setCell ⟨gh, 0, none⟩ (.int .i64 R) = w1 at *
  clear p0 p3 f0 k0
  go_wp2_with (first
    | (at_make; refine wpl_make_i _ rfl _ _ rfl w1.heap.size _ _ N rfl rfl (by first | rfl | exact e1) (by first | rfl | exact e1) (by omega) (Nat.le_refl _) ?_; rintro w2 o2 g2; replace o2 := Lib.hid o2; replace g2 := Lib.hid g2)
    | (at_make; refine wpl_make_b _ rfl _ _ rfl _ _ N rfl rfl (by first | rfl | exact e1) (by first | rfl | exact e1) (by omega) ?_; rintro w3 a3 g3; replace a3 := Lib.hid a3; replace g3 := Lib.hid g3))
  replace g3 := g3.out
  replace a3 := a3.out
  have a2 := Lib.hid (Arr.of_own o2.out)
  have x2 := Lib.hid ((Ext.rf w1).grownNone g2.out)
  clear o2 g2
  have x3 := (Ext.rf w2).grownNone g3
  obtain ⟨m1, m2, m3, m4, m5⟩ := AA.out
  have z12 := a2.out.lt
  have x13 := x2.out.tr x3
  have AP : ApartH w gu gv gh gf w1.heap.size w2.heap.size := by
    obtain ⟨q1, q2, q3, q4, q5⟩ := MU.out
    have q6 := szw.out
    refine ⟨?_, by omega, by have := x2.out.size; omega⟩
    simp only [List.nodup_cons, List.mem_cons, List.not_mem_nil, or_false, not_or, not_false_eq_true, List.nodup_nil, and_true] at q1 ⊢
    omega
  have GS : Hid (GrowS w w3 gu gv gh gf w1.heap.size w2.heap.size N hs u v (fun c => if c < 0 then farV else 0) frm (fun _ => false)) :=
    ⟨m2.ext x13, m3.ext x13, m1.ext x13, m4.ext x13, (a2.out.ext x3).congr fun i _ => by rw [if_neg (by omega)], a3, m5.ext x13⟩
  generalize w1.heap.size = gl at *
  generalize w2.heap.size = gs at *
  replace AP := Lib.hid AP
  clear m1 m2 m3 m4 m5 z12 x13 x3 x2 a2 a3 g3 AA szw MU
  clear w1 w2
  go_wp2_with (fail)
  go_loopw [35] (fun i wr => ∃ (k : Nat), i = .int .i64 k ∧ k ≤ N ∧ Hid (GrowS w wr gu gv gh gf gl gs N hs u v (fun c => if c < k then farV else 0) frm (fun _ => false))) (fun i _ => N - (intOf i).toNat)
  case atStart => exact ⟨0, rfl, by omega, GS⟩
  case round =>
    obtain ⟨wo, rfl⟩ : ∃ wo : World, wo = wr := ⟨_, rfl⟩
    obtain ⟨k, rfl, hk, HS⟩ := hrel
    clear GS
    by_cases hlt : k < N
    · have kl := HS.out.l.cell hlt
      have fl := HS.out.l.free k
      have q1 : (k : Int) < (N : Int) := by omega
      have F1 := Lib.hid ((HS.out.setL AP.out k farV).congL (l2 := fun c => if c < k + 1 then farV else 0) fun i _ => by
        by_cases e : i = k
        · rw [if_pos e, if_pos (by omega)]
        · rw [if_neg e]
          by_cases e2 : i < k
          · rw [if_pos e2, if_pos (by omega)]
          · rw [if_neg e2, if_neg (by omega)])
      go_wp2_with (fail)
      go_roundw
      case rel => exact ⟨k + 1, by go_num, by omega, F1⟩
      case measure => simp [intOf]; omega
    · obtain rfl : k = N := by omega
      go_wp2_with (fail)
      have HS1 := Lib.hid (HS.out.congL (l2 := fun _ => farV) fun i hi => if_pos hi)
      have G0 := Lib.hid (HG.out (fun _ => farV) frm fun _ _ _ => rfl)
      clear HS HG hlt hk
      go_loopw [9] (fun v9 wr => ∃ (a : Nat) (L : List Nat) (u v least : Nat → Int) (frm : Nat → Nat) (S : Nat → Bool), v9 = .int .i64 a ∧ a ≤ n ∧ Hid (GI n (cstR rows) farV R hs L a u v least frm) ∧ Hid (GrowS w wr gu gv gh gf gl gs k hs u v least frm S) ∧ Hid (∀ c, c ≤ n → (S c = true ↔ c ∈ L))) (fun _ wr => leftB wr gs)
      case atStart => exact ⟨0, [], u, v, _, frm, _, rfl, by omega, G0, HS1, fun c _ => by simp⟩
      case round =>
        clear G0 HS1
        obtain ⟨wp, rfl⟩ : ∃ wp : World, wp = wr := ⟨_, rfl⟩
        obtain ⟨a, L, u, v, least, frm, S, rfl, ha, GG, G1, HS⟩ := hrel
        have p3 : wp.cell? ⟨gp, 3, none⟩ = some (.slice (some ⟨gh, 0, none⟩) k k) := (PM.out _ G1.out.m).cell 3
        have q1 : (a : Int) < (k : Int) := by have := hN.out; omega
        have ka := G1.out.h.cell (k := a) (by have := hN.out; omega)
        by_cases hz : hs a = 0
        · have e0 : ((hs a : Nat) : Int) = 0 := by omega
          rw [e0] at ka
          go_wp2_with (fail)
          go_ret
          exact ⟨a, L, u, v, least, hs, frm, rfl, hz, G1.out.u, G1.out.v, G1.out.h, G1.out.f, GG.out, HO.out, G1.out.m⟩
        · have e0 : (((hs a : Nat) : Int) != 0) = true := by simp; omega
          obtain ⟨row, hrow⟩ : ∃ row, Hid (hs a = row) := ⟨_, rfl⟩
          have ks := G1.out.s.cell (k := a) (by have := hN.out; omega)
          have fs := G1.out.s.free a
          have SA : S a = false := by
            cases h : S a with
            | false => rfl
            | true => exact absurd ((HS.out a ha).1 h) GG.out.notin
          obtain ⟨S5, hS5⟩ : ∃ S5 : Nat → Bool, S5 = fun i => if i = a then true else S i := ⟨_, rfl⟩
          have G2 := Lib.hid (G1.out.setS AP.out a true)
          rw [← hS5] at G2
          have S2 : Hid (∀ c, c ≤ n → (S5 c = true ↔ c ∈ L ++ [a])) := fun c hc => by
            rw [hS5]
            simp only [List.mem_append, List.mem_singleton]
            by_cases e : c = a
            · simp [e]
            · rw [if_neg e, HS.out c hc]
              simp [e]
          have ML : Hid (∀ W, ArrB W gs k S5 → leftB W gs < leftB wp gs) := fun W h1 => by
            rw [h1.left, G1.out.s.left]
            exact left_less (by have := hN.out; omega) SA fun _ => by rw [hS5]
          have BD := Lib.hid (GG.out.bound HO.out hRn.out HF.out num.out)
          have RB : 1 ≤ row ∧ row ≤ n := by
            have h1 := HO.out.le a ha
            have h2 := hrow.out
            have h3 := hRn.out
            omega
          have hz' : Hid (hs a ≠ 0) := hz
          clear hS5 SA HS hz G1
          rw [hrow.out] at ka e0
          go_upto_region 13 with (fail)
          generalize wp.setCell ⟨gs, a, none⟩ (.bool true) = w5 at *
          clear p3 ka ks fs
          have p3 : w5.cell? ⟨gp, 3, none⟩ = some (.slice (some ⟨gh, 0, none⟩) k k) := (PM.out _ G2.out.m).cell 3
          have ka := G2.out.h.cell (k := a) (by have := hN.out; omega)
          simp only [hrow.out] at ka
          go_wp2_with (fail)
          clear p3 ka
          go_loopw [11, 12, 13] (fun v11 v12 v13 wr => ∃ (c next : Nat) (step : Int) (least2 : Nat → Int) (frm2 : Nat → Nat), v11 = .int .i64 step ∧ v12 = .int .i64 next ∧ v13 = .int .i64 c ∧ 1 ≤ c ∧ c ≤ k ∧ Hid (LookR n farV (fun c => cstR rows row c - u row - v c) S5 a least least2 frm frm2 c next step) ∧ Hid (GrowS w wr gu gv gh gf gl gs k hs u v least2 frm2 S5)) (fun _ _ v13 _ => k - (intOf v13).toNat)
          case atStart => exact ⟨1, 0, farV, least, frm, rfl, rfl, rfl, by omega, by have := hN.out; omega, LookR.start, G2⟩
          case round =>
            clear G2
            obtain ⟨wq, rfl⟩ : ∃ wq : World, wq = wr := ⟨_, rfl⟩
            obtain ⟨c, next, step, least2, frm2, rfl, rfl, rfl, hc1, hck, LR, G3⟩ := hrel
            by_cases hcn : c ≤ n
            · have q2 : (c : Int) ≤ (n : Int) := by omega
              have q3 : (c : Int) < (k : Int) := by have := hN.out; omega
              have wc1 : IntKind.i64.wrap ((c : Int) + 1) = ((c + 1 : Nat) : Int) := IntWalk.i64_in _ (by omega)
              have ks := G3.out.s.cell (k := c) (by have := hN.out; omega)
              obtain ⟨sb, hsb⟩ : ∃ sb, Hid (S5 c = sb) := ⟨_, rfl⟩
              rw [hsb.out] at ks
              cases sb with
              | true =>
                have LR2 := Lib.hid (LR.out.skip hsb.out)
                clear LR
                go_wp2_with (fail)
                go_roundw
                case rel => exact ⟨c + 1, next, step, least2, frm2, rfl, rfl, by go_num, by omega, by have := hN.out; omega, LR2, G3⟩
                case measure => simp [intOf]; omega
              | false =>
                have hb1 := BD.out.1 row RB.1 RB.2
                have hb2 := BD.out.2 c hc1 hcn
                have SC := Lib.hid (SL.out wq u v (PM.out _ G3.out.m) G3.out.u G3.out.v (XM.out _ G3.out.m) row c RB.1 RB.2 hc1 hcn hb1 hb2)
                have nb := num.out row c RB.1 RB.2 hc1 hcn
                go_wp2_with (fail)
                refine SC.out.mono ?_
                rintro e w6 ⟨rfl, x6⟩
                have G4 := Lib.hid (G3.out.ext x6)
                clear G3 x6 SC ks
                obtain ⟨x, hx⟩ : ∃ x, Hid (cstR rows row c - u row - v c = x) := ⟨_, rfl⟩
                rw [show costAt rows (row - 1) (c - 1) - u row - v c = x from hx.out]
                have xb : x < farV := by
                  have := hx.out
                  show x < 1152921504606846976
                  omega
                have lk := (LR.out.keep c (.inr (.inl (Nat.le_refl _))))
                have kl := G4.out.l.cell (k := c) (by have := hN.out; omega)
                have fl := G4.out.l.free c
                clear hb1 hb2 nb
                by_cases h1 : x < least2 c
                · have LK := LR.out.look (l2 := fun i => if i = c then x else least2 i) (f2 := fun i => if i = c then a else frm2 i) (x := x) hsb.out hc1 (.inl ⟨by rw [← lk.1]; exact hx.out ▸ h1, hx.out.symm, if_pos rfl⟩) (fun _ => rfl) (fun i hi => if_neg hi) xb
                  have G5 := Lib.hid ((G4.out.setL AP.out c x).setF AP.out c a)
                  have p4 : w6.cell? ⟨gp, 4, none⟩ = some (.slice (some ⟨gf, 0, none⟩) k k) := (PM.out _ G4.out.m).cell 4
                  have kf := G4.out.f.cell (k := c) (by have := hN.out; omega)
                  have ff := G4.out.f.free c
                  have nlf : gl ≠ gf := AP.out.ne.2.2.2.1.1.symm
                  replace LK := Lib.hid LK
                  replace lk := Lib.hid lk
                  clear LR G4
                  go_upto_region 22 with (go_region)
                  generalize (w6.setCell ⟨gl, c, none⟩ (.int .i64 x)).setCell ⟨gf, c, none⟩ (.int .i64 a) = w7 at *
                  clear kl fl p4 kf ff nlf
                  have kl : w7.cell? ⟨gl, c, none⟩ = some (.int .i64 x) := by
                    have := G5.out.l.cell (k := c) (by have := hN.out; omega)
                    rwa [if_pos rfl] at this
                  by_cases h2 : x < step
                  · have LK2 := Lib.hid (LK.out.1 h2)
                    go_wp2_with (fail)
                    go_roundw
                    case rel => exact ⟨c + 1, c, x, _, _, rfl, rfl, by go_num, by omega, by have := hN.out; omega, LK2, G5⟩
                    case measure => simp [intOf]; omega
                  · have LK2 := Lib.hid (LK.out.2 (by omega))
                    go_wp2_with (fail)
                    go_roundw
                    case rel => exact ⟨c + 1, next, step, _, _, rfl, rfl, by go_num, by omega, by have := hN.out; omega, LK2, G5⟩
                    case measure => simp [intOf]; omega
                · obtain ⟨y, hy⟩ : ∃ y, Hid (least2 c = y) := ⟨_, rfl⟩
                  rw [hy.out] at kl
                  have EL : ∀ i, least2 i = if i = c then y else least2 i := fun i => by
                    by_cases e : i = c
                    · rw [if_pos e, e, hy.out]
                    · rw [if_neg e]
                  have E1 : least c ≤ cstR rows row c - u row - v c := by
                    have := hx.out
                    rw [← lk.1]
                    omega
                  have E2 : y = least c := by rw [← hy.out]; exact lk.1
                  have LK := LR.out.look (l2 := least2) (f2 := frm2) (x := y) hsb.out hc1 (.inr ⟨E1, E2, lk.2⟩) EL (fun _ _ => rfl) (by have := hy.out; omega)
                  clear EL E1 E2
                  replace LK := Lib.hid LK
                  replace lk := Lib.hid lk
                  have h1' : ¬ x < y := by rw [← hy.out]; exact h1
                  clear LR h1
                  by_cases h2 : y < step
                  · have LK2 := Lib.hid (LK.out.1 h2)
                    go_wp2_with (fail)
                    go_roundw
                    case rel => exact ⟨c + 1, c, y, _, _, rfl, rfl, by go_num, by omega, by have := hN.out; omega, LK2, G4⟩
                    case measure => simp [intOf]; omega
                  · have LK2 := Lib.hid (LK.out.2 (by omega))
                    go_wp2_with (fail)
                    go_roundw
                    case rel => exact ⟨c + 1, next, step, _, _, rfl, rfl, by go_num, by omega, by have := hN.out; omega, LK2, G4⟩
                    case measure => simp [intOf]; omega
            · obtain rfl : c = k := by have := hN.out; omega
              have nz : ∀ j, j ≤ n → S5 j = true → hs j ≠ 0 := fun j hj hs => by
                rcases List.mem_append.1 ((S2.out j hj).1 hs) with h | h
                · exact GG.out.seen j h
                · obtain rfl := List.mem_singleton.1 h
                  exact hz'.out
              have un : ∀ j, j ≤ n → j ∉ L ++ [a] → S5 j = false := fun j hj h => by
                cases e : S5 j with
                | false => rfl
                | true => exact absurd ((S2.out j hj).1 e) h
              have K0 : 1 ≤ next ∧ next ≤ n ∧ next ∉ L ++ [a] ∧ step = least2 next ∧ ∀ j, 1 ≤ j → j ≤ n → j ∉ L ++ [a] → step ≤ least2 j := by
                rcases LR.out.best with ⟨_, _, b3⟩ | ⟨b1, b2, b3, b4, b5⟩
                · exfalso
                  obtain ⟨c0, d1, d2, d3⟩ := HF.out
                  exact nz c0 d2 (b3 c0 d1 (by omega)) d3
                · have e := hN.out
                  refine ⟨b1, by omega, fun hm => ?_, b4, fun j j1 j2 j3 => b5 j j1 (by omega) (un j j2 j3)⟩
                  rw [(S2.out next (by omega)).2 hm] at b3
                  cases b3
              have K1 : ∀ j, 1 ≤ j → j ≤ n → j ∉ L ++ [a] → (cstR rows (hs a) j - u (hs a) - v j < least j ∧ least2 j = cstR rows (hs a) j - u (hs a) - v j ∧ frm2 j = a) ∨ (least j ≤ cstR rows (hs a) j - u (hs a) - v j ∧ least2 j = least j ∧ frm2 j = frm j) := fun j j1 j2 j3 => by
                rw [hrow.out]
                exact LR.out.done j j1 (by have := hN.out; omega) (un j j2 j3)
              have K1' : ∀ j, j ∈ L ++ [a] → frm2 j = frm j := fun j hj => (LR.out.keep j (.inr (.inr ((S2.out j (GG.out.le j hj)).2 hj)))).2
              have NB : ∀ j, 1 ≤ j → j ≤ n → S5 j = false → 0 ≤ least2 j ∧ least2 j ≤ 4294967294 := fun j j1 j2 j3 => by
                have hj : j ∉ L ++ [a] := fun hm => by
                  rw [(S2.out j j2).2 hm] at j3
                  cases j3
                exact near_bd GG.out HO.out hRn.out hz'.out num.out BD.out.1 BD.out.2 j1 j2 hj (K1 j j1 j2 hj)
              have sb : 0 ≤ step ∧ step ≤ 4294967294 := by
                rw [K0.2.2.2.1]
                exact NB next K0.1 K0.2.1 (un next K0.2.1 K0.2.2.1)
              have s0 : S5 0 = true := by
                refine (S2.out 0 (by omega)).2 ?_
                have := GG.out.first
                exact List.mem_of_mem_head? this
              replace K0 := Lib.hid K0
              replace K1 := Lib.hid K1
              replace K1' := Lib.hid K1'
              replace NB := Lib.hid NB
              replace nz := Lib.hid nz
              replace un := Lib.hid un
              replace s0 := Lib.hid s0
              clear LR
              go_wp2_with (fail)
              go_loopw [103] (fun i wr => ∃ (j : Nat) (u3 v3 least3 : Nat → Int), i = .int .i64 j ∧ j ≤ c ∧ Hid (TurnR S5 hs step u v least2 u3 v3 least3 j) ∧ Hid (GrowS w wr gu gv gh gf gl gs c hs u3 v3 least3 frm2 S5)) (fun i _ => c - (intOf i).toNat)
              case atStart => exact ⟨0, u, v, least2, rfl, by omega, TurnR.start, G3⟩
              case round =>
                clear G3
                obtain ⟨wr2, rfl⟩ : ∃ wr2 : World, wr2 = wr := ⟨_, rfl⟩
                obtain ⟨j, u3, v3, least3, rfl, hj, TR, G3⟩ := hrel
                by_cases hjc : j < c
                · have q2 : (j : Int) < (c : Int) := by omega
                  have wj : IntKind.i64.wrap ((j : Int) + 1) = ((j + 1 : Nat) : Int) := IntWalk.i64_in _ (by omega)
                  have ks := G3.out.s.cell hjc
                  obtain ⟨sj, hsj⟩ : ∃ sj, Hid (S5 j = sj) := ⟨_, rfl⟩
                  rw [hsj.out] at ks
                  have jn : j ≤ n := by have := hN.out; omega
                  cases sj with
                  | true =>
                    obtain ⟨rw, hrw⟩ : ∃ rw, Hid (hs j = rw) := ⟨_, rfl⟩
                    have rw1 : 1 ≤ rw ∧ rw ≤ n := by
                      have h1 := HO.out.le j jn
                      have h2 := nz.out j jn hsj.out
                      have h3 := hRn.out
                      rw [hrw.out] at h1 h2
                      omega
                    obtain ⟨z, hzz⟩ : ∃ z, Hid (IntKind.i64.wrap (v3 j - step) = z) := ⟨_, rfl⟩
                    have INJ : ∀ s, s < j → S5 s = true → hs s ≠ hs j := fun s h1 h2 h3 => by
                      have := HO.out.inj s j (by omega) jn h3 (nz.out s (by omega) h2)
                      omega
                    have V1 : 1 ≤ j → v3 j = v j := fun h => by rw [TR.out.v j h, if_neg (by omega)]
                    obtain ⟨T1, _, T2⟩ := TR.out.seen (v2 := fun i => if i = j then z else v3 i) hsj.out INJ (fun i hi => by
                      by_cases e : i = j
                      · subst e
                        rw [if_pos rfl, if_pos rfl, ← hzz.out]
                        have h1 := BD.out.2 i hi jn
                        have h2 := V1 hi
                        exact IntWalk.i64_in _ (by omega)
                      · rw [if_neg e, if_neg e])
                    rw [hrw.out] at T1 T2
                    have bu := BD.out.1 rw rw1.1 rw1.2
                    obtain ⟨ur, hur⟩ : ∃ ur, Hid (u3 rw = ur) := ⟨_, rfl⟩
                    have wu : IntKind.i64.wrap (ur + step) = ur + step := IntWalk.i64_in _ (by rw [← hur.out, T1]; omega)
                    have q3 : (rw : Int) < (c : Int) := by omega
                    have q4 : rw < c := by omega
                    have kh := G3.out.h.cell hjc
                    simp only [hrw.out] at kh
                    have ku := G3.out.u.cell q4
                    rw [hur.out] at ku T2
                    have fu := G3.out.u.free rw
                    have p1 : wr2.cell? ⟨gp, 1, none⟩ = some (.slice (some ⟨gu, 0, none⟩) c c) := (PM.out _ G3.out.m).cell 1
                    have p3 : wr2.cell? ⟨gp, 3, none⟩ = some (.slice (some ⟨gh, 0, none⟩) c c) := (PM.out _ G3.out.m).cell 3
                    have G4 := Lib.hid (G3.out.setU AP.out rw (ur + step))
                    replace T2 := Lib.hid T2
                    clear G3 TR T1 INJ V1 bu
                    go_wp2_with (fail)
                    refine wp_region_any (by kernel_rfl) ?_
                    change wpAny _ _ _ _ _ _ _ (World.drew _)
                    refine wpAny_T (i := 0) (op := Op.move (Operand.tmp 0)) (t := 103) (d := some 110) (v := ?_) rfl (by decide +kernel) (by decide +kernel) (by decide +kernel) (fun _ _ _ h => h) ?_ ?_
                    case refine_2 => (intro _; unfold exec2; go_simp; try with_reducible rfl)
                    try simp only [Act.put, List.setIfInBounds_toArray, List.set_cons_zero, List.set_cons_succ]
                    refine wpAny_T (i := 1) (op := Op.nilCheck (Operand.tmp 110)) (t := 0) (d := some 111) (v := ?_) rfl (by decide +kernel) (by decide +kernel) (by decide +kernel) (fun _ _ _ h => h) ?_ ?_
                    case refine_2 => (intro _; unfold exec2; go_simp; try with_reducible rfl)
                    try simp only [Act.put, List.setIfInBounds_toArray, List.set_cons_zero, List.set_cons_succ]
                    refine wpAny_T (i := 2) (op := Op.fieldAddr 105 (Operand.tmp 111) 1) (t := 0) (d := some 112) (v := ?_) rfl (by decide +kernel) (by decide +kernel) (by decide +kernel) (fun _ _ _ h => h) ?_ ?_
                    case refine_2 => (intro _; unfold exec2; go_simp; try with_reducible rfl)
                    try simp only [Act.put, List.setIfInBounds_toArray, List.set_cons_zero, List.set_cons_succ]
                    refine wpAny_T (i := 4) (op := Op.move (Operand.tmp 0)) (t := 103) (d := some 114) (v := ?_) rfl (by decide +kernel) (by decide +kernel) (by decide +kernel) (fun _ _ _ h => h) ?_ ?_
                    case refine_2 => (intro _; unfold exec2; go_simp; try with_reducible rfl)
                    try simp only [Act.put, List.setIfInBounds_toArray, List.set_cons_zero, List.set_cons_succ]
                    refine wpAny_T (i := 5) (op := Op.nilCheck (Operand.tmp 114)) (t := 0) (d := some 115) (v := ?_) rfl (by decide +kernel) (by decide +kernel) (by decide +kernel) (fun _ _ _ h => h) ?_ ?_
                    case refine_2 => (intro _; unfold exec2; go_simp; try with_reducible rfl)
                    try simp only [Act.put, List.setIfInBounds_toArray, List.set_cons_zero, List.set_cons_succ]
                    refine wpAny_T (i := 6) (op := Op.fieldAddr 105 (Operand.tmp 115) 3) (t := 0) (d := some 116) (v := ?_) rfl (by decide +kernel) (by decide +kernel) (by decide +kernel) (fun _ _ _ h => h) ?_ ?_
                    case refine_2 => (intro _; unfold exec2; go_simp; try with_reducible rfl)
                    try simp only [Act.put, List.setIfInBounds_toArray, List.set_cons_zero, List.set_cons_succ]
                    refine wpAny_T (i := 8) (op := Op.move (Operand.tmp 15)) (t := 3) (d := some 118) (v := ?_) rfl (by decide +kernel) (by decide +kernel) (by decide +kernel) (fun _ _ _ h => h) ?_ ?_
                    case refine_2 => (intro _; unfold exec2; go_simp; try with_reducible rfl)
                    try simp only [Act.put, List.setIfInBounds_toArray, List.set_cons_zero, List.set_cons_succ]
                    refine wpAny_T (i := 13) (op := Op.move (Operand.tmp 11)) (t := 3) (d := some 123) (v := ?_) rfl (by decide +kernel) (by decide +kernel) (by decide +kernel) (fun _ _ _ h => h) ?_ ?_
                    case refine_2 => (intro _; unfold exec2; go_simp; try with_reducible rfl)
                    try simp only [Act.put, List.setIfInBounds_toArray, List.set_cons_zero, List.set_cons_succ]
                    refine wpAny_reads (n := 2) [(3, some 113), (7, some 117), (9, some 119), (10, some 120), (11, some 121), (12, some 122), (14, some 124)] (fun | 3 => .slice (some ⟨gu, 0, none⟩) c c | 7 => .slice (some ⟨gh, 0, none⟩) c c | 9 => .pointer (some ⟨gh, j, none⟩) | 10 => .int .i64 rw | 11 => .pointer (some ⟨gu, rw, none⟩) | 12 => .int .i64 ur | 14 => .int .i64 (ur + step) | _ => undef) #[true, true, true, true, true, true, true, true, true, true, true, true, true, true, true, false, false] (by decide +kernel) ?_ ?_
                    · intro pS hpm uS hD K hK
                      simp only [List.mem_cons, List.not_mem_nil, or_false] at hpm
                      rcases hpm with rfl | rfl | rfl | rfl | rfl | rfl | rfl
                      · exact op_ld (T := 22) (x := Operand.tmp 112) (t := 22) (d := some 113) rfl (.pointer (some ⟨gp, 1, none⟩)) (by kernel_rfl) (.slice (some ⟨gu, 0, none⟩) c c) (by go_simp) hK
                      · exact op_ld (T := 22) (x := Operand.tmp 116) (t := 22) (d := some 117) rfl (.pointer (some ⟨gp, 3, none⟩)) (by kernel_rfl) (.slice (some ⟨gh, 0, none⟩) c c) (by go_simp) hK
                      · exact op_ix (T := 22) (x := Operand.tmp 117) (y := Operand.tmp 118) (t := 0) (d := some 119) rfl (.slice (some ⟨gh, 0, none⟩) c c) (.int .i64 j) (Eq.trans (b := uS 7) (by kernel_rfl) (hD 7 (depIn (by kernel_rfl)))) (by kernel_rfl) (.pointer (some ⟨gh, j, none⟩)) (by go_simp) hK
                      · exact op_ld (T := 3) (x := Operand.tmp 119) (t := 3) (d := some 120) rfl (.pointer (some ⟨gh, j, none⟩)) (Eq.trans (b := uS 9) (by kernel_rfl) (hD 9 (depIn (by kernel_rfl)))) (.int .i64 rw) (by go_simp) hK
                      · exact op_ix (T := 22) (x := Operand.tmp 113) (y := Operand.tmp 120) (t := 0) (d := some 121) rfl (.slice (some ⟨gu, 0, none⟩) c c) (.int .i64 rw) (Eq.trans (b := uS 3) (by kernel_rfl) (hD 3 (depIn (by kernel_rfl)))) (Eq.trans (b := uS 10) (by kernel_rfl) (hD 10 (depIn (by kernel_rfl)))) (.pointer (some ⟨gu, rw, none⟩)) (by go_simp) hK
                      · exact op_ld (T := 3) (x := Operand.tmp 121) (t := 3) (d := some 122) rfl (.pointer (some ⟨gu, rw, none⟩)) (Eq.trans (b := uS 11) (by kernel_rfl) (hD 11 (depIn (by kernel_rfl)))) (.int .i64 ur) (by go_simp) hK
                      · (have e12 : uS 12 = .int .i64 ur := hD 12 (depIn (by kernel_rfl)); exact op_run (op := Op.binOp BinOp.add 3 (Operand.tmp 122) (Operand.tmp 123) 3) (t := 3) (d := some 124) rfl (.int .i64 (ur + step)) (by simp only [putAll, Act.put, List.setIfInBounds_toArray, List.set_cons_zero, List.set_cons_succ]; unfold exec2; go_simp; try simp only [e12]; try go_simp) hK)
                    simp only [putAll, Act.put, List.setIfInBounds_toArray, List.set_cons_zero, List.set_cons_succ]
                    refine wpAny_T (i := 15) (op := Op.indexAddr 22 (Operand.tmp 113) (Operand.tmp 120)) (t := 0) (d := some 125) (v := ?_) rfl (by decide +kernel) (by decide +kernel) (by decide +kernel) (fun _ _ _ h => h) ?_ ?_
                    case refine_2 => (intro _; unfold exec2; go_simp; try with_reducible rfl)
                    try simp only [Act.put, List.setIfInBounds_toArray, List.set_cons_zero, List.set_cons_succ]
                    refine wpAny_next 16 (by decide +kernel) (op_st rfl (.pointer (some ⟨gu, rw, none⟩)) (.int .i64 (ur + step)) (by kernel_rfl) (by kernel_rfl) (by go_simp; rfl) ?_)
                    refine wpAny_done (by kernel_rfl) ?_ _
                    clear kh ku fu p1 p3 ks
                    generalize wr2.setCell ⟨gu, rw, none⟩ (.int .i64 (ur + step)) = w8 at *
                    have G5 := Lib.hid (G4.out.ext ((Ext.rf _).drew))
                    have p2 : w8.drew.cell? ⟨gp, 2, none⟩ = some (.slice (some ⟨gv, 0, none⟩) c c) := (PM.out _ G5.out.m).cell 2
                    have kv := G5.out.v.cell hjc
                    have fv := G5.out.v.free j
                    have G6 := Lib.hid (G5.out.setV AP.out j z)
                    have zz := hzz.out
                    clear G4
                    go_simp
                    go_wp2_with (fail)
                    go_roundw
                    case rel => exact ⟨j + 1, _, _, least3, by go_num, by omega, T2, G6⟩
                    case measure => simp [intOf]; omega
                  | false =>
                    have j1 : 1 ≤ j := by
                      rcases Nat.eq_zero_or_pos j with rfl | h
                      · have := s0.out
                        rw [hsj.out] at this
                        cases this
                      · exact h
                    obtain ⟨T1, T2⟩ := TR.out.unseen hsj.out
                    have nb := NB.out j j1 jn hsj.out
                    have kl := G3.out.l.cell hjc
                    have fl := G3.out.l.free j
                    have wl : IntKind.i64.wrap (least3 j - step) = least3 j - step := IntWalk.i64_in _ (by rw [T1]; omega)
                    have G4 := Lib.hid (G3.out.setL AP.out j (least3 j - step))
                    replace T2 := Lib.hid T2
                    replace T1 := Lib.hid T1
                    clear G3 TR nb
                    go_wp2_with (fail)
                    go_roundw
                    case rel => exact ⟨j + 1, u3, v3, _, by go_num, by omega, T2, G4⟩
                    case measure => simp [intOf]; omega
                · obtain rfl : j = c := by omega
                  have RD := GG.out.round (frm' := frm2) (least' := least2) (u' := u3) (v' := v3) (least2 := least3) HO.out hRn.out (fun i c i1 i2 c1 c2 => by
                    have h1 := num.out i c i1 i2 c1 c2
                    have h2 := BD.out.1 i i1 i2
                    have h3 := BD.out.2 c c1 c2
                    show _ < (1152921504606846976 : Int)
                    omega) hz'.out K1.out K1'.out K0.out
                    (fun i => by
                      rw [TR.out.u]
                      by_cases e : ∃ s, s ∈ L ++ [a] ∧ hs s = i
                      · obtain ⟨s, e1, e2⟩ := e
                        have e3 := GG.out.le s e1
                        rw [if_pos (show ∃ s, s < j ∧ S5 s = true ∧ hs s = i from ⟨s, by have := hN.out; omega, (S2.out s e3).2 e1, e2⟩), if_pos (show ∃ s, s ∈ L ++ [a] ∧ hs s = i from ⟨s, e1, e2⟩)]
                      · rw [if_neg e, if_neg (show ¬ ∃ s, s < j ∧ S5 s = true ∧ hs s = i from fun ⟨s, e1, e2, e3⟩ => e ⟨s, (S2.out s (by have := hN.out; omega)).1 e2, e3⟩)])
                    (fun i i1 i2 => by
                      rw [TR.out.v i i1]
                      by_cases e : i ∈ L ++ [a]
                      · rw [if_pos e, if_pos (show i < j ∧ S5 i = true from ⟨by have := hN.out; omega, (S2.out i i2).2 e⟩)]
                      · rw [if_neg e, if_neg (show ¬ (i < j ∧ S5 i = true) from fun ⟨_, e2⟩ => e ((S2.out i i2).1 e2))])
                    (fun i i1 i2 i3 => by rw [TR.out.l, if_pos ⟨by have := hN.out; omega, un.out i i2 i3⟩])
                  have G5 := Lib.hid RD.1
                  clear RD GG TR
                  go_wp2_with (fail)
                  go_roundw
                  case rel => exact ⟨next, L ++ [a], u3, v3, least3, frm2, S5, rfl, K0.out.2.1, G5, G3, S2⟩
                  case measure => exact ML.out _ G3.out.s
end Go.Proofs.YtleckhbmciiooaaDoor
namespace Go.Proofs.YtleckhbmciiooaaDoor
open Go.RowKit Go.ChangeShapes Go.WideShapes Go.ChangeAt Go.Deep

/-- when all rows have columns, each column has a row -/
theorem HI.full {n : Nat} {cst : Nat → Nat → Int} {u v : Nat → Int} {has : Nat → Nat} (h : HI n cst n u v has) {c : Nat} (c1 : 1 ≤ c) (c2 : c ≤ n) : 1 ≤ has c ∧ has c ≤ n := by
  refine ⟨?_, h.le c c1 c2⟩
  rcases Nat.eq_zero_or_pos (has c) with e | e
  · exfalso
    have ex : ∀ i, ∃ d, i < n → 1 ≤ d ∧ d ≤ n ∧ has d = i + 1 := fun i => by
      by_cases hi : i < n
      · obtain ⟨d, h1, h2, h3⟩ := h.all (i + 1) (by omega) (by omega)
        exact ⟨d, fun _ => ⟨h1, h2, h3⟩⟩
      · exact ⟨0, fun h => absurd h hi⟩
    have hf := fun i => Classical.choose_spec (ex i)
    generalize (fun i => Classical.choose (ex i)) = f at *
    have hf' : ∃ f : Nat → Nat, ∀ i, i < n → 1 ≤ f i ∧ f i ≤ n ∧ has (f i) = i + 1 := ⟨fun i => Classical.choose (ex i), fun i hi => Classical.choose_spec (ex i) hi⟩
    obtain ⟨f, hf⟩ := hf'
    have hl := nodup_le (l := (c - 1) :: (List.range n).map fun i => f i - 1) (n := n) ?_ ?_
    · simp at hl
      omega
    · refine List.nodup_cons.2 ⟨?_, List.pairwise_map.2 (List.Pairwise.imp_of_mem ?_ List.nodup_range)⟩
      · intro hm
        obtain ⟨i, hi, e2⟩ := List.mem_map.1 hm
        obtain ⟨h1, h2, h3⟩ := hf i (List.mem_range.1 hi)
        have : f i = c := by omega
        rw [this] at h3
        omega
      · intro a b ha hb hab e2
        obtain ⟨h1, h2, h3⟩ := hf a (List.mem_range.1 ha)
        obtain ⟨k1, k2, k3⟩ := hf b (List.mem_range.1 hb)
        have : f a = f b := by omega
        rw [this] at h3
        omega
    · intro x hx
      rcases List.mem_cons.1 hx with rfl | hx
      · omega
      · obtain ⟨i, hi, rfl⟩ := List.mem_map.1 hx
        have := hf i (List.mem_range.1 hi)
        omega
  · exact e
set_option maxRecDepth 100000 in
set_option maxHeartbeats 1000000 in
theorem takes2_any (i : InstP) (us : List Value) (w : World) (H : RInst w us i) (hc : checkP i = 0) (hk : i.kind = 2) :
    Calls Tryd.prog 62 #[.agg (List.toArray us), .int .i64 2] w fun e w' => e = .returned (.int .i64 0) ∧ Ext w w' := by
  have sq := square_ok hc (by omega)
  have CH := fun (W : World) (x : Ext w W) => check_any i us W (H.ext x) (by rw [sq.w]; simp) (by rw [sq.v]; simp)
  rw [hc] at CH
  obtain ⟨kind, nn, cap, xw, xv, co⟩ := i
  obtain ⟨A, a, B, b, D, d, rfl, -, -, -⟩ := H
  simp only at *
  subst hk
  have B1 : Hid (Blk (w.alloc (.cells #[.int .i64 2, .int .i64 nn, .int .i64 cap, .slice A xw.length a, .slice B xv.length b, .slice D co.length d] 25)) w.heap.size 25 #[.int .i64 2, .int .i64 nn, .int .i64 cap, .slice A xw.length a, .slice B xv.length b, .slice D co.length d]) := .new rfl
  replace CH := Lib.hid CH
  clear hc sq
  go_enter Tryd.func62, Tryd.ntmps62
  go_wp2_with (fail)
  refine (CH.out _ (by (repeat (first | assumption | exact Ext.rf _ | apply Ext.drew | apply Ext.drewN | apply Ext.alloc)))).mono ?_
  rintro e w1 ⟨rfl, x1⟩
  have X1 := Lib.hid (Ext.tr (a := w) (by (repeat (first | assumption | exact Ext.rf _ | apply Ext.drew | apply Ext.drewN | apply Ext.alloc))) x1)
  have b1 := Lib.hid (B1.out.ext x1)
  have t0 : w1.cell? ⟨w.heap.size, 0, none⟩ = some (.int .i64 2) := b1.out.cell 0
  have t1 : w1.cell? ⟨w.heap.size, 1, none⟩ = some (.int .i64 nn) := b1.out.cell 1
  clear x1 B1
  go_wp2_with (fail)
  go_ret
  exact ⟨rfl, X1.out.tr (by (repeat (first | assumption | exact Ext.rf _ | apply Ext.drew | apply Ext.drewN | apply Ext.alloc)))⟩
set_option maxRecDepth 100000 in
set_option maxHeartbeats 1000000 in
theorem told2_any (i : InstP) (us : List Value) (P : Option Addr) (c : Nat) (l : List Nat) (w : World) (H : RInst w us i) (hc : checkP i = 0) (hk : i.kind = 2) (hP : RdI w P (intsN l)) (hl : l.Perm (List.range i.cost.length)) :
    Calls Tryd.prog 66 #[.agg (List.toArray us), .slice P i.cost.length c] w fun e w' => e = .returned (.tuple #[.slice P i.cost.length c, .int .i64 (costF i.cost (intsN l)), .int .i64 0]) ∧ Ext w w' := by
  have VC := fun (W : World) (x : Ext w W) => vcost2_any i us P c l W (H.ext x) hc hk (hP.ext x) hl
  obtain ⟨kind, nn, cap, xw, xv, co⟩ := i
  obtain ⟨A, a, B, b, D, d, rfl, -, -, -⟩ := H
  simp only at *
  generalize costF co (intsN l) = cc at *
  replace VC := Lib.hid VC
  clear hc hk hP hl
  go_enter Tryd.func66, Tryd.ntmps66
  go_wp2_with (fail)
  refine (VC.out _ (by (repeat (first | assumption | exact Ext.rf _ | apply Ext.drew | apply Ext.drewN | apply Ext.alloc)))).mono ?_
  rintro e w1 ⟨rfl, x1⟩
  have X1 := Lib.hid (Ext.tr (a := w) (by (repeat (first | assumption | exact Ext.rf _ | apply Ext.drew | apply Ext.drewN | apply Ext.alloc))) x1)
  clear x1
  go_wp2_with (fail)
  go_ret3
  exact ⟨rfl, X1.out.tr (by (repeat (first | assumption | exact Ext.rf _ | apply Ext.drew | apply Ext.drewN | apply Ext.alloc)))⟩
end Go.Proofs.YtleckhbmciiooaaDoor
namespace Go.Proofs.YtleckhbmciiooaaDoor

/-- no order costs less -/
def Least (rows : List (List Int)) (n : Nat) (c : Int) : Prop := (∃ x : List Nat, x.Perm (List.range n) ∧ costF rows (intsN x) = c) ∧ ∀ q : List Nat, q.Perm (List.range n) → c ≤ costF rows (intsN q)
theorem Least.one {rows : List (List Int)} {n : Nat} {c d : Int} (h : Least rows n c) (k : Least rows n d) : c = d := by
  obtain ⟨x, h1, h2⟩ := h.1
  obtain ⟨y, k1, k2⟩ := k.1
  have a := h.2 y k1
  have b := k.2 x h1
  omega
theorem perm_len {x : List Nat} {n : Nat} (h : x.Perm (List.range n)) : x.length = n := by rw [h.length_eq, List.length_range]
theorem idx_map {x : List Nat} (h : x.Nodup) : (x.map fun c => x.idxOf c) = List.range x.length := by
  refine List.ext_getElem (by simp) fun i h1 h2 => ?_
  simp only [List.getElem_map, List.getElem_range]
  exact h.idxOf_getElem i (by simpa using h1)
theorem cost_turn {rows rowsT : List (List Int)} {n : Nat} (h1 : rows.length = n) (h2 : rowsT.length = n) (h : ∀ a b, a < n → b < n → costAt rowsT b a = costAt rows a b) {x : List Nat} (hx : x.Perm (List.range n)) :
    ∃ y : List Nat, y.Perm (List.range n) ∧ costF rowsT (intsN y) = costF rows (intsN x) := by
  have lx := perm_len hx
  have nd : x.Nodup := hx.symm.nodup List.nodup_range
  have hy : ((List.range n).map fun c => x.idxOf c).Perm (List.range n) := by
    have := (hx.map fun c => x.idxOf c).symm
    rwa [idx_map nd, lx] at this
  refine ⟨(List.range n).map fun c => x.idxOf c, hy, ?_⟩
  rw [costF_range (by rw [h2]; simp), costF_range (by rw [h1, lx]), List.length_map, List.length_range, lx]
  have e1 : ((List.range n).map fun k => costAt rowsT k (((List.range n).map fun c => x.idxOf c).getD k 0)) = (List.range n).map fun c => costAt rows (x.idxOf c) c := by
    refine List.map_congr_left fun c hc => ?_
    have hc := List.mem_range.1 hc
    have hm : c ∈ x := hx.mem_iff.2 (List.mem_range.2 hc)
    have e : ((List.range n).map fun c => x.idxOf c)[c]? = some (x.idxOf c) := by rw [List.getElem?_map, List.getElem?_range hc]; rfl
    rw [List.getD, e, Option.getD_some]
    exact h _ _ (by rw [← lx]; exact List.idxOf_lt_length_of_mem hm) hc
  rw [e1]
  have e2 := sumL_perm ((hx.map fun c => costAt rows (x.idxOf c) c))
  rw [← e2]
  congr 1
  refine List.ext_getElem (by simp [lx]) fun i k1 k2 => ?_
  have hi : i < x.length := by simpa using k1
  simp only [List.getElem_map, List.getElem_range]
  rw [nd.idxOf_getElem i hi, List.getD, List.getElem?_eq_getElem hi, Option.getD_some]
theorem Least.turn {rows rowsT : List (List Int)} {n : Nat} {c : Int} (h1 : rows.length = n) (h2 : rowsT.length = n) (h : ∀ a b, a < n → b < n → costAt rowsT b a = costAt rows a b) (hl : Least rows n c) : Least rowsT n c := by
  refine ⟨?_, fun q hq => ?_⟩
  · obtain ⟨x, k1, k2⟩ := hl.1
    obtain ⟨y, m1, m2⟩ := cost_turn h1 h2 h k1
    exact ⟨y, m1, m2.trans k2⟩
  · obtain ⟨y, m1, m2⟩ := cost_turn h2 h1 (fun a b ha hb => (h b a hb ha).symm) hq
    rw [← m2]
    exact hl.2 y m1
theorem sumL_map_add {α : Type} (f g : α → Int) : ∀ l : List α, sumL (l.map fun k => f k + g k) = sumL (l.map f) + sumL (l.map g)
  | [] => rfl
  | x :: l => by
    have := sumL_map_add f g l
    simp only [List.map_cons, sumL]
    omega
theorem cost_more {rows rowsM : List (List Int)} {n : Nat} {up : Nat → Int} (h1 : rows.length = n) (h2 : rowsM.length = n) (h : ∀ a b, a < n → b < n → costAt rowsM a b = costAt rows a b + up a) {x : List Nat} (hx : x.Perm (List.range n)) :
    costF rowsM (intsN x) = costF rows (intsN x) + sumL ((List.range n).map up) := by
  have lx := perm_len hx
  rw [costF_range (by rw [h2, lx]), costF_range (by rw [h1, lx]), lx, ← sumL_map_add]
  congr 1
  refine List.map_congr_left fun k hk => ?_
  have hk := List.mem_range.1 hk
  refine h _ _ hk ?_
  have : x.getD k 0 ∈ x := by
    rw [List.getD, List.getElem?_eq_getElem (by omega), Option.getD_some]
    exact List.getElem_mem _
  exact List.mem_range.1 (hx.mem_iff.1 this)
theorem Least.more {rows rowsM : List (List Int)} {n : Nat} {c : Int} {up : Nat → Int} (h1 : rows.length = n) (h2 : rowsM.length = n) (h : ∀ a b, a < n → b < n → costAt rowsM a b = costAt rows a b + up a) (hl : Least rows n c) : Least rowsM n (c + sumL ((List.range n).map up)) := by
  refine ⟨?_, fun q hq => ?_⟩
  · obtain ⟨x, k1, k2⟩ := hl.1
    exact ⟨x, k1, by rw [cost_more h1 h2 h k1, k2]⟩
  · rw [cost_more h1 h2 h hq]
    have := hl.2 q hq
    omega
end Go.Proofs.YtleckhbmciiooaaDoor
namespace Go.Proofs.YtleckhbmciiooaaDoor
open Go.RowKit Go.ChangeShapes Go.WideShapes Go.ChangeAt Go.Deep

def AsgPost (rows : List (List Int)) (w : World) (e : Ending) (w' : World) : Prop :=
  ∃ A c l, e = .returned (.tuple #[.slice A rows.length c, .int .i64 (costF rows (intsN l)), .int .i64 0]) ∧ RdI w' A (intsN l) ∧ l.Perm (List.range rows.length) ∧ rows.length ≤ c ∧ c ≤ maxLen ∧ Least rows rows.length (costF rows (intsN l)) ∧ Ext w w'
set_option maxRecDepth 100000 in
set_option maxHeartbeats 4000000 in
theorem asg_any (i : InstP) (us : List Value) (w : World) (H : RInst w us i) (hc : checkP i = 0) (hk : i.kind = 2) :
    Calls Tryd.prog 31 #[.agg (List.toArray us)] w (AsgPost i.cost w) := by
  have sq := square_ok hc (by omega)
  have rok := rows_ok sq
  have hln := sq.len
  have TK := fun (W : World) (x : Ext w W) => takes2_any i us W (H.ext x) hc hk
  have TO := fun (P : Option Addr) (c : Nat) (l : List Nat) (W : World) (x : Ext w W) (hP : RdI W P (intsN l)) (hl : l.Perm (List.range i.cost.length)) => told2_any i us P c l W (H.ext x) hc hk hP hl
  obtain ⟨kind, nn, cap, xw, xv, co⟩ := i
  obtain ⟨A, a, B, b, D, d, rfl, -, -, hC, -⟩ := H
  simp only at *
  subst hk
  have n1 := rok.n1
  have n2 := rok.n2
  obtain ⟨n, hn⟩ : ∃ n, co.length = n := ⟨_, rfl⟩
  rw [hn] at TK TO hln n1 n2 ⊢
  subst hln
  obtain ⟨N, hN⟩ : ∃ N, N = n + 1 := ⟨_, rfl⟩
  have GR := fun (W : World) (gp gu gv gh gf r R : Nat) (u v : Nat → Int) (has frm : Nat → Nat) (hP : PB W gp D d n N gu gv gh gf) (hu : Arr W gu N u) (hv : Arr W gv N v) (hh : Arr W gh N fun c => (has c : Int)) (hf : Arr W gf N fun c => (frm c : Int)) (hd : [gu, gv, gh, gf].Nodup)
    (hx : Ext w W) (hb : ∀ k, k < w.heap.size → ¬ PS gu gv gh gf k) (hI : HI n (cstR co) r u v has) (hr : r < n) (hR : R = r + 1) => grow_any hP hu hv hh hf hd hC hx hb rok hn hN hI hr hR
  have B1 : Hid (Blk (w.alloc (.cells #[.int .i64 2, .int .i64 n, .int .i64 cap, .slice A xw.length a, .slice B xv.length b, .slice D n d] 25)) w.heap.size 25 #[.int .i64 2, .int .i64 n, .int .i64 cap, .slice A xw.length a, .slice B xv.length b, .slice D n d]) := .new rfl
  have num : ∀ i c, 1 ≤ i → i ≤ n → 1 ≤ c → c ≤ n → 0 ≤ cstR co i c := fun i c h1 h2 h3 h4 => (ends_num rok (i - 1) (c - 1) (by omega) (by omega)).1
  have eN : (n : Int) + 1 = (N : Int) := by omega
  have wN : IntKind.i64.wrap ((n : Int) + 1) = (N : Int) := by rw [eN]; exact IntWalk.i64_in _ (by omega)
  clear eN
  replace TK := Lib.hid TK
  replace TO := Lib.hid TO
  replace GR := Lib.hid GR
  replace num := Lib.hid num
  replace hn := Lib.hid hn
  have hN25 : N ≤ 25 := by omega
  replace hN := Lib.hid hN
  clear hc hC rok sq
  go_enter Tryd.func31, Tryd.ntmps31
  go_wp2_with (fail)
  refine (TK.out _ (by (repeat (first | assumption | exact Ext.rf _ | apply Ext.drew | apply Ext.drewN | apply Ext.alloc)))).mono ?_
  rintro e w1 ⟨rfl, x1⟩
  have X1 := Lib.hid (Ext.tr (a := w) (by (repeat (first | assumption | exact Ext.rf _ | apply Ext.drew | apply Ext.drewN | apply Ext.alloc))) x1)
  have b1 := Lib.hid (B1.out.ext x1)
  have t1 : w1.cell? ⟨w.heap.size, 1, none⟩ = some (.int .i64 n) := b1.out.cell 1
  clear x1 B1
  go_wp2_with (fail)
  go_cut [7] (fun v7 wx => ∃ gp gu gv gh gf, v7 = .pointer (some ⟨gp, 0, none⟩) ∧ PB wx gp D d n N gu gv gh gf ∧ [gu, gv, gh, gf].Nodup ∧ (∀ k, k < w1.heap.size → ¬ PS gu gv gh gf k) ∧ Arr wx gu N (fun _ => 0) ∧ Arr wx gv N (fun _ => 0) ∧ Arr wx gh N (fun _ => 0) ∧ Arr wx gf N (fun _ => 0) ∧ Ext w1 wx)
  case first =>
    have zb := b1.out.lt
    refine wp_region_any (by kernel_rfl) ?_
    change wpAny _ _ _ _ _ _ _ (World.drew _)
    refine wpAny_T (i := 0) (op := Op.fieldAddr 25 (Operand.tmp 1) 5) (t := 0) (d := some 18) (v := ?_) rfl (by decide +kernel) (by decide +kernel) (by decide +kernel) (fun _ _ _ h => h) ?_ ?_
    case refine_2 => (intro _; unfold exec2; go_simp; try with_reducible rfl)
    try simp only [Act.put, List.setIfInBounds_toArray, List.set_cons_zero, List.set_cons_succ]
    refine wpAny_T (i := 2) (op := Op.move (Operand.tmp 6)) (t := 3) (d := some 20) (v := ?_) rfl (by decide +kernel) (by decide +kernel) (by decide +kernel) (fun _ _ _ h => h) ?_ ?_
    case refine_2 => (intro _; unfold exec2; go_simp; try with_reducible rfl)
    try simp only [Act.put, List.setIfInBounds_toArray, List.set_cons_zero, List.set_cons_succ]
    refine wpAny_T (i := 3) (op := Op.binOp BinOp.add 3 (Operand.tmp 20) (Operand.const (Value.int IntKind.i64 1)) 3) (t := 3) (d := some 21) (v := ?_) rfl (by decide +kernel) (by decide +kernel) (by decide +kernel) (fun _ _ _ h => h) ?_ ?_
    case refine_2 => (intro _; unfold exec2; go_simp; try with_reducible rfl)
    try simp only [Act.put, List.setIfInBounds_toArray, List.set_cons_zero, List.set_cons_succ]
    refine wpAny_T (i := 5) (op := Op.move (Operand.tmp 6)) (t := 3) (d := some 23) (v := ?_) rfl (by decide +kernel) (by decide +kernel) (by decide +kernel) (fun _ _ _ h => h) ?_ ?_
    case refine_2 => (intro _; unfold exec2; go_simp; try with_reducible rfl)
    try simp only [Act.put, List.setIfInBounds_toArray, List.set_cons_zero, List.set_cons_succ]
    refine wpAny_T (i := 6) (op := Op.binOp BinOp.add 3 (Operand.tmp 23) (Operand.const (Value.int IntKind.i64 1)) 3) (t := 3) (d := some 24) (v := ?_) rfl (by decide +kernel) (by decide +kernel) (by decide +kernel) (fun _ _ _ h => h) ?_ ?_
    case refine_2 => (intro _; unfold exec2; go_simp; try with_reducible rfl)
    try simp only [Act.put, List.setIfInBounds_toArray, List.set_cons_zero, List.set_cons_succ]
    refine wpAny_T (i := 8) (op := Op.move (Operand.tmp 6)) (t := 3) (d := some 26) (v := ?_) rfl (by decide +kernel) (by decide +kernel) (by decide +kernel) (fun _ _ _ h => h) ?_ ?_
    case refine_2 => (intro _; unfold exec2; go_simp; try with_reducible rfl)
    try simp only [Act.put, List.setIfInBounds_toArray, List.set_cons_zero, List.set_cons_succ]
    refine wpAny_T (i := 9) (op := Op.binOp BinOp.add 3 (Operand.tmp 26) (Operand.const (Value.int IntKind.i64 1)) 3) (t := 3) (d := some 27) (v := ?_) rfl (by decide +kernel) (by decide +kernel) (by decide +kernel) (fun _ _ _ h => h) ?_ ?_
    case refine_2 => (intro _; unfold exec2; go_simp; try with_reducible rfl)
    try simp only [Act.put, List.setIfInBounds_toArray, List.set_cons_zero, List.set_cons_succ]
    refine wpAny_T (i := 11) (op := Op.move (Operand.tmp 6)) (t := 3) (d := some 29) (v := ?_) rfl (by decide +kernel) (by decide +kernel) (by decide +kernel) (fun _ _ _ h => h) ?_ ?_
    case refine_2 => (intro _; unfold exec2; go_simp; try with_reducible rfl)
    try simp only [Act.put, List.setIfInBounds_toArray, List.set_cons_zero, List.set_cons_succ]
    refine wpAny_T (i := 12) (op := Op.binOp BinOp.add 3 (Operand.tmp 29) (Operand.const (Value.int IntKind.i64 1)) 3) (t := 3) (d := some 30) (v := ?_) rfl (by decide +kernel) (by decide +kernel) (by decide +kernel) (fun _ _ _ h => h) ?_ ?_
    case refine_2 => (intro _; unfold exec2; go_simp; try with_reducible rfl)
    try simp only [Act.put, List.setIfInBounds_toArray, List.set_cons_zero, List.set_cons_succ]
    refine wpAny_core4 (n := 3) (σ := Nat → Nat) [(1, some 19), (4, some 22), (7, some 25), (10, some 28), (13, some 31)] (fun _ W => Ext w1 W)
      (fun i v T W => (i = 1 → v = .slice D n d) ∧ (i ≠ 1 → ∃ h, v = .slice (some ⟨h, 0, none⟩) N N ∧ Arr W h N (fun _ => 0) ∧ w1.heap.size ≤ h ∧ T h = i))
      (fun T W T' W' => Ext W W' ∧ ∀ h, h < W.heap.size → T' h = T h) #[true, true, true, true, true, true, true, true, true, true, true, true, true, true, false, false, false] (by decide +kernel) ?_ ?_ ?_ (s0 := fun _ => 0) ((Ext.rf _).drew)
    · rintro j v T W T' W' ⟨h1, h2⟩ ⟨hx, hT⟩
      refine ⟨h1, fun hj => ?_⟩
      obtain ⟨h, k1, k2, k3, k4⟩ := h2 hj
      exact ⟨h, k1, k2.ext hx, k3, by rw [hT h k2.lt]; exact k4⟩
    · intro pq hpm u T W hRW hD K hK
      have r5 : W.cell? ⟨w.heap.size, 5, none⟩ = some (.slice D n d) := (b1.out.ext hRW).cell 5
      have MK : ∀ (i : Nat) (W' : World), i ≠ 1 → Arr W' W.heap.size N (fun _ => 0) → Ext W W' → ((i = 1 → Value.slice (some ⟨W.heap.size, 0, none⟩) N N = .slice D n d) ∧ (i ≠ 1 → ∃ h, Value.slice (some ⟨W.heap.size, 0, none⟩) N N = .slice (some ⟨h, 0, none⟩) N N ∧ Arr W' h N (fun _ => 0) ∧ w1.heap.size ≤ h ∧ (fun x => if x = W.heap.size then i else T x) h = i)) ∧ Ext w1 W' ∧ (Ext W W' ∧ ∀ h, h < W.heap.size → (fun x => if x = W.heap.size then i else T x) h = T h) := fun i W' hi a x =>
        ⟨⟨fun h => absurd h hi, fun _ => ⟨_, rfl, a, hRW.size, if_pos rfl⟩⟩, hRW.tr x, x, fun h hh => if_neg (by omega)⟩
      simp only [List.mem_cons, List.not_mem_nil, or_false] at hpm
      rcases hpm with rfl | rfl | rfl | rfl | rfl
      · exact op_ld (T := 23) rfl (.pointer (some ⟨w.heap.size, 5, none⟩)) (by kernel_rfl) (.slice D n d) (by go_simp) (hK _ T W ⟨fun _ => rfl, fun h => absurd rfl h⟩ hRW ⟨Ext.rf _, fun _ _ => rfl⟩)
      · exact op_make_a rfl N (N : Int) (by kernel_rfl) (by kernel_rfl) rfl (by omega) fun W' a x => hK _ _ _ (MK 4 W' (by decide) a x).1 (MK 4 W' (by decide) a x).2.1 (MK 4 W' (by decide) a x).2.2
      · exact op_make_a rfl N (N : Int) (by kernel_rfl) (by kernel_rfl) rfl (by omega) fun W' a x => hK _ _ _ (MK 7 W' (by decide) a x).1 (MK 7 W' (by decide) a x).2.1 (MK 7 W' (by decide) a x).2.2
      · exact op_make_a rfl N (N : Int) (by kernel_rfl) (by kernel_rfl) rfl (by omega) fun W' a x => hK _ _ _ (MK 10 W' (by decide) a x).1 (MK 10 W' (by decide) a x).2.1 (MK 10 W' (by decide) a x).2.2
      · exact op_make_a rfl N (N : Int) (by kernel_rfl) (by kernel_rfl) rfl (by omega) fun W' a x => hK _ _ _ (MK 13 W' (by decide) a x).1 (MK 13 W' (by decide) a x).2.1 (MK 13 W' (by decide) a x).2.2
    · intro u T W hRW hV
      have h1 := (hV (1, some 19) (by simp)).1 rfl
      obtain ⟨gu, h4, a4, z4, e4⟩ := (hV (4, some 22) (by simp)).2 (by decide)
      obtain ⟨gv, h7, a7, z7, e7⟩ := (hV (7, some 25) (by simp)).2 (by decide)
      obtain ⟨gh, h10, a10, z10, e10⟩ := (hV (10, some 28) (by simp)).2 (by decide)
      obtain ⟨gf, h13, a13, z13, e13⟩ := (hV (13, some 31) (by simp)).2 (by decide)
      have ND : Hid ([gu, gv, gh, gf].Nodup ∧ ∀ k, k < w1.heap.size → ¬ PS gu gv gh gf k) := by
        refine ⟨?_, fun k hk => ?_⟩
        · simp only [List.nodup_cons, List.mem_cons, List.not_mem_nil, or_false, not_or, not_false_eq_true, List.nodup_nil, and_true]
          refine ⟨⟨?_, ?_, ?_⟩, ⟨?_, ?_⟩, ?_⟩ <;> (rintro rfl; omega)
        · rintro (h | h | h | h) <;> omega
      simp only [putAll, h1, h4, h7, h10, h13]
      clear hV h1 h4 h7 h10 h13 e4 e7 e10 e13 z4 z7 z10 z13
      try simp only [Act.put, List.setIfInBounds_toArray, List.set_cons_zero, List.set_cons_succ]
      refine wpAny_T (i := 14) (op := Op.build 105 #[(0, Operand.tmp 19), (1, Operand.tmp 22), (2, Operand.tmp 25), (3, Operand.tmp 28), (4, Operand.tmp 31)]) (t := 105) (d := some 32) (v := ?_) rfl (by decide +kernel) (by decide +kernel) (by decide +kernel) (fun _ _ _ h => h) ?_ ?_
      case refine_2 => (intro _; unfold exec2; go_simp; try with_reducible rfl)
      try simp only [Act.put, List.setIfInBounds_toArray, List.set_cons_zero, List.set_cons_succ]
      refine wpAny_next 15 (by decide +kernel) (op_run (op := .box 105 (.tmp 32)) rfl (.pointer (some ⟨W.heap.size, 0, none⟩)) (w' := W.alloc (.cells #[.slice D n d, .slice (some ⟨gu, 0, none⟩) N N, .slice (some ⟨gv, 0, none⟩) N N, .slice (some ⟨gh, 0, none⟩) N N, .slice (some ⟨gf, 0, none⟩) N N] 105)) (by unfold exec2; go_simp) ?_)
      try simp only [Act.put, List.setIfInBounds_toArray, List.set_cons_zero, List.set_cons_succ]
      refine wpAny_T (i := 16) (op := Op.assign (Operand.tmp 33)) (t := 103) (d := some 7) (v := ?_) rfl (by decide +kernel) (by decide +kernel) (by decide +kernel) (fun _ _ _ h => h) ?_ ?_
      case refine_2 => (intro _; unfold exec2; go_simp; try with_reducible rfl)
      try simp only [Act.put, List.setIfInBounds_toArray, List.set_cons_zero, List.set_cons_succ]
      refine wpAny_done (by kernel_rfl) ?_ _
      have xa : Ext W (W.alloc (.cells #[.slice D n d, .slice (some ⟨gu, 0, none⟩) N N, .slice (some ⟨gv, 0, none⟩) N N, .slice (some ⟨gh, 0, none⟩) N N, .slice (some ⟨gf, 0, none⟩) N N] 105)) := (Ext.rf _).alloc _
      go_simp
      go_wp2_with (fail)
      go_meet
      exact ⟨W.heap.size, gu, gv, gh, gf, rfl, .new rfl, ND.out.1, ND.out.2, a4.ext xa, a7.ext xa, a10.ext xa, a13.ext xa, hRW.tr xa⟩
  case rest =>
  obtain ⟨gp, gu, gv, gh, gf, rfl, hP, hd, hb, aU, aV, aH, aF, x5⟩ := hcut
  obtain ⟨w5, rfl⟩ : ∃ w5 : World, w5 = wc := ⟨_, rfl⟩
  have X5 := Lib.hid (X1.out.tr x5)
  have b5 := Lib.hid (b1.out.ext x5)
  have hbw : ∀ k, k < w.heap.size → ¬ PS gu gv gh gf k := fun k hk => hb k (by have := X1.out.size; omega)
  have gpn : ¬ PS gu gv gh gf gp := by
    rintro (h | h | h | h)
    · exact aU.ne hP (by decide) h.symm
    · exact aV.ne hP (by decide) h.symm
    · exact aH.ne hP (by decide) h.symm
    · exact aF.ne hP (by decide) h.symm
  have PM := Lib.hid (fun (W : World) (m : Mod (PS gu gv gh gf) w5 W) => (show PB W gp D d n N gu gv gh gf from hP.mod m gpn))
  have XM := Lib.hid (fun (W : World) (m : Mod (PS gu gv gh gf) w5 W) => X5.out.mod m hbw)
  have GS : Hid (HI n (cstR co) 0 (fun _ => 0) (fun _ => 0) (fun _ => 0) ∧ Arr w5 gu N (fun _ => 0) ∧ Arr w5 gv N (fun _ => 0) ∧ Arr w5 gh N (fun c => (((fun _ => 0) c : Nat) : Int)) ∧ Arr w5 gf N (fun c => (((fun _ => 0) c : Nat) : Int))) := ⟨HI.start num.out, aU, aV, aH, aF⟩
  have hne : gh ≠ gf := by
    simp only [List.nodup_cons, List.mem_cons, List.not_mem_nil, or_false, not_or] at hd
    exact hd.2.2.1
  have nbx : ¬ PS gu gv gh gf w.heap.size := hb _ b1.out.lt
  replace hd := Lib.hid hd
  replace hbw := Lib.hid hbw
  replace hne := Lib.hid hne
  clear hP aU aV aH aF x5 hb gpn t1
  go_wp2_with (fail)
  go_loopw [8] (fun v8 wr => ∃ (r k : Nat) (u v : Nat → Int) (has frm : Nat → Nat), v8 = .int .i64 r ∧ Hid (r = k + 1) ∧ r ≤ n + 1 ∧ Hid (HI n (cstR co) k u v has ∧ Arr wr gu N u ∧ Arr wr gv N v ∧ Arr wr gh N (fun c => (has c : Int)) ∧ Arr wr gf N (fun c => (frm c : Int))) ∧ Hid (Mod (PS gu gv gh gf) w5 wr)) (fun v8 _ => n + 1 - (intOf v8).toNat)
  case atStart => exact ⟨1, 0, fun _ => 0, fun _ => 0, fun _ => 0, fun _ => 0, rfl, rfl, by omega, GS, Mod.rf _⟩
  case round =>
    clear GS
    obtain ⟨wo, rfl⟩ : ∃ wo : World, wo = wr := ⟨_, rfl⟩
    obtain ⟨r, k, u, v, has, frm, rfl, hrk, hr, GS, HM⟩ := hrel
    by_cases hrn : r ≤ n
    · have q1 : (r : Int) ≤ (n : Int) := by omega
      have wr1 : IntKind.i64.wrap ((r : Int) + 1) = ((r + 1 : Nat) : Int) := IntWalk.i64_in _ (by omega)
      obtain ⟨hI, aU, aV, aH, aF⟩ := GS.out
      have G := Lib.hid (GR.out wo gp gu gv gh gf k r u v has frm (PM.out _ HM.out) aU aV aH aF hd.out (XM.out _ HM.out) hbw.out hI (by have := hrk.out; omega) hrk.out)
      clear hI aU aV aH aF GS
      go_wp2_with (fail)
      refine G.out.mono ?_
      rintro e W1 ⟨a1, L, u2, v2, least, has2, frm2, rfl, ha, cU, cV, cH, cF, hG, hO, hM⟩
      have HM1 := Lib.hid (HM.out.tr hM)
      have hI2 := And.intro hG.slack (And.intro hG.neg (And.intro hG.pos hG.fresh))
      have T := Lib.hid (turn_any (PM.out _ HM1.out) cH cF hne.out hN.out (by omega) hG hO ha)
      have FIN := Lib.hid (And.intro cU (And.intro cV cF))
      clear G hM hG hO ha cU cV cH cF hI2 HM
      go_wp2_with (fail)
      refine T.out.mono ?_
      rintro e W2 ⟨rfl, ⟨hs, dH, hI3⟩, hM2⟩
      obtain ⟨cU, cV, cF⟩ := FIN.out
      have nd := hd.out
      simp only [List.nodup_cons, List.mem_cons, List.not_mem_nil, or_false, not_or] at nd
      have HM3 := Lib.hid (HM1.out.tr (hM2.mono fun k _ hk => Or.inr (Or.inr (Or.inl hk))))
      have GS3 : Hid (HI n (cstR co) r u2 v2 hs ∧ Arr W2 gu N u2 ∧ Arr W2 gv N v2 ∧ Arr W2 gh N (fun c => (hs c : Int)) ∧ Arr W2 gf N (fun c => (frm2 c : Int))) :=
        ⟨hI3, cU.mod hM2 nd.1.2.1, cV.mod hM2 nd.2.1.1, dH, cF.mod hM2 (fun e => nd.2.2.1 e.symm)⟩
      clear T dH hI3 hM2 cU cV cF nd HM1 FIN
      go_wp2_with (fail)
      go_roundw
      case rel => exact ⟨r + 1, r, _, _, _, _, by go_num, rfl, by omega, GS3, HM3⟩
      case measure => simp [intOf]; omega
    · obtain rfl : r = n + 1 := by omega
      obtain rfl : k = n := by have := hrk.out; omega
      clear hrk hrn hr
      obtain ⟨hI, -, -, aH, -⟩ := GS.out
      have q1 : ¬ (((k + 1 : Nat) : Int) ≤ (k : Int)) := by omega
      have PH : Hid (PB wo gp D d k N gu gv gh gf) := PM.out _ HM.out
      have XX := Lib.hid (XM.out _ HM.out)
      have BX := Lib.hid (b5.out.mod HM.out nbx)
      have FU := Lib.hid (fun c (c1 : 1 ≤ c) (c2 : c ≤ k) => hI.full c1 c2)
      have INJ := Lib.hid (fun c c' (c1 : 1 ≤ c) (c2 : c ≤ k) (d1 : 1 ≤ c') (d2 : c' ≤ k) (e : has c = has c') => hI.inj c c' c1 c2 d1 d2 e (by have := hI.full c1 c2; omega))
      replace hI := Lib.hid hI
      replace aH := Lib.hid aH
      clear GS HM PM XM b5 X5 b1 X1
      go_wp2_with (at_make; refine wpl_make_i _ rfl _ _ rfl wo.heap.size _ _ k rfl rfl rfl rfl (by omega) (Nat.le_refl _) ?_; rintro w6 o6 g6; replace o6 := Lib.hid o6; replace g6 := Lib.hid g6)
      have x6 := Lib.hid ((Ext.rf wo).grownNone g6.out)
      have a6 := Lib.hid (Arr.of_own o6.out)
      have PH6 := Lib.hid (Blk.ext PH.out x6.out)
      have aH6 := Lib.hid (aH.out.ext x6.out)
      have zx : wo.heap.size ≠ gh ∧ wo.heap.size ≠ gp := by
        have := aH.out.lt
        have := Blk.lt PH.out
        omega
      generalize hgx : wo.heap.size = gx at *
      replace hgx := Lib.hid hgx
      clear o6 g6 PH aH
      go_loopw [10] (fun v10 wr => ∃ (c : Nat) (xf : Nat → Nat), v10 = .int .i64 c ∧ 1 ≤ c ∧ c ≤ k + 1 ∧ Hid (∀ j, 1 ≤ j → j < c → xf (has j - 1) = j - 1) ∧ Hid (Arr wr gx k fun i => (xf i : Int)) ∧ Hid (Mod (fun b => b = gx) w6 wr)) (fun v10 _ => k + 1 - (intOf v10).toNat)
      case atStart => exact ⟨1, fun _ => 0, rfl, by omega, by omega, fun j h1 h2 => by omega, a6.out, Mod.rf _⟩
      case round =>
        clear a6
        obtain ⟨wp, rfl⟩ : ∃ wp : World, wp = wr := ⟨_, rfl⟩
        obtain ⟨c, xf, rfl, hc1, hck, HX, aX, HM⟩ := hrel
        by_cases hcn : c ≤ k
        · have q2 : (c : Int) ≤ (k : Int) := by omega
          have wc1 : IntKind.i64.wrap ((c : Int) + 1) = ((c + 1 : Nat) : Int) := IntWalk.i64_in _ (by omega)
          have fu := FU.out c hc1 hcn
          obtain ⟨h, hh⟩ : ∃ h, Hid (has c = h) := ⟨_, rfl⟩
          rw [hh.out] at fu
          obtain ⟨h1, hh1⟩ : ∃ h1, Hid (h - 1 = h1) := ⟨_, rfl⟩
          obtain ⟨c1, hhc⟩ : ∃ c1, Hid (c - 1 = c1) := ⟨_, rfl⟩
          have w2 : IntKind.i64.wrap ((h : Int) - 1) = (h1 : Int) := by
            have := hh1.out
            rw [show (h : Int) - 1 = (h1 : Int) by omega]
            exact IntWalk.i64_in _ (by omega)
          have w3 : IntKind.i64.wrap ((c : Int) - 1) = (c1 : Int) := by
            have := hhc.out
            rw [show (c : Int) - 1 = (c1 : Int) by omega]
            exact IntWalk.i64_in _ (by omega)
          have p3 : wp.cell? ⟨gp, 3, none⟩ = some (.slice (some ⟨gh, 0, none⟩) N N) := (Blk.mod PH6.out HM.out zx.2.symm).cell 3
          have kh := (aH6.out.mod HM.out zx.1.symm).cell (k := c) (by have := hN.out; omega)
          simp only [hh.out] at kh
          have qh : (h1 : Int) < (k : Int) := by have := hh1.out; omega
          have qh' : h1 < k := by have := hh1.out; omega
          have qc : (c : Int) < (N : Int) := by have := hN.out; omega
          have kx := aX.out.cell qh'
          have fx := aX.out.free h1
          have aX2 : Hid (Arr (wp.setCell ⟨gx, h1, none⟩ (.int .i64 c1)) gx k fun i => ((if i = h1 then c1 else xf i : Nat) : Int)) := (aX.out.set h1 (c1 : Int)).congr fun i _ => by split <;> rfl
          have HM2 := Lib.hid (HM.out.set (p := ⟨gx, h1, none⟩) (.inl rfl) (.int .i64 c1))
          have HX2 : Hid (∀ j, 1 ≤ j → j < c + 1 → (fun i => if i = h1 then c1 else xf i) (has j - 1) = j - 1) := fun j j1 j2 => by
            simp only
            by_cases e : j = c
            · subst e
              rw [hh.out, hh1.out, if_pos rfl, hhc.out]
            · have h3 := FU.out j j1 (by omega)
              have h4 := hh.out
              have h5 := hh1.out
              rw [if_neg (fun e2 => e (INJ.out j c j1 (by omega) hc1 hcn (by omega)))]
              exact HX.out j j1 (by omega)
          clear HX aX HM fu
          go_wp2_with (fail)
          go_roundw
          case rel => exact ⟨c + 1, _, by go_num, by omega, by omega, HX2, aX2, HM2⟩
          case measure => simp [intOf]; omega
        · obtain rfl : c = k + 1 := by omega
          have HU := hung_min (x := (List.range k).map xf) hn.out hI.out (by simp) (fun j j1 j2 => by
            have h3 := FU.out j j1 j2
            rw [List.getElem?_map, List.getElem?_range (by omega), Option.map_some, HX.out j j1 (by omega)])
          have RD : RdI wp (some ⟨gx, 0, none⟩) (intsN ((List.range k).map xf)) := by
            have := aX.out.rdI
            simpa [intsN, Function.comp_def] using this
          have XW : Ext w wp := (XX.out.tr x6.out).mod HM.out (fun b hb e => by
            have h1 := hgx.out
            have h2 := XX.out.size
            omega)
          have LE : Hid (Least co k (costF co (intsN ((List.range k).map xf)))) := ⟨⟨_, HU.1, rfl⟩, HU.2⟩
          have TT := Lib.hid (TO.out (some ⟨gx, 0, none⟩) k ((List.range k).map xf) wp XW RD HU.1)
          have FIN := Lib.hid (And.intro HU.1 (And.intro RD XW))
          have BXp := (BX.out.ext x6.out).mod HM.out (fun e => by
            have h1 := hgx.out
            have h2 := BX.out.lt
            omega)
          have t0 : wp.cell? ⟨w.heap.size, 0, none⟩ = some (.int .i64 2) := BXp.cell 0
          have t1 : wp.cell? ⟨w.heap.size, 1, none⟩ = some (.int .i64 k) := BXp.cell 1
          have t2 : wp.cell? ⟨w.heap.size, 2, none⟩ = some (.int .i64 cap) := BXp.cell 2
          have t3 : wp.cell? ⟨w.heap.size, 3, none⟩ = some (.slice A xw.length a) := BXp.cell 3
          have t4 : wp.cell? ⟨w.heap.size, 4, none⟩ = some (.slice B xv.length b) := BXp.cell 4
          have t5 : wp.cell? ⟨w.heap.size, 5, none⟩ = some (.slice D k d) := BXp.cell 5
          have q2 : ¬ (((k + 1 : Nat) : Int) ≤ (k : Int)) := by omega
          have mk : k ≤ maxLen := by simp only [maxLen]; omega
          clear HU RD XW BXp HX aX HM BX XX INJ FU hI
          generalize (List.range k).map xf = l at *
          go_wp2_with (fail)
          refine TT.out.mono ?_
          rintro e W9 ⟨rfl, x9⟩
          clear t0 t1 t2 t3 t4 t5 TT
          go_wp2_with (fail)
          go_ret3
          unfold AsgPost
          rw [hn.out]
          exact ⟨_, _, l, rfl, FIN.out.2.1.ext x9, FIN.out.1, Nat.le_refl _, mk, LE.out, FIN.out.2.2.tr x9⟩
end Go.Proofs.YtleckhbmciiooaaDoor
namespace Go.Proofs.YtleckhbmciiooaaDoor
open Go.RowKit Go.ChangeShapes Go.WideShapes Go.ChangeAt Go.Deep

/-- whether a problem is taken as one of a kind -/
def takesP (i : InstP) (k : Int) : Int := if checkP i ≠ 0 then checkP i else if i.kind ≠ k then 14 else if (k = 1 ∧ 18 < i.n) ∨ (k = 3 ∧ 12 < i.n) then 5 else 0
/-- the document's word for it; 0: of any kind -/
def rtakesP (i : InstP) (k : Int) : Int := if checkP i ≠ 0 then checkP i else if k ≠ 0 ∧ i.kind ≠ k then 14 else if (i.kind = 1 ∧ 18 < i.n) ∨ (i.kind = 3 ∧ 12 < i.n) then 5 else 0
theorem takes_zero {i : InstP} {k : Int} (h : takesP i k = 0) : checkP i = 0 ∧ i.kind = k ∧ (k = 1 → i.n ≤ 18) ∧ (k = 3 → i.n ≤ 12) := by
  unfold takesP at h
  by_cases hc : checkP i = 0
  · by_cases e : i.kind = k
    · by_cases h2 : (k = 1 ∧ 18 < i.n) ∨ (k = 3 ∧ 12 < i.n)
      · simp [hc, e, h2] at h
      · exact ⟨hc, e, fun h3 => by omega, fun h3 => by omega⟩
    · simp [hc, e] at h
  · simp [hc] at h
set_option maxRecDepth 100000 in
set_option maxHeartbeats 1000000 in
theorem takes_any (i : InstP) (us : List Value) (k : Int) (w : World) (H : RInst w us i) (lw : i.weight.length ≤ 1000000000) (lv : i.value.length ≤ 1000000000) :
    Calls Tryd.prog 62 #[.agg (List.toArray us), .int .i64 k] w fun e w' => e = .returned (.int .i64 (takesP i k)) ∧ Ext w w' := by
  have CH := fun (W : World) (x : Ext w W) => check_any i us W (H.ext x) lw lv
  obtain ⟨c, hcc⟩ : ∃ c, Hid (checkP i = c) := ⟨_, rfl⟩
  have TP : Hid (∀ v, (if c ≠ 0 then c else if i.kind ≠ k then 14 else if (k = 1 ∧ 18 < i.n) ∨ (k = 3 ∧ 12 < i.n) then 5 else 0) = v → takesP i k = v) := fun v h => by
    unfold takesP
    rw [hcc.out]
    exact h
  generalize takesP i k = tp at *
  rw [hcc.out] at CH
  obtain ⟨kind, nn, cap, xw, xv, co⟩ := i
  obtain ⟨A, a, B, b, D, d, rfl, -, -, -⟩ := H
  simp only at *
  have B1 : Hid (Blk (w.alloc (.cells #[.int .i64 kind, .int .i64 nn, .int .i64 cap, .slice A xw.length a, .slice B xv.length b, .slice D co.length d] 25)) w.heap.size 25 #[.int .i64 kind, .int .i64 nn, .int .i64 cap, .slice A xw.length a, .slice B xv.length b, .slice D co.length d]) := .new rfl
  replace CH := Lib.hid CH
  clear hcc lw lv
  go_enter Tryd.func62, Tryd.ntmps62
  go_wp2_with (fail)
  refine (CH.out _ (by (repeat (first | assumption | exact Ext.rf _ | apply Ext.drew | apply Ext.drewN | apply Ext.alloc)))).mono ?_
  rintro e w1 ⟨rfl, x1⟩
  have X1 := Lib.hid (Ext.tr (a := w) (by (repeat (first | assumption | exact Ext.rf _ | apply Ext.drew | apply Ext.drewN | apply Ext.alloc))) x1)
  have b1 := Lib.hid (B1.out.ext x1)
  have t0 : w1.cell? ⟨w.heap.size, 0, none⟩ = some (.int .i64 kind) := b1.out.cell 0
  have t1 : w1.cell? ⟨w.heap.size, 1, none⟩ = some (.int .i64 nn) := b1.out.cell 1
  clear x1 B1
  by_cases hc : c = 0
  · subst hc
    by_cases hk : kind = k
    · subst hk
      have kk : (kind != kind) = false := by simp
      by_cases k1 : kind = 1
      · subst k1
        by_cases hn : 18 < nn
        · have T5 := TP.out 5 (by simp [hn])
          clear TP
          go_wp2_with (fail)
          go_ret
          exact ⟨by rw [T5]; rfl, X1.out.tr (by (repeat (first | assumption | exact Ext.rf _ | apply Ext.drew | apply Ext.drewN | apply Ext.alloc)))⟩
        · have T5 := TP.out 0 (by simp [hn])
          clear TP
          go_wp2_with (fail)
          go_ret
          exact ⟨by rw [T5]; rfl, X1.out.tr (by (repeat (first | assumption | exact Ext.rf _ | apply Ext.drew | apply Ext.drewN | apply Ext.alloc)))⟩
      · by_cases k3 : kind = 3
        · subst k3
          by_cases hn : 12 < nn
          · have T5 := TP.out 5 (by simp [hn])
            clear TP
            go_wp2_with (fail)
            go_ret
            exact ⟨by rw [T5]; rfl, X1.out.tr (by (repeat (first | assumption | exact Ext.rf _ | apply Ext.drew | apply Ext.drewN | apply Ext.alloc)))⟩
          · have T5 := TP.out 0 (by simp [hn])
            clear TP
            go_wp2_with (fail)
            go_ret
            exact ⟨by rw [T5]; rfl, X1.out.tr (by (repeat (first | assumption | exact Ext.rf _ | apply Ext.drew | apply Ext.drewN | apply Ext.alloc)))⟩
        · have T5 := TP.out 0 (by simp [k1, k3])
          have e1 : (kind == 1) = false := by simpa using k1
          have e3 : (kind == 3) = false := by simpa using k3
          clear TP
          go_wp2_with (fail)
          go_ret
          exact ⟨by rw [T5]; rfl, X1.out.tr (by (repeat (first | assumption | exact Ext.rf _ | apply Ext.drew | apply Ext.drewN | apply Ext.alloc)))⟩
    · have T5 := TP.out 14 (by simp [hk])
      have e1 : (kind != k) = true := by simpa using hk
      clear TP
      go_wp2_with (fail)
      go_ret
      exact ⟨by rw [T5]; rfl, X1.out.tr (by (repeat (first | assumption | exact Ext.rf _ | apply Ext.drew | apply Ext.drewN | apply Ext.alloc)))⟩
  · have T5 := TP.out c (by simp [hc])
    have e1 : (c != 0) = true := by simpa using hc
    clear TP
    go_wp2_with (fail)
    go_ret
    exact ⟨by rw [T5]; rfl, X1.out.tr (by (repeat (first | assumption | exact Ext.rf _ | apply Ext.drew | apply Ext.drewN | apply Ext.alloc)))⟩
end Go.Proofs.YtleckhbmciiooaaDoor
namespace Go.Proofs.YtleckhbmciiooaaDoor
open Go.RowKit Go.ChangeShapes Go.WideShapes Go.ChangeAt Go.Deep
attribute [local go_sem] Oper.semAt_some

/-- a best answer of a problem, and what it costs -/
def AnsOk (i : InstP) (x : List Int) (v : Int) : Prop :=
  (i.kind = 1 ∧ ∃ n m : Nat, i.n = n ∧ x = xB m n ∧ m < 2 ^ n ∧ sumB (atF i.weight) n m ≤ i.cap ∧ v = sumN (atF i.value) n m ∧ ∀ s, s < 2 ^ n → sumB (atF i.weight) n s ≤ i.cap → v ≤ sumN (atF i.value) n s) ∨
  (i.kind = 2 ∧ ∃ l : List Nat, x = intsN l ∧ l.Perm (List.range i.cost.length) ∧ v = costF i.cost (intsN l) ∧ Least i.cost i.cost.length v) ∨
  (i.kind = 3 ∧ ∃ q : List Nat, x = intsN (0 :: q) ∧ (0 :: q).Perm (List.range i.cost.length) ∧ v = pathT i.cost 0 q ∧ LeastT i.cost i.cost.length v)
def ExPost (i : InstP) (t : Int) (w : World) (e : Ending) (w' : World) : Prop :=
  (t ≠ 0 ∧ e = .returned (.tuple #[.slice none 0 0, .int .i64 0, .int .i64 t]) ∧ Ext w w') ∨
  (t = 0 ∧ ∃ A x c v, e = .returned (.tuple #[.slice A x.length c, .int .i64 v, .int .i64 0]) ∧ RdI w' A x ∧ AnsOk i x v ∧ x.length ≤ c ∧ c ≤ maxLen ∧ Ext w w')
section
variable (i : InstP) (us : List Value) (w : World) (H : RInst w us i) (lw : i.weight.length ≤ 1000000000) (lv : i.value.length ≤ 1000000000)
include H lw lv
set_option maxRecDepth 100000 in
set_option maxHeartbeats 1000000 in
theorem knap_no (h : takesP i 1 ≠ 0) : CallsIn Fence.wide 3 Tryd.prog 30 #[.agg (List.toArray us)] w fun e w' => e = .returned (.tuple #[.slice none 0 0, .int .i64 0, .int .i64 (takesP i 1)]) ∧ Ext w w' := by
  have TK := fun (W : World) (x : Ext w W) => takes_any i us 1 W (H.ext x) lw lv
  generalize takesP i 1 = tp at *
  have e1 : (tp != 0) = true := by simpa using h
  obtain ⟨kind, nn, cap, xw, xv, co⟩ := i
  obtain ⟨A, a, B, b, D, d, rfl, -, -, -⟩ := H
  simp only at *
  replace TK := Lib.hid TK
  clear h lw lv
  refine callsIn_of_wp_marks Tryd.func30 rfl trivial ?_ rfl
  simp only [Tryd.ntmps30, List.size_toArray, List.length_cons, List.length_nil, Nat.reduceAdd, Nat.reduceSub, Array.replicate_succ, Array.replicate_zero, List.push_toArray, List.append_toArray, List.nil_append, List.cons_append]
  refine wpIn_wide.2 (wp_mono ?_ bodyPostN_le)
  go_wp2_with (fail)
  refine (TK.out _ (by (repeat (first | assumption | exact Ext.rf _ | apply Ext.drew | apply Ext.drewN | apply Ext.alloc)))).mono ?_
  rintro e w1 ⟨rfl, x1⟩
  have X1 := Lib.hid (Ext.tr (a := w) (by (repeat (first | assumption | exact Ext.rf _ | apply Ext.drew | apply Ext.drewN | apply Ext.alloc))) x1)
  clear x1
  go_wp2_with (fail)
  refine ⟨.tuple #[.slice none 0 0, .int .i64 0, .int .i64 tp], by simp [results, Tryd.results30, go_sem], rfl, X1.out.tr (by (repeat (first | assumption | exact Ext.rf _ | apply Ext.drew | apply Ext.drewN | apply Ext.alloc)))⟩
set_option maxRecDepth 100000 in
set_option maxHeartbeats 1000000 in
theorem asg_no (h : takesP i 2 ≠ 0) : Calls Tryd.prog 31 #[.agg (List.toArray us)] w fun e w' => e = .returned (.tuple #[.slice none 0 0, .int .i64 0, .int .i64 (takesP i 2)]) ∧ Ext w w' := by
  have TK := fun (W : World) (x : Ext w W) => takes_any i us 2 W (H.ext x) lw lv
  generalize takesP i 2 = tp at *
  have e1 : (tp != 0) = true := by simpa using h
  obtain ⟨kind, nn, cap, xw, xv, co⟩ := i
  obtain ⟨A, a, B, b, D, d, rfl, -, -, -⟩ := H
  simp only at *
  replace TK := Lib.hid TK
  clear h lw lv
  go_enter Tryd.func31, Tryd.ntmps31
  go_wp2_with (fail)
  refine (TK.out _ (by (repeat (first | assumption | exact Ext.rf _ | apply Ext.drew | apply Ext.drewN | apply Ext.alloc)))).mono ?_
  rintro e w1 ⟨rfl, x1⟩
  have X1 := Lib.hid (Ext.tr (a := w) (by (repeat (first | assumption | exact Ext.rf _ | apply Ext.drew | apply Ext.drewN | apply Ext.alloc))) x1)
  clear x1
  go_wp2_with (fail)
  go_ret3
  exact ⟨rfl, X1.out.tr (by (repeat (first | assumption | exact Ext.rf _ | apply Ext.drew | apply Ext.drewN | apply Ext.alloc)))⟩
set_option maxRecDepth 100000 in
set_option maxHeartbeats 1000000 in
theorem tour_no (h : takesP i 3 ≠ 0) : Calls Tryd.prog 32 #[.agg (List.toArray us)] w fun e w' => e = .returned (.tuple #[.slice none 0 0, .int .i64 0, .int .i64 (takesP i 3)]) ∧ Ext w w' := by
  have TK := fun (W : World) (x : Ext w W) => takes_any i us 3 W (H.ext x) lw lv
  generalize takesP i 3 = tp at *
  have e1 : (tp != 0) = true := by simpa using h
  obtain ⟨kind, nn, cap, xw, xv, co⟩ := i
  obtain ⟨A, a, B, b, D, d, rfl, -, -, -⟩ := H
  simp only at *
  replace TK := Lib.hid TK
  clear h lw lv
  go_enter Tryd.func32, Tryd.ntmps32
  go_wp2_with (fail)
  refine (TK.out _ (by (repeat (first | assumption | exact Ext.rf _ | apply Ext.drew | apply Ext.drewN | apply Ext.alloc)))).mono ?_
  rintro e w1 ⟨rfl, x1⟩
  have X1 := Lib.hid (Ext.tr (a := w) (by (repeat (first | assumption | exact Ext.rf _ | apply Ext.drew | apply Ext.drewN | apply Ext.alloc))) x1)
  clear x1
  go_wp2_with (fail)
  go_ret3
  exact ⟨rfl, X1.out.tr (by (repeat (first | assumption | exact Ext.rf _ | apply Ext.drew | apply Ext.drewN | apply Ext.alloc)))⟩
theorem knap_ex (hT : Tab w) : Calls Tryd.prog 30 #[.agg (List.toArray us)] w (ExPost i (takesP i 1) w) := by
  by_cases h : takesP i 1 = 0
  · obtain ⟨hc, hk, h18, -⟩ := takes_zero h
    have ok := knap_ok hc hk
    have n1 := ok.n1
    obtain ⟨n, hn⟩ : ∃ n : Nat, i.n = n := ⟨i.n.toNat, by omega⟩
    refine (knapsack_any i us n w H hT hc hk hn (by have := h18 rfl; omega)).mono ?_
    rintro e w' ⟨A, c, m, rfl, h1, h2, h3, h4, h5, h6, h7⟩
    exact .inr ⟨h, A, xB m n, c, _, by rw [xB_len], h1, .inl ⟨hk, n, m, hn, rfl, h2, h3, rfl, h6⟩, by rw [xB_len]; exact h4, h5, h7⟩
  · refine (callsIn_wide.1 (knap_no i us w H lw lv h)).mono ?_
    rintro e w' ⟨rfl, x⟩
    exact .inl ⟨h, rfl, x⟩
theorem asg_ex : Calls Tryd.prog 31 #[.agg (List.toArray us)] w (ExPost i (takesP i 2) w) := by
  by_cases h : takesP i 2 = 0
  · obtain ⟨hc, hk, -⟩ := takes_zero h
    refine (asg_any i us w H hc hk).mono ?_
    rintro e w' ⟨A, c, l, rfl, h1, h2, h3, h4, h5, h6⟩
    have hl : (intsN l).length = i.cost.length := by rw [intsN_len, h2.length_eq, List.length_range]
    exact .inr ⟨h, A, intsN l, c, _, by rw [hl], h1, .inr (.inl ⟨hk, l, rfl, h2, rfl, h5⟩), by rw [hl]; exact h3, h4, h6⟩
  · refine (asg_no i us w H lw lv h).mono ?_
    rintro e w' ⟨rfl, x⟩
    exact .inl ⟨h, rfl, x⟩
theorem tour_ex : Calls Tryd.prog 32 #[.agg (List.toArray us)] w (ExPost i (takesP i 3) w) := by
  by_cases h : takesP i 3 = 0
  · obtain ⟨hc, hk, -, h12⟩ := takes_zero h
    refine (tour_any i us w H hc hk (h12 rfl)).mono ?_
    rintro e w' ⟨A, c, q, rfl, h1, h2, h3, h4, h5, h6⟩
    have hl : (intsN (0 :: q)).length = i.cost.length := by rw [intsN_len, h2.length_eq, List.length_range]
    exact .inr ⟨h, A, intsN (0 :: q), c, _, by rw [hl], h1, .inr (.inr ⟨hk, q, rfl, h2, rfl, h5⟩), by rw [hl]; exact h3, h4, h6⟩
  · refine (tour_no i us w H lw lv h).mono ?_
    rintro e w' ⟨rfl, x⟩
    exact .inl ⟨h, rfl, x⟩
end
end Go.Proofs.YtleckhbmciiooaaDoor
namespace Go.Proofs.YtleckhbmciiooaaDoor

/-- all that is paid so many times -/
def scaleI (by' : Int) (i : InstP) : InstP := ⟨i.kind, i.n, i.cap, i.weight, i.value.map (· * by'), i.cost.map fun r => r.map (· * by')⟩
theorem getD_scale (l : List Int) (z : Int) (j : Nat) : (l.map (· * z)).getD j 0 = l.getD j 0 * z := by
  simp only [List.getD, List.getElem?_map]
  cases l[j]? <;> simp
theorem sumN_scale (vs : List Int) (z : Int) (s : Nat) : ∀ k, sumN (atF (vs.map (· * z))) k s = sumN (atF vs) k s * z
  | 0 => by simp [sumN, sumL]
  | k + 1 => by
    rw [sumN_succ, sumN_succ, sumN_scale vs z s k, Int.add_mul]
    congr 1
    split
    · simp
    · exact getD_scale vs z k
theorem costF_scale (z : Int) : ∀ (rows : List (List Int)) (p : List Int), costF (rows.map fun r => r.map (· * z)) p = costF rows p * z
  | [], p => by simp [costF]
  | r :: rows, [] => by simp [costF]
  | r :: rows, c :: p => by
    simp only [List.map_cons, costF]
    rw [costF_scale z rows p, getD_scale, Int.add_mul]
theorem costAt_scale (z : Int) (rows : List (List Int)) (a b : Nat) : costAt (rows.map fun r => r.map (· * z)) a b = costAt rows a b * z := by
  unfold costAt
  simp only [List.getD, List.getElem?_map]
  cases rows[a]? with
  | none => simp
  | some r => simp only [Option.map_some, Option.getD_some]; exact getD_scale r z b
theorem pathT_scale (z : Int) (rows : List (List Int)) : ∀ (q : List Nat) (s : Nat), pathT (rows.map fun r => r.map (· * z)) s q = pathT rows s q * z
  | [], s => costAt_scale z rows s 0
  | u :: q, s => by
    simp only [pathT]
    rw [pathT_scale z rows q u, costAt_scale, Int.add_mul]
theorem scale_ans {i : InstP} {z : Int} (hz : 0 ≤ z) {x y : List Int} {v u : Int} (ha : AnsOk i x v) (hb : AnsOk (scaleI z i) y u) : u = v * z := by
  rcases ha with ⟨hk, n, m, hn, rfl, h1, h2, rfl, h3⟩ | ⟨hk, l, rfl, h1, rfl, h2⟩ | ⟨hk, q, rfl, h1, rfl, h2⟩
  · rcases hb with ⟨hk', n', m', hn', rfl, k1, k2, rfl, k3⟩ | ⟨hk', _⟩ | ⟨hk', _⟩
    · obtain rfl : n = n' := by simp only [scaleI] at hn'; omega
      simp only [scaleI] at k2 k3 ⊢
      have a1 := k3 m h1 h2
      have a2 := Int.mul_le_mul_of_nonneg_right (h3 m' k1 k2) hz
      simp only [sumN_scale] at a1 ⊢
      omega
    · simp only [scaleI] at hk'; omega
    · simp only [scaleI] at hk'; omega
  · rcases hb with ⟨hk', _⟩ | ⟨hk', l', rfl, k1, rfl, k2⟩ | ⟨hk', _⟩
    · simp only [scaleI] at hk'; omega
    · simp only [scaleI, List.length_map] at k1 k2 ⊢
      rw [costF_scale] at k2 ⊢
      have a1 := k2.2 l h1
      rw [costF_scale] at a1
      have a2 := Int.mul_le_mul_of_nonneg_right (h2.2 l' k1) hz
      omega
    · simp only [scaleI] at hk'; omega
  · rcases hb with ⟨hk', _⟩ | ⟨hk', _⟩ | ⟨hk', q', rfl, k1, rfl, k2⟩
    · simp only [scaleI] at hk'; omega
    · simp only [scaleI] at hk'; omega
    · simp only [scaleI, List.length_map] at k1 k2 ⊢
      rw [pathT_scale] at k2 ⊢
      have a1 := k2.2 q h1
      rw [pathT_scale] at a1
      have a2 := Int.mul_le_mul_of_nonneg_right (h2.2 q' k1) hz
      omega
/-- one more item -/
def moreI (w v : Int) (i : InstP) : InstP := ⟨i.kind, i.n + 1, i.cap, i.weight ++ [w], i.value ++ [v], i.cost⟩
theorem atF_left {l : List Int} {z : Int} {j : Nat} (h : j < l.length) : atF (l ++ [z]) j = atF l j := by
  unfold atF
  rw [List.getD, List.getD, List.getElem?_append_left h]
theorem atF_right {l : List Int} {z : Int} : atF (l ++ [z]) l.length = z := by
  unfold atF
  simp [List.getD]
theorem sumB_same {f g : Nat → Int} (s : Nat) : ∀ k, (∀ j, j < k → f j = g j) → sumB f k s = sumB g k s
  | 0, _ => rfl
  | k + 1, h => by rw [sumB_succ, sumB_succ, sumB_same s k fun j hj => h j (by omega), h k (by omega)]
theorem sumN_same {f g : Nat → Int} (s : Nat) : ∀ k, (∀ j, j < k → f j = g j) → sumN f k s = sumN g k s
  | 0, _ => rfl
  | k + 1, h => by rw [sumN_succ, sumN_succ, sumN_same s k fun j hj => h j (by omega), h k (by omega)]
theorem more_ans {i : InstP} {z : Int} (hc : checkP i = 0) (hk : i.kind = 1) {x y : List Int} {v u : Int} (ha : AnsOk i x v) (hb : AnsOk (moreI (i.cap + 1) z i) y u) : u = v + z := by
  have ok := knap_ok hc hk
  rcases ha with ⟨-, n, m, hn, rfl, h1, h2, rfl, h3⟩ | ⟨hk', _⟩ | ⟨hk', _⟩
  · rcases hb with ⟨-, n', m', hn', rfl, k1, k2, rfl, k3⟩ | ⟨hk', _⟩ | ⟨hk', _⟩
    · obtain rfl : n' = n + 1 := by simp only [moreI] at hn'; omega
      have lw : i.weight.length = n := by have := ok.w; omega
      have lv : i.value.length = n := by have := ok.v; omega
      simp only [moreI] at k2 k3 ⊢
      have BW : ∀ s, sumB (atF (i.weight ++ [i.cap + 1])) (n + 1) s = sumB (atF i.weight) n s + if s.testBit n = true then i.cap + 1 else 0 := fun s => by
        rw [sumB_succ, sumB_same (g := atF i.weight) s n fun j hj => atF_left (by omega)]
        have e : atF (i.weight ++ [i.cap + 1]) n = i.cap + 1 := by rw [← lw]; exact atF_right
        rw [e]
      have BV : ∀ s, sumN (atF (i.value ++ [z])) (n + 1) s = sumN (atF i.value) n s + if s.testBit n = true then 0 else z := fun s => by
        rw [sumN_succ, sumN_same (g := atF i.value) s n fun j hj => atF_left (by omega)]
        have e : atF (i.value ++ [z]) n = z := by rw [← lv]; exact atF_right
        rw [e]
      have P0 := fun s => (sums_bd (f := atF i.weight) (n := n) (fun j _ => atF_bd ok.sw j) s n (Nat.le_refl n)).1.1
      have hm : m.testBit n = false := Nat.testBit_lt_two_pow h1
      have hp : 2 ^ (n + 1) = 2 ^ n + 2 ^ n := by rw [Nat.pow_succ]; omega
      have a1 := k3 m (by omega) (by rw [BW, hm]; simpa using h2)
      rw [BW] at k2
      have hm' : m'.testBit n = false := by
        cases hb : m'.testBit n
        · rfl
        · rw [hb, if_pos rfl] at k2
          have := P0 m'
          omega
      rw [hm', if_neg (by simp), Int.add_zero] at k2
      have hlt : m' < 2 ^ n := by
        refine Nat.lt_pow_two_of_testBit _ fun j hj => ?_
        by_cases e : j = n
        · subst e; exact hm'
        · exact Nat.testBit_lt_two_pow (Nat.lt_of_lt_of_le k1 (Nat.pow_le_pow_right (by omega) (by omega)))
      have a2 := h3 m' hlt k2
      rw [BV, BV, hm, hm'] at a1
      rw [BV, hm']
      simp only [Bool.false_eq_true, if_false] at a1 ⊢
      omega
    · simp only [moreI] at hk'; omega
    · simp only [moreI] at hk'; omega
  · omega
  · omega
theorem firstBad_of : ∀ {l : List Int}, (∀ x ∈ l, 0 ≤ x ∧ x ≤ 2147483647) → firstBad l = 0
  | [], _ => rfl
  | x :: l, h => by
    have hx := h x (by simp)
    have e : numP x = 0 := by unfold numP; rw [if_neg (by omega), if_neg (by omega)]
    have ih := firstBad_of (l := l) fun y hy => h y (by simp [hy])
    unfold firstBad
    rw [e]
    exact ih
theorem inter_of : ∀ {xs ys : List Int} {z : Int}, z ∈ inter xs ys → z ∈ xs ∨ z ∈ ys
  | [], _, z, h => by simp [inter] at h
  | _ :: _, [], z, h => by simp [inter] at h
  | x :: xs, y :: ys, z, h => by
    simp only [inter, List.mem_cons] at h
    rcases h with rfl | rfl | h
    · exact .inl (by simp)
    · exact .inr (by simp)
    · rcases inter_of h with h | h
      · exact .inl (by simp [h])
      · exact .inr (by simp [h])
theorem more_check {i : InstP} {z : Int} (hc : checkP i = 0) (hk : i.kind = 1) (hn : i.n ≤ 63) (hcap : i.cap < 2147483647) (hz : 0 ≤ z ∧ z ≤ 2147483647) : checkP (moreI (i.cap + 1) z i) = 0 := by
  have ok := knap_ok hc hk
  have n1 := ok.n1
  have ow := ok.w
  have ov := ok.v
  have oc := ok.cost
  unfold checkP
  have e1 : sizeP (moreI (i.cap + 1) z i).kind (moreI (i.cap + 1) z i).n = 0 := by
    unfold sizeP moreI
    simp only
    rw [if_pos hk, if_neg (by omega), if_neg (by omega)]
  have e2 : shapeP (moreI (i.cap + 1) z i) = true := by
    unfold shapeP moreI
    simp only
    rw [if_pos hk]
    simp only [Bool.and_eq_true, beq_iff_eq, List.length_append, List.length_singleton, oc]
    simp
    omega
  rw [if_pos e1, if_pos e2]
  have e3 : (moreI (i.cap + 1) z i).kind = 1 := hk
  rw [if_pos e3]
  unfold itemsP moreI
  simp only
  refine firstBad_of fun x hx => ?_
  rcases List.mem_cons.1 hx with rfl | hx
  · exact ok.cap
  · rcases inter_of hx with h | h
    · rcases List.mem_append.1 (List.mem_of_mem_take h) with h | h
      · exact ok.sw x h
      · have := List.mem_singleton.1 h
        have := ok.cap
        omega
    · rcases List.mem_append.1 (List.mem_of_mem_take h) with h | h
      · exact ok.sv x h
      · have := List.mem_singleton.1 h
        omega
end Go.Proofs.YtleckhbmciiooaaDoor
namespace Go.Proofs.YtleckhbmciiooaaDoor
open Go.RowKit Go.ChangeShapes Go.WideShapes Go.ChangeAt Go.Deep

section
variable {P : Program} {ops : Array Oper} {i : Nat} {t : TypeId} {d : Option Tmp} {a : Act} {w w' : World} {K : Act → World → Prop} {Q : Exit → Act → World → Prop}
theorem op_fa {T : TypeId} {f : Nat} {x : Operand} (hi : opAt ops i = some (none, .fieldAddr T x f, t, d)) (p : Value) (hx : a.eval x = p) (v : Value) (hrun : (Instr.fieldAt T p f).run P w = .ok v w) (hK : K (a.put d v) w) : wpOp P ops Q i K a w :=
  op_run hi v (by simp [exec2, execOp, hx, hrun]) hK
end
end Go.Proofs.YtleckhbmciiooaaDoor
namespace Go.Proofs.YtleckhbmciiooaaDoor
open Go.RowKit Go.ChangeShapes Go.WideShapes Go.ChangeAt Go.Deep

def ICopyPostD (i : InstP) (w : World) (e : Ending) (w' : World) : Prop := ∃ A3 c3 B3 d3 C cc us, e = .returned (.agg #[.int .i64 i.kind, .int .i64 i.n, .int .i64 i.cap, .slice A3 i.weight.length c3, .slice B3 i.value.length d3, .slice C i.cost.length cc]) ∧ OwI w' w.heap.size A3 c3 i.weight ∧ OwI w' w.heap.size B3 d3 i.value ∧ (∀ g, bl A3 = some g → bl B3 ≠ some g) ∧ OwV w' w.heap.size 22 1 C i.cost.length cc us ∧ RowsO w' w.heap.size us i.cost ∧ RowsD us ∧ Ext w w'
set_option maxRecDepth 100000 in
set_option maxHeartbeats 4000000 in
theorem icopyd_any (i : InstP) (vs : List Value) (w : World) (H : RInst w vs i) (lw : i.weight.length ≤ 1000000000) (lv : i.value.length ≤ 1000000000) (lc : i.cost.length ≤ 1000000) (lr : ∀ r ∈ i.cost, r.length ≤ 1000000000) :
    Calls Tryd.prog 11 #[.agg (List.toArray vs)] w (ICopyPostD i w) := by
  obtain ⟨A, a, B, b, C, c, rfl, ⟨rA, iA, lA, mA⟩, ⟨rB, iB, lB, mB⟩, ⟨rC, lC, mC⟩⟩ := H
  obtain ⟨kind, nn, cap, xw, xv, co⟩ := i
  simp only at *
  obtain ⟨i0, hi, hz0, hz1, hz2⟩ := info_parts row_info
  replace hi := Lib.hid hi
  replace hz0 := Lib.hid hz0
  replace hz1 := Lib.hid hz1
  replace hz2 := Lib.hid hz2
  replace lr := Lib.hid lr
  have X : Ext w ((w.alloc (.cells #[.int .i64 kind, .int .i64 nn, .int .i64 cap, .slice A xw.length a, .slice B xv.length b, .slice C co.length c] 25)).alloc (.cells #[.int .i64 0, .int .i64 0, .int .i64 0, .slice none 0 0, .slice none 0 0, .slice none 0 0] 25)) := ((Ext.rf _).alloc _).alloc _
  have B1 : Blk ((w.alloc (.cells #[.int .i64 kind, .int .i64 nn, .int .i64 cap, .slice A xw.length a, .slice B xv.length b, .slice C co.length c] 25)).alloc (.cells #[.int .i64 0, .int .i64 0, .int .i64 0, .slice none 0 0, .slice none 0 0, .slice none 0 0] 25)) w.heap.size 25 #[.int .i64 kind, .int .i64 nn, .int .i64 cap, .slice A xw.length a, .slice B xv.length b, .slice C co.length c] := .alloc (.new rfl) _
  have B2 : Blk ((w.alloc (.cells #[.int .i64 kind, .int .i64 nn, .int .i64 cap, .slice A xw.length a, .slice B xv.length b, .slice C co.length c] 25)).alloc (.cells #[.int .i64 0, .int .i64 0, .int .i64 0, .slice none 0 0, .slice none 0 0, .slice none 0 0] 25)) (w.heap.size + 1) 25 #[.int .i64 0, .int .i64 0, .int .i64 0, .slice none 0 0, .slice none 0 0, .slice none 0 0] := .new (by simp)
  replace X := Lib.hid X
  replace B1 := Lib.hid B1
  replace B2 := Lib.hid B2
  replace rA := Lib.hid rA
  replace rB := Lib.hid rB
  replace rC := Lib.hid rC
  replace iA := Lib.hid iA
  replace iB := Lib.hid iB
  replace mA := Lib.hid mA
  replace mB := Lib.hid mB
  replace mC := Lib.hid mC
  go_enter Tryd.func11, Tryd.ntmps11
  go_wp2_with (fail)
  generalize (w.alloc (.cells #[.int .i64 kind, .int .i64 nn, .int .i64 cap, .slice A xw.length a, .slice B xv.length b, .slice C co.length c] 25)).alloc (.cells #[.int .i64 0, .int .i64 0, .int .i64 0, .slice none 0 0, .slice none 0 0, .slice none 0 0] 25) = wr at *
  have z1 := B1.out.lt
  have zw := X.out.size
  refine wp_region_any (by kernel_rfl) ?_
  change wpAny _ _ _ _ _ _ _ (World.drew _)
  refine wpAny_T (i := 0) (op := Op.fieldAddr 25 (Operand.tmp 1) 3) (t := 0) (d := some 6) (v := ?_) rfl (by decide +kernel) (by decide +kernel) (by decide +kernel) (fun _ _ _ h => h) ?_ ?_
  case refine_2 => (intro _; unfold exec2; go_simp; try with_reducible rfl)
  try simp only [Act.put, List.setIfInBounds_toArray, List.set_cons_zero, List.set_cons_succ]
  refine wpAny_T (i := 3) (op := Op.fieldAddr 25 (Operand.tmp 1) 4) (t := 0) (d := some 9) (v := ?_) rfl (by decide +kernel) (by decide +kernel) (by decide +kernel) (fun _ _ _ h => h) ?_ ?_
  case refine_2 => (intro _; unfold exec2; go_simp; try with_reducible rfl)
  try simp only [Act.put, List.setIfInBounds_toArray, List.set_cons_zero, List.set_cons_succ]
  refine wpAny_core4 (n := 3) (σ := Nat → Nat) [(1, some 7), (2, some 8), (4, some 10), (5, some 11), (6, some 12)] (fun _ W => Ext wr W)
    (fun j v T W => (j = 1 → v = .slice A xw.length a) ∧ (j = 4 → v = .slice B xv.length b) ∧ (j = 6 → v = .pointer (some ⟨w.heap.size, 3, none⟩)) ∧ (j = 2 → ∃ A' c', v = .slice A' xw.length c' ∧ OwI W w.heap.size A' c' xw ∧ ∀ g, bl A' = some g → T g = 2) ∧ (j = 5 → ∃ A' c', v = .slice A' xv.length c' ∧ OwI W w.heap.size A' c' xv ∧ ∀ g, bl A' = some g → T g = 5))
    (fun T W T' W' => Ext W W' ∧ ∀ h, h < W.heap.size → T' h = T h) #[true, true, true, true, true, true, true, false, false, false] (by decide +kernel) ?_ ?_ ?_ (s0 := fun _ => 0) ((Ext.rf _).drew)
  · rintro j v T W T' W' ⟨h1, h4, h6, h2, h5⟩ ⟨hx, hT⟩
    refine ⟨h1, h4, h6, fun hj => ?_, fun hj => ?_⟩
    · obtain ⟨A', c', k1, k2, k3⟩ := h2 hj
      exact ⟨A', c', k1, k2.ext hx, fun g hg => by rw [hT g (k2.lt g hg).2]; exact k3 g hg⟩
    · obtain ⟨A', c', k1, k2, k3⟩ := h5 hj
      exact ⟨A', c', k1, k2.ext hx, fun g hg => by rw [hT g (k2.lt g hg).2]; exact k3 g hg⟩
  · intro pq hpm u T w2 hRW hD K hK
    have b2 := B1.out.ext hRW
    have r3 : w2.cell? ⟨w.heap.size, 3, none⟩ = some (.slice A xw.length a) := b2.cell 3
    have r4 : w2.cell? ⟨w.heap.size, 4, none⟩ = some (.slice B xv.length b) := b2.cell 4
    have xe := X.out.tr hRW
    have zxe := xe.size
    have ID : Ext w2 w2 ∧ ∀ h, h < w2.heap.size → T h = T h := ⟨Ext.rf _, fun _ _ => rfl⟩
    have TG : ∀ (n : Nat) (w3 : World), Ext w2 w3 → Ext w2 w3 ∧ ∀ h, h < w2.heap.size → (fun x => if w2.heap.size ≤ x then n else T x) h = T h := fun n w3 x => ⟨x, fun h hh => if_neg (by omega)⟩
    simp only [List.mem_cons, List.not_mem_nil, or_false] at hpm
    rcases hpm with rfl | rfl | rfl | rfl | rfl
    · exact op_ld (T := 22) rfl (.pointer (some ⟨w.heap.size, 3, none⟩)) (by kernel_rfl) (.slice A xw.length a) (by go_simp) (hK _ T w2 ⟨fun _ => rfl, (fun h => by cases h), (fun h => by cases h), (fun h => by cases h), (fun h => by cases h)⟩ hRW ID)
    · refine op_call rfl #[.slice A xw.length a] (by go_simp) (Eq.trans (b := #[u 1]) (by kernel_rfl) (by rw [(hD 1 (depIn (by kernel_rfl))).1 rfl])) _ (clone_any A a xw w2 (rA.out.ext xe) (by omega)) ?_
      rintro e w3 ⟨A3, c3, rfl, o3, x3⟩
      exact ⟨_, rfl, hK _ (fun x => if w2.heap.size ≤ x then 2 else T x) _ ⟨(fun h => by cases h), (fun h => by cases h), (fun h => by cases h), fun _ => ⟨A3, c3, rfl, o3.more (by omega), fun g hg => if_pos (o3.lt g hg).1⟩, (fun h => by cases h)⟩ (hRW.tr x3) (TG 2 _ x3)⟩
    · exact op_ld (T := 22) rfl (.pointer (some ⟨w.heap.size, 4, none⟩)) (by kernel_rfl) (.slice B xv.length b) (by go_simp) (hK _ T w2 ⟨(fun h => by cases h), fun _ => rfl, (fun h => by cases h), (fun h => by cases h), (fun h => by cases h)⟩ hRW ID)
    · refine op_call rfl #[.slice B xv.length b] (by go_simp) (Eq.trans (b := #[u 4]) (by kernel_rfl) (by rw [(hD 4 (depIn (by kernel_rfl))).2.1 rfl])) _ (clone_any B b xv w2 (rB.out.ext xe) (by omega)) ?_
      rintro e w3 ⟨A3, c3, rfl, o3, x3⟩
      exact ⟨_, rfl, hK _ (fun x => if w2.heap.size ≤ x then 5 else T x) _ ⟨(fun h => by cases h), (fun h => by cases h), (fun h => by cases h), (fun h => by cases h), fun _ => ⟨A3, c3, rfl, o3.more (by omega), fun g hg => if_pos (o3.lt g hg).1⟩⟩ (hRW.tr x3) (TG 5 _ x3)⟩
    · exact op_fa (T := 25) (f := 3) rfl (.pointer (some ⟨w.heap.size, 0, none⟩)) (by kernel_rfl) (.pointer (some ⟨w.heap.size, 3, none⟩)) (by go_simp) (hK _ T w2 ⟨(fun h => by cases h), (fun h => by cases h), fun _ => rfl, (fun h => by cases h), (fun h => by cases h)⟩ hRW ID)
  · intro u T9 w3 hRW hV
    have h1 := (hV (1, some 7) (by simp)).1 rfl
    have h4 := (hV (4, some 10) (by simp)).2.1 rfl
    obtain ⟨A3, c3, h2, oA, tA⟩ := (hV (2, some 8) (by simp)).2.2.2.1 rfl
    obtain ⟨B3, d3, h5, oB, tB⟩ := (hV (5, some 11) (by simp)).2.2.2.2 rfl
    have h6 := (hV (6, some 12) (by simp)).2.2.1 rfl
    have DJ : Hid (∀ g, bl A3 = some g → bl B3 ≠ some g) := fun g h1 h2 => by
      have e1 := tA g h1
      have e2 := tB g h2
      omega
    simp only [putAll, h1, h2, h4, h5, h6]
    have b1 := B1.out.ext hRW
    have b2 := B2.out.ext hRW
    have g3 : w3.cell? ⟨w.heap.size, 3, none⟩ = some (.slice A xw.length a) := b1.cell 3
    have k3 := b1.free 3
    have b1a := b1.set 3 (.slice A3 xw.length c3)
    have g4 : (w3.setCell ⟨w.heap.size, 3, none⟩ (.slice A3 xw.length c3)).cell? ⟨w.heap.size, 4, none⟩ = some (.slice B xv.length b) := b1a.cell 4
    have k4 := b1a.free 4
    have b1b := Lib.hid (b1a.set 4 (.slice B3 xv.length d3))
    have b2b := Lib.hid ((b2.far (p := ⟨w.heap.size, 3, none⟩) (by simp) (.slice A3 xw.length c3)).far (p := ⟨w.heap.size, 4, none⟩) (by simp) (.slice B3 xv.length d3))
    have m3 : ModT w.heap.size [25] w3 (w3.setCell ⟨w.heap.size, 3, none⟩ (.slice A3 xw.length c3)) := ModT.set w3 b1 (by simp) (Nat.le_refl _) 3 _
    have m4 : ModT w.heap.size [25] (w3.setCell ⟨w.heap.size, 3, none⟩ (.slice A3 xw.length c3)) ((w3.setCell ⟨w.heap.size, 3, none⟩ (.slice A3 xw.length c3)).setCell ⟨w.heap.size, 4, none⟩ (.slice B3 xv.length d3)) := ModT.set _ b1a (by simp) (Nat.le_refl _) 4 _
    have OAB := Lib.hid (And.intro ((oA.modT m3 (by decide)).modT m4 (by decide)) ((oB.modT m3 (by decide)).modT m4 (by decide)))
    have Xb := Lib.hid (((X.out.tr hRW).setNew (p := ⟨w.heap.size, 3, none⟩) (Nat.le_refl _) (.slice A3 xw.length c3)).setNew (p := ⟨w.heap.size, 4, none⟩) (Nat.le_refl _) (.slice B3 xv.length d3))
    clear h1 h2 h4 h5 h6 hV oA oB tA tB m3 m4
    try simp only [Act.put, List.setIfInBounds_toArray, List.set_cons_zero, List.set_cons_succ]
    refine wpAny_next 7 (by decide +kernel) (op_st rfl (.pointer (some ⟨w.heap.size, 3, none⟩)) (.slice A3 xw.length c3) (by kernel_rfl) (by kernel_rfl) (by go_simp; rfl) ?_)
    refine wpAny_T (i := 8) (op := Op.fieldAddr 25 (Operand.tmp 1) 4) (t := 0) (d := some 13) (v := ?_) rfl (by decide +kernel) (by decide +kernel) (by decide +kernel) (fun _ _ _ h => h) ?_ ?_
    case refine_2 => (intro _; unfold exec2; go_simp; try with_reducible rfl)
    try simp only [Act.put, List.setIfInBounds_toArray, List.set_cons_zero, List.set_cons_succ]
    refine wpAny_next 9 (by decide +kernel) (op_st rfl (.pointer (some ⟨w.heap.size, 4, none⟩)) (.slice B3 xv.length d3) (by kernel_rfl) (by kernel_rfl) (by go_simp; rfl) ?_)
    refine wpAny_done (by kernel_rfl) ?_ _
    clear g3 g4 k3 k4 b1 b2 b1a hRW
    generalize (w3.setCell ⟨w.heap.size, 3, none⟩ (.slice A3 xw.length c3)).setCell ⟨w.heap.size, 4, none⟩ (.slice B3 xv.length d3) = w4 at *
    clear w3
    have q5 : w4.cell? ⟨w.heap.size, 5, none⟩ = some (.slice C co.length c) := b1b.out.cell 5
    go_simp
    go_wp2_with (fail)
    have lct := Lib.hid lc
    have START : Hid (OwV w4 w.heap.size 22 1 none 0 0 [] ∧ RowsO w4 w.heap.size [] (co.take 0) ∧ Ext w w4 ∧ Blk w4 w.heap.size 25 #[.int .i64 kind, .int .i64 nn, .int .i64 cap, .slice A3 xw.length c3, .slice B3 xv.length d3, .slice C co.length c] ∧ Blk w4 (w.heap.size + 1) 25 #[.int .i64 0, .int .i64 0, .int .i64 0, .slice none 0 0, .slice none 0 0, .slice none 0 0] ∧ OwI w4 w.heap.size A3 c3 xw ∧ OwI w4 w.heap.size B3 d3 xv ∧ RowsD []) := ⟨OwV.nil _ _ _ _, by simpa using RowsO.nil w4 w.heap.size, Xb.out, b1b.out, b2b.out, OAB.out.1, OAB.out.2, RowsD.nil⟩
    clear b1b b2b Xb q5 OAB
    go_loopw [3, 17] (fun v3 v17 wr => ∃ (k : Nat) (C' : Option Addr) (cc : Nat) (us : List Value), v17 = .int .i64 k ∧ v3 = .slice C' k cc ∧ k ≤ co.length ∧ Hid (OwV wr w.heap.size 22 1 C' k cc us ∧ RowsO wr w.heap.size us (co.take k) ∧ Ext w wr ∧ Blk wr w.heap.size 25 #[.int .i64 kind, .int .i64 nn, .int .i64 cap, .slice A3 xw.length c3, .slice B3 xv.length d3, .slice C co.length c] ∧ Blk wr (w.heap.size + 1) 25 #[.int .i64 0, .int .i64 0, .int .i64 0, .slice none 0 0, .slice none 0 0, .slice none 0 0] ∧ OwI wr w.heap.size A3 c3 xw ∧ OwI wr w.heap.size B3 d3 xv ∧ RowsD us)) (fun _ v17 _ => co.length - (intOf v17).toNat)
    case atStart => exact ⟨0, none, 0, [], rfl, rfl, by omega, START⟩
    case round =>
      obtain ⟨wo, rfl⟩ : ∃ wo : World, wo = wr := ⟨_, rfl⟩
      clear START
      obtain ⟨k, C', cc, us, rfl, rfl, hk, HH⟩ := hrel
      obtain ⟨oV, oR, Y, b1, b2, oA, oB, rD⟩ := HH.out
      replace oA := Lib.hid oA
      replace oB := Lib.hid oB
      replace rD := Lib.hid rD
      by_cases hlt : k < co.length
      · obtain ⟨b', off, D, row, d, rfl, zd, hcd, her, _, rrow, _, ld, md⟩ := (rC.out.ext Y (fun _ _ h => h.ext Y)).ints hlt
        have lrow := lr.out row (List.mem_of_getElem? her.out)
        have etk : Hid (co.take (k + 1) = co.take k ++ [row]) := by
          have h : co.take (k + 1) = co.take k ++ [row] := by rw [List.take_add_one, her.out]; rfl
          exact h
        have q1 : (k : Int) < (co.length : Int) := by omega
        replace oV := Lib.hid oV
        replace oR := Lib.hid oR
        replace Y := Lib.hid Y
        replace b1 := Lib.hid b1
        replace b2 := Lib.hid b2
        replace rrow := Lib.hid rrow
        clear HH her
        go_wp2_with (fail)
        refine (clone_any D d row _ rrow.out (by omega)).mono ?_
        rintro e w5 ⟨D2, e2, rfl, o5, x5⟩
        have oV5 := oV.out.ext x5
        have zw5 := Y.out.size
        go_wp2_with (at_builtin; refine wpl_app_v _ (e := 22) Tryd.underlying23 hi.out hz0.out hz1.out hz2.out (by simp [Value.cells]) (by omega) rfl _ _ rfl w.heap.size C' k cc us (some ⟨w5.heap.size, 0, none⟩) 1 1 [.slice D2 row.length e2] rfl rfl (oV5.ext ((Ext.rf _).alloc _)) (RdV.blk (.new (by simp))).rdC (by simp) (by simp [Value.oneCell']) (by simp only [maxLen]; omega) (by omega) (by have := x5.size; simp; omega) ?_; rintro C6 c6 w6 o6 g6 _)
        have M6 := (oV5.ext ((Ext.rf w5).alloc (.cells #[.slice D2 row.length e2] 22))).grownT g6
        have X6 : Ext wo (w5.alloc (.cells #[.slice D2 row.length e2] 22)) := x5.tr ((Ext.rf _).alloc _)
        have NEW : Hid (OwV w6 w.heap.size 22 1 C6 (k + 1) c6 (us ++ [.slice D2 row.length e2]) ∧ RowsO w6 w.heap.size (us ++ [.slice D2 row.length e2]) (co.take (k + 1)) ∧ Ext w w6 ∧ Blk w6 w.heap.size 25 #[.int .i64 kind, .int .i64 nn, .int .i64 cap, .slice A3 xw.length c3, .slice B3 xv.length d3, .slice (some ⟨b', off, none⟩) co.length c] ∧ Blk w6 (w.heap.size + 1) 25 #[.int .i64 0, .int .i64 0, .int .i64 0, .slice none 0 0, .slice none 0 0, .slice none 0 0] ∧ OwI w6 w.heap.size A3 c3 xw ∧ OwI w6 w.heap.size B3 d3 xv ∧ RowsD (us ++ [.slice D2 row.length e2])) := by
          refine ⟨o6, ?_, (Y.out.tr X6).modT M6 (Nat.le_refl _), (b1.out.ext X6).modT M6 (by decide), (b2.out.ext X6).modT M6 (by decide), (oA.out.ext X6).modT M6 (by decide), (oB.out.ext X6).modT M6 (by decide), RowsD.snoc rD.out oR.out o5⟩
          rw [etk.out]
          exact ((oR.out.ext X6).modT M6 (by decide)).snoc (((o5.more zw5).ext ((Ext.rf _).alloc _)).modT M6 (by decide))
        clear oV5 o5 x5 o6 g6 M6 X6 hcd
        go_wp2_with (fail)
        go_roundw
        case rel => exact ⟨k + 1, C6, c6, _, by go_num, rfl, by omega, NEW⟩
        case measure => simp [intOf]; omega
      · obtain rfl : k = co.length := by omega
        rw [List.take_length] at oR
        have c0 : wo.cell? ⟨w.heap.size, 0, none⟩ = some (.int .i64 kind) := b1.cell 0
        have c1 : wo.cell? ⟨w.heap.size, 1, none⟩ = some (.int .i64 nn) := b1.cell 1
        have c2 : wo.cell? ⟨w.heap.size, 2, none⟩ = some (.int .i64 cap) := b1.cell 2
        have c3' : wo.cell? ⟨w.heap.size, 3, none⟩ = some (.slice A3 xw.length c3) := b1.cell 3
        have c4 : wo.cell? ⟨w.heap.size, 4, none⟩ = some (.slice B3 xv.length d3) := b1.cell 4
        have c5 : wo.cell? ⟨w.heap.size, 5, none⟩ = some (.slice C co.length c) := b1.cell 5
        have k5 := b1.free 5
        have r0 : wo.cell? ⟨w.heap.size + 1, 0, none⟩ = some (.int .i64 0) := b2.cell 0
        have r1 : wo.cell? ⟨w.heap.size + 1, 1, none⟩ = some (.int .i64 0) := b2.cell 1
        have r2 : wo.cell? ⟨w.heap.size + 1, 2, none⟩ = some (.int .i64 0) := b2.cell 2
        have r3 : wo.cell? ⟨w.heap.size + 1, 3, none⟩ = some (.slice none 0 0) := b2.cell 3
        have r4 : wo.cell? ⟨w.heap.size + 1, 4, none⟩ = some (.slice none 0 0) := b2.cell 4
        have r5 : wo.cell? ⟨w.heap.size + 1, 5, none⟩ = some (.slice none 0 0) := b2.cell 5
        have f0 := b2.free 0
        have f1 := b2.free 1
        have f2 := b2.free 2
        have f3 := b2.free 3
        have f4 := b2.free 4
        have f5 := b2.free 5
        have m1 : ModT w.heap.size [25] wo (wo.setCell ⟨w.heap.size, 5, none⟩ (.slice C' co.length cc)) := ModT.set wo b1 (by simp) (Nat.le_refl _) 5 _
        have b2' := b2.far (p := ⟨w.heap.size, 5, none⟩) (by simp) (.slice C' co.length cc)
        have m2 := (set6 b2' (base := w.heap.size) (by omega) (.int .i64 kind) (.int .i64 nn) (.int .i64 cap) (.slice A3 xw.length c3) (.slice B3 xv.length d3) (.slice C' co.length cc)).2
        have F := Lib.hid (And.intro ((oV.modT m1 (by decide)).modT m2 (by decide)) (And.intro ((oR.modT m1 (by decide)).modT m2 (by decide)) (And.intro ((Y.modT m1 (Nat.le_refl _)).modT m2 (Nat.le_refl _)) (And.intro ((oA.out.modT m1 (by decide)).modT m2 (by decide)) ((oB.out.modT m1 (by decide)).modT m2 (by decide))))))
        have hRD := rD
        clear HH oV oR Y b1 b2 m1 m2 b2'
        go_wp2_with (fail)
        exact bodyPost_ret (v := .agg #[.int .i64 kind, .int .i64 nn, .int .i64 cap, .slice A3 xw.length c3, .slice B3 xv.length d3, .slice C' co.length cc]) (by simp [results, Tryd.results11, go_sem, *]) rfl ⟨A3, c3, B3, d3, C', cc, us, rfl, F.out.2.2.2.1, F.out.2.2.2.2, DJ.out, F.out.1, F.out.2.1, hRD.out, F.out.2.2.1⟩
end Go.Proofs.YtleckhbmciiooaaDoor
namespace Go.Proofs.YtleckhbmciiooaaDoor
open Go.RowKit Go.ChangeShapes Go.WideShapes Go.ChangeAt Go.Deep

set_option maxRecDepth 100000 in
set_option maxHeartbeats 4000000 in
theorem shape0g_any (k n cap : Int) (A B C : Option Addr) (a b c : Nat) (xs ys : List Int) (l : List (List Int)) (w : World) (hk : k ≠ 1) (hC : RdE 1 RInts w C l) (lc : l.length ≤ c) (mc : c ≤ maxLen) (lx : xs.length ≤ maxLen) (ly : ys.length ≤ maxLen) (lxy : xs.length + ys.length ≤ maxLen) :
    Calls Tryd.prog 40 #[.agg #[.int .i64 k, .int .i64 n, .int .i64 cap, .slice A xs.length a, .slice B ys.length b, .slice C l.length c]] w fun e w' => e = .returned (.bool ((((l.length : Int) == n) && (cap == 0) && decide (xs.length + ys.length = 0)) && !(l.any fun r => (r.length : Int) != n))) ∧ Ext w w' := by
  have B1 : Hid (Blk (w.alloc (.cells #[.int .i64 k, .int .i64 n, .int .i64 cap, .slice A xs.length a, .slice B ys.length b, .slice C l.length c] 25)) w.heap.size 25 #[.int .i64 k, .int .i64 n, .int .i64 cap, .slice A xs.length a, .slice B ys.length b, .slice C l.length c]) := .new rfl
  have hk' : (k == 1) = false := by simpa using hk
  have lm : l.length ≤ maxLen := by omega
  replace hC := Lib.hid hC
  replace mc := Lib.hid mc
  replace lm := Lib.hid lm
  clear hk
  cases h1 : ((l.length : Int) == n)
  · have h1' : ((l.length : Int) != n) = true := by simp only [bne, h1]; rfl
    go_enter Tryd.func40, Tryd.ntmps40
    go_wp2
    go_ret
    exact ⟨rfl, by (repeat (first | assumption | exact Ext.rf _ | apply Ext.drew | apply Ext.drewN | apply Ext.alloc))⟩
  · have h1' : ((l.length : Int) != n) = false := by simp only [bne, h1]; rfl
    cases h2 : (cap == 0)
    · have h2' : (cap != 0) = true := by simp only [bne, h2]; rfl
      go_enter Tryd.func40, Tryd.ntmps40
      go_wp2
      go_ret
      exact ⟨rfl, by (repeat (first | assumption | exact Ext.rf _ | apply Ext.drew | apply Ext.drewN | apply Ext.alloc))⟩
    · have h2' : (cap != 0) = false := by simp only [bne, h2]; rfl
      by_cases hs : xs.length + ys.length = 0
      · have hs1 : decide (xs.length + ys.length = 0) = true := by simpa using hs
        rw [hs1]
        have l0 : xs.length = 0 := by omega
        have l1 : ys.length = 0 := by omega
        rw [l0, l1] at B1 ⊢
        clear hs hs1 l0 l1 lx ly lxy
        go_enter Tryd.func40, Tryd.ntmps40
        go_wp2_with (fail)
        refine (has_rows _ _ (fun m => (m : Int) != n) lens_enters C c l _ (hC.out.ext ((Ext.rf _).alloc _) fun _ _ h => h.ext ((Ext.rf _).alloc _)) lm.out ?_).mono ?_
        · intro W D r d _ hx
          exact lens_any D r.length d w.heap.size n _ W (B1.out.ext hx) rfl
        rintro e w' ⟨rfl, x'⟩
        go_wp2
        go_ret
        exact ⟨by simp, Ext.tr (a := w) (by (repeat (first | assumption | exact Ext.rf _ | apply Ext.drew | apply Ext.drewN | apply Ext.alloc))) x'⟩
      · have hs1 : decide (xs.length + ys.length = 0) = false := by simpa using hs
        rw [hs1]
        have hs2 : (0 : Int) < (xs.length : Int) + (ys.length : Int) := by omega
        have hs3 : IntKind.i64.wrap ((xs.length : Int) + (ys.length : Int)) = (xs.length : Int) + (ys.length : Int) := IntWalk.i64_in _ (by simp only [maxLen] at lxy; omega)
        clear hs hs1
        go_enter Tryd.func40, Tryd.ntmps40
        go_wp2
        go_ret
        exact ⟨rfl, by (repeat (first | assumption | exact Ext.rf _ | apply Ext.drew | apply Ext.drewN | apply Ext.alloc))⟩
set_option maxRecDepth 100000 in
set_option maxHeartbeats 4000000 in
theorem check_gen (i : InstP) (vs : List Value) (w : World) (H : RInst w vs i) (lw : i.weight.length ≤ maxLen) (lv : i.value.length ≤ maxLen) (lwv : i.weight.length + i.value.length ≤ maxLen) :
    Calls Tryd.prog 13 #[.agg (List.toArray vs)] w fun e w' => e = .returned (.int .i64 (checkP i)) ∧ Ext w w' := by
  obtain ⟨k, n, cap, xs, ys, l⟩ := i
  obtain ⟨A, a, B, b, C, c, rfl, ⟨rA, iA, lA, mA⟩, ⟨rB, iB, lB, mB⟩, ⟨rC, lC, mC⟩⟩ := H
  simp only at *
  have B1 : Hid (Blk (w.alloc (.cells #[.int .i64 k, .int .i64 n, .int .i64 cap, .slice A xs.length a, .slice B ys.length b, .slice C l.length c] 25)) w.heap.size 25 #[.int .i64 k, .int .i64 n, .int .i64 cap, .slice A xs.length a, .slice B ys.length b, .slice C l.length c]) := .new rfl
  replace rA := Lib.hid rA
  replace rB := Lib.hid rB
  replace rC := Lib.hid rC
  replace iA := Lib.hid iA
  replace iB := Lib.hid iB
  replace mA := Lib.hid mA
  replace mB := Lib.hid mB
  replace mC := Lib.hid mC
  have X1 : Ext w (w.alloc (.cells #[.int .i64 k, .int .i64 n, .int .i64 cap, .slice A xs.length a, .slice B ys.length b, .slice C l.length c] 25)) := (Ext.rf _).alloc _
  replace X1 := Lib.hid X1
  go_enter Tryd.func13, Tryd.ntmps13
  go_wp2_with (fail)
  refine (size_any k n cap _ _ _ _).mono ?_
  rintro e w2 ⟨rfl, x2⟩
  have X2 := Lib.hid (Ext.tr X1.out x2)
  have B2 := Lib.hid (B1.out.ext x2)
  have d0 : w2.cell? ⟨w.heap.size, 0, none⟩ = some (.int .i64 k) := B2.out.cell 0
  have d1 : w2.cell? ⟨w.heap.size, 1, none⟩ = some (.int .i64 n) := B2.out.cell 1
  have d2 : w2.cell? ⟨w.heap.size, 2, none⟩ = some (.int .i64 cap) := B2.out.cell 2
  have d3 : w2.cell? ⟨w.heap.size, 3, none⟩ = some (.slice A xs.length a) := B2.out.cell 3
  have d4 : w2.cell? ⟨w.heap.size, 4, none⟩ = some (.slice B ys.length b) := B2.out.cell 4
  have d5 : w2.cell? ⟨w.heap.size, 5, none⟩ = some (.slice C l.length c) := B2.out.cell 5
  by_cases hs : sizeP k n = 0
  · have hs' : (sizeP k n != 0) = false := by simpa using hs
    have qHS : checkP ⟨k, n, cap, xs, ys, l⟩ = (if shapeP ⟨k, n, cap, xs, ys, l⟩ = true then (if k = 1 then itemsP cap xs ys xs.length else rowsE k 0 l) else 8) := by
      unfold checkP
      simp only [if_pos hs]
    have HS := Lib.hid qHS
    clear qHS
    have kk := sizeP_kind hs
    replace hs := Lib.hid hs
    clear x2
    by_cases k1 : k = 1
    · subst k1
      have qHS2 : checkP ⟨1, n, cap, xs, ys, l⟩ = (if (((xs.length : Int) == n) && ((ys.length : Int) == n) && ((l.length : Int) == 0)) = true then itemsP cap xs ys xs.length else 8) := by
        have h1 := HS.out
        unfold shapeP at h1
        simpa only [if_true] using h1
      have HS2 := Lib.hid qHS2
      clear qHS2
      clear HS
      go_wp2_with (fail)
      refine (shape1_any n cap A B C a b c xs ys l _).mono ?_
      rintro e w3 ⟨rfl, x3⟩
      have X3 := Lib.hid (Ext.tr X2.out x3)
      have B3 := Lib.hid (B2.out.ext x3)
      have e0 : w3.cell? ⟨w.heap.size, 0, none⟩ = some (.int .i64 1) := B3.out.cell 0
      have e1 : w3.cell? ⟨w.heap.size, 1, none⟩ = some (.int .i64 n) := B3.out.cell 1
      have e2 : w3.cell? ⟨w.heap.size, 2, none⟩ = some (.int .i64 cap) := B3.out.cell 2
      have e3 : w3.cell? ⟨w.heap.size, 3, none⟩ = some (.slice A xs.length a) := B3.out.cell 3
      have e4 : w3.cell? ⟨w.heap.size, 4, none⟩ = some (.slice B ys.length b) := B3.out.cell 4
      have e5 : w3.cell? ⟨w.heap.size, 5, none⟩ = some (.slice C l.length c) := B3.out.cell 5
      clear d0 d1 d2 d3 d4 d5 x3 kk
      cases hh : (((xs.length : Int) == n) && ((ys.length : Int) == n) && ((l.length : Int) == 0)) with
      | false =>
        have qHC : checkP ⟨1, n, cap, xs, ys, l⟩ = 8 := by
          have h1 := HS2.out
          rw [hh, if_neg (by decide)] at h1
          exact h1
        have HC := Lib.hid qHC
        clear qHC
        clear hh
        go_wp2
        go_ret
        exact ⟨ret_i HC.out.symm, X3.out⟩
      | true =>
        have qHC : checkP ⟨1, n, cap, xs, ys, l⟩ = itemsP cap xs ys xs.length := by
          have h1 := HS2.out
          rw [hh, if_pos rfl] at h1
          exact h1
        have HC := Lib.hid qHC
        clear qHC
        simp only [Bool.and_eq_true, beq_iff_eq] at hh
        obtain ⟨⟨rfl, hy⟩, hz⟩ := hh
        clear HS2
        have hyx : Hid (xs.length = ys.length) := by have : xs.length = ys.length := by omega
                                                     exact this
        clear hy hz
        go_wp2_with (fail)
        refine (items_any A B a b 1 cap xs ys _ _ (rA.out.ext X3.out) (rB.out.ext X3.out) lA mA.out lB mB.out hyx.out).mono ?_
        rintro e w4 ⟨rfl, x4⟩
        go_wp2
        go_ret
        exact ⟨ret_i HC.out.symm, Ext.tr X3.out x4⟩
    · have k1' : (k == 1) = false := by simpa using k1
      have qHS2 : checkP ⟨k, n, cap, xs, ys, l⟩ = (if ((((l.length : Int) == n) && (cap == 0) && decide (xs.length + ys.length = 0)) && !(l.any fun r => (r.length : Int) != n)) = true then rowsE k 0 l else 8) := by
        have h1 := HS.out
        unfold shapeP at h1
        simpa only [if_neg k1] using h1
      have HS2 := Lib.hid qHS2
      clear qHS2
      clear HS
      go_wp2_with (fail)
      refine (shape0g_any k n cap A B C a b c xs ys l _ k1 (rC.out.ext X2.out fun _ _ h => h.ext X2.out) lC mC.out lw lv lwv).mono ?_
      rintro e w3 ⟨rfl, x3⟩
      have X3 := Lib.hid (Ext.tr X2.out x3)
      have B3 := Lib.hid (B2.out.ext x3)
      have e0 : w3.cell? ⟨w.heap.size, 0, none⟩ = some (.int .i64 k) := B3.out.cell 0
      have e1 : w3.cell? ⟨w.heap.size, 1, none⟩ = some (.int .i64 n) := B3.out.cell 1
      have e2 : w3.cell? ⟨w.heap.size, 2, none⟩ = some (.int .i64 cap) := B3.out.cell 2
      have e3 : w3.cell? ⟨w.heap.size, 3, none⟩ = some (.slice A xs.length a) := B3.out.cell 3
      have e4 : w3.cell? ⟨w.heap.size, 4, none⟩ = some (.slice B ys.length b) := B3.out.cell 4
      have e5 : w3.cell? ⟨w.heap.size, 5, none⟩ = some (.slice C l.length c) := B3.out.cell 5
      clear d0 d1 d2 d3 d4 d5 x3 kk k1
      generalize ((((l.length : Int) == n) && (cap == 0) && decide (xs.length + ys.length = 0)) && !(l.any fun r => (r.length : Int) != n)) = hh at HS2 ⊢
      cases hh with
      | false =>
        have HC : Hid (checkP ⟨k, n, cap, xs, ys, l⟩ = 8) := HS2.out
        clear HS2
        go_wp2
        go_ret
        exact ⟨ret_i HC.out.symm, X3.out⟩
      | true =>
        have HC : Hid (checkP ⟨k, n, cap, xs, ys, l⟩ = rowsE k 0 l) := HS2.out
        clear HS2
        go_wp2_with (fail)
        refine (rows_any k n cap _ _ C c l _ (rC.out.ext X3.out fun _ _ h => h.ext X3.out) lC mC.out).mono ?_
        rintro e w4 ⟨rfl, x4⟩
        go_wp2
        go_ret
        exact ⟨ret_i HC.out.symm, Ext.tr X3.out x4⟩
  · have hs' : (sizeP k n != 0) = true := by simpa using hs
    have qHC : checkP ⟨k, n, cap, xs, ys, l⟩ = sizeP k n := by
      unfold checkP
      simp only [if_neg hs]
    have HC := Lib.hid qHC
    clear qHC
    clear hs
    go_wp2
    go_ret
    exact ⟨ret_i HC.out.symm, X2.out⟩
end Go.Proofs.YtleckhbmciiooaaDoor
namespace Go.Proofs.YtleckhbmciiooaaDoor
open Go.RowKit Go.ChangeShapes Go.WideShapes Go.ChangeAt Go.Deep

end Go.Proofs.YtleckhbmciiooaaDoor
namespace Go.Proofs.YtleckhbmciiooaaDoor
open Go.RowKit Go.ChangeShapes Go.WideShapes Go.ChangeAt Go.Deep

section
variable {ops : Array Oper} {i : Nat} {t : TypeId} {d : Option Tmp} {a : Act} {w : World} {K : Act → World → Prop} {Q : Exit → Act → World → Prop}
end
theorem RdI.mod {S : Nat → Prop} {w w' : World} {A : Option Addr} {xs : List Int} (h : RdI w A xs) (k : Mod S w w') (hb : ∀ b, bl A = some b → ¬ S b) : RdI w' A xs := by
  rcases h with rfl | ⟨b, off, rfl, hlt, hc⟩
  · exact .inl rfl
  · refine .inr ⟨b, off, rfl, Nat.lt_of_lt_of_le hlt k.size, fun j x hj => ?_⟩
    rw [← hc j x hj]
    exact World.cell?_of_block (k.block b hlt (hb b rfl))
end Go.Proofs.YtleckhbmciiooaaDoor
namespace Go.Proofs.YtleckhbmciiooaaDoor
open Go.RowKit Go.ChangeShapes Go.WideShapes Go.ChangeAt Go.Deep

section
variable {w w2 : World} {base g pn pc wc vc hc c' : Nat} {cap x : Int} {PA WA VA HA A' : Option Addr} {ws vs bs : List Int}
end
end Go.Proofs.YtleckhbmciiooaaDoor
namespace Go.Proofs.YtleckhbmciiooaaDoor
open Go.RowKit Go.ChangeShapes Go.WideShapes Go.ChangeAt Go.Deep

end Go.Proofs.YtleckhbmciiooaaDoor
namespace Go.Proofs.YtleckhbmciiooaaDoor
open Go.RowKit Go.ChangeShapes Go.WideShapes Go.ChangeAt Go.Deep Go.Shelf
attribute [local go_sem] Oper.semAt_some

end Go.Proofs.YtleckhbmciiooaaDoor
namespace Go.Proofs.YtleckhbmciiooaaDoor
open Go.RowKit Go.ChangeShapes Go.WideShapes Go.ChangeAt Go.Deep Go.Shelf
attribute [local go_sem] Oper.semAt_some

end Go.Proofs.YtleckhbmciiooaaDoor
namespace Go.Proofs.YtleckhbmciiooaaDoor
open Go

section
variable {F : Fence} {n : Nat} {P : Program} {ops : Array Oper} {md : Region.Mode} {C : World → Prop}
end
end Go.Proofs.YtleckhbmciiooaaDoor
namespace Go.Proofs.YtleckhbmciiooaaDoor
open Go.RowKit Go.ChangeShapes Go.WideShapes Go.ChangeAt Go.Deep Go.Shelf
attribute [local go_sem] Oper.semAt_some

end Go.Proofs.YtleckhbmciiooaaDoor
namespace Go.Proofs.YtleckhbmciiooaaDoor
open Go.RowKit Go.ChangeShapes Go.WideShapes Go.ChangeAt Go.Deep Go.Shelf

theorem RowsO.drop {w : World} {base : Nat} {us : List Value} {rows : List (List Int)} (h : RowsO w base us rows) (k : Nat) : RowsO w base (us.drop k) (rows.drop k) := by
  refine ⟨by rw [List.length_drop, List.length_drop, h.1], fun i r hr => ?_⟩
  rw [List.getElem?_drop] at hr
  obtain ⟨A, c, h1, h2⟩ := h.2 (k + i) r hr
  exact ⟨A, c, by rw [List.getElem?_drop]; exact h1, h2⟩
end Go.Proofs.YtleckhbmciiooaaDoor
namespace Go.Proofs.YtleckhbmciiooaaDoor
open Go.RowKit Go.ChangeShapes Go.WideShapes Go.ChangeAt Go.Deep

end Go.Proofs.YtleckhbmciiooaaDoor
namespace Go.Proofs.YtleckhbmciiooaaDoor
open Go.RowKit Go.ChangeShapes Go.WideShapes Go.ChangeAt Go.Deep

theorem Mod.heap {g : Nat} {w w' : World} (h : Mod (fun k => k = g) w w') {a : World} (x : Ext a w) (hg : a.heap.size ≤ g) : Ext a w' := x.mod h fun k hk e => by omega
end Go.Proofs.YtleckhbmciiooaaDoor
namespace Go.Proofs.YtleckhbmciiooaaDoor
open Go.RowKit Go.ChangeShapes Go.WideShapes Go.ChangeAt Go.Deep

end Go.Proofs.YtleckhbmciiooaaDoor
namespace Go.Proofs.YtleckhbmciiooaaDoor
open Go.RowKit

/-- is an operation's word to be kept over another one's run? not where it is spent (the one alone that wants it has run), nor where it comes behind that one -/
def keepsV (ops : Array Oper) (rem : List (Nat × Option Tmp)) (kill : Nat → List Nat) (i j : Nat) : Bool :=
  decide (i ≠ j) && !(kill j).contains i && (kill j).all (fun k => !reachN ops (rem.map (·.1)) (rem.length + 1) i k) && !reachN ops (rem.map (·.1)) (rem.length + 1) j i
/-- who wants it spends it, or it is not spent -/
def killOk (ops : Array Oper) (rem : List (Nat × Option Tmp)) (kill : Nat → List Nat) : Bool :=
  rem.all fun p => (depsOf ops rem p.1).all fun j => (kill j).all fun k => k == p.1
section
variable {P : Program} {ops : Array Oper} {Q : Exit → Act → World → Prop}
/-- wpAny_core2, with words that are spent -/
theorem wpAny_core3 (rem : List (Nat × Option Tmp)) (kill : Nat → List Nat) (R : World → Prop) (V : Nat → Value → World → Prop) (Stab : Nat → World → World → Prop) {listed0 : Array Bool} (listed1 : Array Bool) (hok : coreOk2 ops listed0 listed1 rem = true) (hkill : killOk ops rem kill = true)
    (stab : ∀ i j v w w', keepsV ops rem kill i j = true → V j v w → Stab i w w' → V j v w')
    {a0 : Act}
    (step : ∀ p ∈ rem, ∀ u w, R w → (∀ j ∈ depsOf ops rem p.1, V j (u j) w) → ∀ K : Act → World → Prop, (∀ v w', V p.1 v w' → R w' → Stab p.1 w w' → K ((putAll a0 rem u).put p.2 v) w') → wpOp P ops Q p.1 K (putAll a0 rem u) w)
    (n : Nat) (done : ∀ u w, R w → (∀ p ∈ rem, kill p.1 = [] → V p.1 (u p.1) w) → wpAny P .any ops Q n listed1 (putAll a0 rem u) w) {w0 : World} (hR : R w0) :
    wpAny P .any ops Q (rem.length + n) listed0 a0 w0 := by
  simp only [coreOk2, Bool.and_eq_true, decide_eq_true_eq] at hok
  obtain ⟨⟨⟨⟨⟨hn, hdn⟩, hsz⟩, hsz1⟩, hall⟩, hcomp⟩ := hok
  have hall := List.all_eq_true.1 hall
  have hcomp := List.all_eq_true.1 hcomp
  have hmem : ∀ i ∈ rem.map (·.1), listed0.getD i true = false ∧ i < ops.size := by
    intro i hi
    obtain ⟨p, hp, rfl⟩ := List.mem_map.1 hi
    have h1 := hall p hp
    have hlt : p.1 < ops.size := by
      rcases Nat.lt_or_ge p.1 ops.size with h | h
      · exact h
      · rw [Array.getElem?_eq_none h] at h1; simp at h1
    have := hcomp p.1 (List.mem_range.2 hlt)
    have hc : (rem.map (·.1)).contains p.1 = true := by simpa using hi
    rw [hc] at this
    simp only [if_true, Bool.and_eq_true, Bool.not_eq_true'] at this
    exact ⟨this.1, hlt⟩
  have hone : ∀ i ∈ rem.map (·.1), listed1.getD i true = true := by
    intro i hi
    have := hcomp i (List.mem_range.2 (hmem i hi).2)
    have hc : (rem.map (·.1)).contains i = true := by simpa using hi
    rw [hc] at this
    simp only [if_true, Bool.and_eq_true] at this
    exact this.2
  have hrest : ∀ i, i < ops.size → i ∉ rem.map (·.1) → listed1.getD i true = listed0.getD i true ∧ ((listed0.getD i true = true ∨ ∀ p ∈ rem, reachN ops (rem.map (·.1)) (rem.length + 1) i p.1 = true) ∨ ∃ o, ops[i]? = some o ∧ ∃ e ∈ o.after.toList, Region.binds .any e = true ∧ e.on < ops.size ∧ listed0.getD e.on true = false ∧ e.on ∉ rem.map (·.1)) := by
    intro i hi hni
    have := hcomp i (List.mem_range.2 hi)
    have hc : (rem.map (·.1)).contains i = false := by
      cases h : (rem.map (·.1)).contains i with
      | false => rfl
      | true => exact absurd (by simpa using h) hni
    rw [hc] at this
    simp only [Bool.false_eq_true, if_false, Bool.and_eq_true, beq_iff_eq, Bool.or_eq_true] at this
    refine ⟨this.1, ?_⟩
    rcases this.2 with (h | h) | h
    · exact .inl (.inl h)
    · exact .inl (.inr fun p hp => List.all_eq_true.1 h p hp)
    · right
      rw [Array.getElem?_eq_getElem hi] at h
      refine ⟨ops[i], Array.getElem?_eq_getElem hi, ?_⟩
      simp only [Array.any_toList.symm, List.any_eq_true, Bool.and_eq_true, decide_eq_true_eq, Bool.not_eq_true'] at h
      obtain ⟨e, he, ⟨⟨h1, h2⟩, h3⟩, h4⟩ := h
      exact ⟨e, he, h1, h2, h3, by simpa using h4⟩
  -- the invariant
  suffices H : ∀ k (listed : Array Bool) (u : Nat → Value) (w : World), listed.size = ops.size → R w → (∀ i, i < ops.size → i ∉ rem.map (·.1) → listed.getD i true = listed0.getD i true) →
      (∀ p ∈ rem, listed.getD p.1 true = true → (∀ k ∈ kill p.1, listed.getD k true = false) → V p.1 (u p.1) w) → (∀ p ∈ rem.map (·.1), listed.getD p true = true → ∀ o, ops[p]? = some o → ∀ e ∈ o.after.toList, Region.binds .any e = true → listed.getD e.on true = true) → openOf listed rem = k → wpAny P .any ops Q (k + n) listed (putAll a0 rem u) w by
    obtain ⟨u, hu⟩ := putAll_self a0 rem hn
    have hopen : openOf listed0 rem = rem.length := by
      unfold openOf
      rw [List.filter_eq_self.2]
      intro p hp
      simp [(hmem p.1 (List.mem_map.2 ⟨p, hp, rfl⟩)).1]
    have h := H rem.length listed0 u w0 hsz hR (fun i hi hni => rfl) (fun p hp hl _ => by
      have := (hmem p.1 (List.mem_map.2 ⟨p, hp, rfl⟩)).1
      rw [this] at hl
      cases hl) (fun p hp hl => by
      rw [(hmem p hp).1] at hl
      cases hl) hopen
    rwa [hu] at h
  intro k
  induction k with
  | zero =>
    intro listed u w hs hRw hout hV hcl hopen
    have hall' : ∀ p ∈ rem, listed.getD p.1 true = true := by
      intro p hp
      simp only [openOf, List.length_eq_zero_iff, List.filter_eq_nil_iff, Bool.not_eq_true', Bool.not_eq_false] at hopen
      exact hopen p hp
    have hl : listed = listed1 := by
      apply Array.ext
      · rw [hs, hsz1]
      · intro i h1 h2
        have : listed.getD i true = listed1.getD i true := by
          by_cases hr : i ∈ rem.map (·.1)
          · rw [hone i hr]
            obtain ⟨p, hp, rfl⟩ := List.mem_map.1 hr
            exact hall' p hp
          · rw [hout i (by omega) hr, (hrest i (by omega) hr).1]
        simpa [Array.getD, h1, h2] using this
    rw [hl, Nat.zero_add]
    exact done u w hRw (fun p hp hk => hV p hp (hall' p hp) (fun k h => by rw [hk] at h; cases h))
  | succ k ih =>
    intro listed u w hs hRw hout hV hcl hopen
    rw [Nat.add_right_comm]
    -- one of the list is not yet listed: none of the others is ready
    have hsome : ∃ p ∈ rem, listed.getD p.1 true = false := by
      have : (rem.filter fun p => !listed.getD p.1 true) ≠ [] := by
        intro h
        simp only [openOf, h, List.length_nil] at hopen
        omega
      obtain ⟨p, hp⟩ := List.exists_mem_of_ne_nil _ this
      obtain ⟨h1, h2⟩ := List.mem_filter.1 hp
      exact ⟨p, h1, by simpa using h2⟩
    have hno : ∀ i, i ∈ Region.ready .any ops listed → i ∈ rem.map (·.1) := by
      intro i hi
      obtain ⟨hi1, hi2⟩ := List.mem_filter.1 hi
      have hilt := List.mem_range.1 hi1
      simp only [Bool.and_eq_true] at hi2
      have hil : listed.getD i true = false := by simpa using hi2.1
      by_cases hr : i ∈ rem.map (·.1)
      · exact hr
      · exfalso
        obtain ⟨h1, h2⟩ := hrest i hilt hr
        rw [hout i hilt hr] at hil
        rcases h2 with (h2 | h2) | h2
        · rw [h2] at hil; cases hil
        rotate_left
        · obtain ⟨o, ho, e, he, hb, hsz2, hl0, hnr⟩ := h2
          have h3 := hi2.2
          rw [ho] at h3
          simp only [Option.map_some, Option.getD_some, Array.all_eq_true_iff_forall_mem] at h3
          have := h3 e (by simpa using he)
          rw [hb] at this
          simp only [Bool.not_true, Bool.false_or] at this
          have hlt : e.on < listed.size := by rw [hs]; exact hsz2
          have e1 : listed.getD e.on false = listed.getD e.on true := by simp only [Array.getD, hlt, dif_pos]
          rw [e1, hout e.on hsz2 hnr, hl0] at this
          cases this
        · obtain ⟨p, hp, hpl⟩ := hsome
          have := reach_listed hcl _ i (ready_deps hi2.2) p.1 (h2 p hp)
          rw [hpl] at this
          cases this
    constructor
    · intro hnil
      -- the least one that is not listed is ready
      exfalso
      have key : ∀ i, i < ops.size → i ∈ rem.map (·.1) → listed.getD i true = true := by
        intro i
        induction i using Nat.strongRecOn with
        | _ i ihi =>
          intro hi hr
          obtain ⟨p, hp, rfl⟩ := List.mem_map.1 hr
          have h1 := hall p hp
          cases hl : listed.getD p.1 true with
          | true => rfl
          | false =>
            exfalso
            have hready : p.1 ∈ Region.ready .any ops listed := by
              refine List.mem_filter.2 ⟨List.mem_range.2 hi, ?_⟩
              rw [Array.getElem?_eq_getElem hi] at h1 ⊢
              simp only [Bool.and_eq_true, beq_iff_eq] at h1
              simp only [hl, Bool.not_false, Option.map_some, Option.getD_some, Bool.true_and]
              rw [Array.all_eq_true_iff_forall_mem] at h1 ⊢
              intro e he
              have := h1.2 e he
              cases hb : Region.binds .any e with
              | false => rfl
              | true =>
                rw [hb] at this
                simp only [Bool.not_true, Bool.false_or, Bool.and_eq_true, decide_eq_true_eq, Bool.or_eq_true] at this
                have hlt : e.on < listed.size := by rw [hs]; omega
                have hh : listed.getD e.on true = true := by
                  rcases this.2 with h | h
                  · exact ihi e.on this.1 (by omega) (by simpa using h)
                  · by_cases hr' : e.on ∈ rem.map (·.1)
                    · exact ihi e.on this.1 (by omega) hr'
                    · rw [hout e.on (by omega) hr']; exact h
                simp only [Array.getD, hlt, dif_pos] at hh ⊢
                simpa using hh
            rw [hnil] at hready
            cases hready
      obtain ⟨p, hp, hpl⟩ := hsome
      have := key p.1 (hmem p.1 (List.mem_map.2 ⟨p, hp, rfl⟩)).2 (List.mem_map.2 ⟨p, hp, rfl⟩)
      rw [this] at hpl
      cases hpl
    · intro i hi
      have hir := hno i hi
      obtain ⟨hi1, hi2⟩ := List.mem_filter.1 hi
      have hilt := List.mem_range.1 hi1
      simp only [Bool.and_eq_true] at hi2
      have hil : listed.getD i true = false := by simpa using hi2.1
      obtain ⟨p, hp, rfl⟩ := List.mem_map.1 hir
      refine step p hp u w hRw ?_ _ ?_
      · intro j hj
        rw [depsOf, Array.getElem?_eq_getElem hilt] at hj
        obtain ⟨e, he, rfl⟩ := List.mem_map.1 hj
        obtain ⟨he1, he2⟩ := List.mem_filter.1 he
        simp only [Bool.and_eq_true] at he2
        have hjr : e.on ∈ rem.map (·.1) := by simpa using he2.2
        obtain ⟨q, hq, hqe⟩ := List.mem_map.1 hjr
        have hjd : e.on ∈ depsOf ops rem p.1 := by
          rw [depsOf, Array.getElem?_eq_getElem hilt]
          exact List.mem_map.2 ⟨e, he, rfl⟩
        have hkj : ∀ k ∈ kill q.1, listed.getD k true = false := by
          intro k hk
          rw [hqe] at hk
          have h9 := List.all_eq_true.1 (List.all_eq_true.1 (List.all_eq_true.1 hkill p hp) e.on hjd) k hk
          obtain rfl : k = p.1 := by simpa using h9
          exact hil
        rw [← hqe]
        refine hV q hq ?_ hkj
        have h3 := hi2.2
        rw [Array.getElem?_eq_getElem hilt] at h3
        simp only [Option.map_some, Option.getD_some, Array.all_eq_true_iff_forall_mem] at h3
        have := h3 e (by simpa using he1)
        rw [he2.1] at this
        simp only [Bool.not_true, Bool.false_or] at this
        rw [hqe]
        have hlt : e.on < listed.size := by rw [hs, ← hqe]; exact (hmem q.1 (List.mem_map.2 ⟨q, hq, rfl⟩)).2
        simp only [Array.getD, hlt, dif_pos] at this ⊢
        simpa using this
      · intro v w' hv hR' hst
        have hpp : (p.1, p.2) ∈ rem := hp
        rw [putAll_upd a0 p.1 p.2 u v rem hn hdn hpp]
        have hset : ∀ j, (listed.setIfInBounds p.1 true).getD j true = if j = p.1 then true else listed.getD j true := by
          intro j
          simp only [Array.getD_eq_getD_getElem?, Array.getElem?_setIfInBounds]
          by_cases hj : p.1 = j
          · subst hj
            simp
            split <;> simp
          · rw [if_neg hj, if_neg (Ne.symm hj)]
        refine ih _ _ _ (by simpa using hs) hR' ?_ ?_ ?_ ?_
        · intro j hj hjr
          have hjp : ¬ j = p.1 := fun e => hjr (by rw [e]; exact List.mem_map.2 ⟨p, hp, rfl⟩)
          rw [hset, if_neg hjp]
          exact hout j hj hjr
        · intro q hq hql hkq
          rw [hset] at hql
          by_cases he : q.1 = p.1
          · rw [he]
            simpa [upd] using hv
          · rw [if_neg he] at hql
            simp only [upd, if_neg he]
            have hk1 : ∀ k ∈ kill q.1, k ≠ p.1 ∧ listed.getD k true = false := by
              intro k hk
              have h9 := hkq k hk
              rw [hset] at h9
              by_cases hkp : k = p.1
              · rw [if_pos hkp] at h9; cases h9
              · rw [if_neg hkp] at h9; exact ⟨hkp, h9⟩
            refine stab p.1 q.1 _ _ _ ?_ (hV q hq hql fun k hk => (hk1 k hk).2) hst
            unfold keepsV
            simp only [Bool.and_eq_true, decide_eq_true_eq, Bool.not_eq_true']
            refine ⟨⟨⟨Ne.symm he, ?_⟩, List.all_eq_true.2 fun k hk => ?_⟩, ?_⟩
            · cases hc : (kill q.1).contains p.1 with
              | false => rfl
              | true => exact absurd rfl (hk1 p.1 (by simpa using hc)).1
            · cases hc : reachN ops (rem.map (·.1)) (rem.length + 1) p.1 k with
              | false => rfl
              | true =>
                have h5 := reach_listed hcl _ p.1 (ready_deps hi2.2) k hc
                rw [(hk1 k hk).2] at h5
                cases h5
            · cases hc : reachN ops (rem.map (·.1)) (rem.length + 1) q.1 p.1 with
              | false => rfl
              | true =>
                have h5 := reach_listed hcl _ q.1 (hcl q.1 (List.mem_map.2 ⟨q, hq, rfl⟩) hql) p.1 hc
                rw [hil] at h5
                cases h5
        · intro q hq hql o ho e he hb
          rw [hset]
          split
          · rfl
          · rw [hset] at hql
            by_cases hqp : q = p.1
            · subst hqp
              exact ready_deps hi2.2 o ho e he hb
            · rw [if_neg hqp] at hql
              exact hcl q hq hql o ho e he hb
        · have hlt : openOf (listed.setIfInBounds p.1 true) rem + 1 = openOf listed rem := by
            unfold openOf
            have h1 : ∀ (qs : List (Nat × Option Tmp)), (qs.map (·.1)).Nodup → p ∈ qs → (qs.filter fun q => !(listed.setIfInBounds p.1 true).getD q.1 true).length + 1 = (qs.filter fun q => !listed.getD q.1 true).length := by
              intro qs hqn hpq
              have heq : ∀ (rs : List (Nat × Option Tmp)), p.1 ∉ rs.map (·.1) → (rs.filter fun q => !(listed.setIfInBounds p.1 true).getD q.1 true) = (rs.filter fun q => !listed.getD q.1 true) := by
                intro rs hrs
                refine List.filter_congr fun q hq => ?_
                have hne : q.1 ≠ p.1 := fun e => hrs (e ▸ List.mem_map.2 ⟨q, hq, rfl⟩)
                rw [hset, if_neg hne]
              induction qs with
              | nil => cases hpq
              | cons r rs ihr =>
                rcases List.mem_cons.1 hpq with rfl | hpq'
                · have := heq rs (List.nodup_cons.1 hqn).1
                  rw [List.filter_cons, List.filter_cons, this, hset, if_pos rfl, hil]
                  simp
                · have ih2 := ihr (List.nodup_cons.1 hqn).2 hpq'
                  have hne : r.1 ≠ p.1 := by
                    intro e
                    exact (List.nodup_cons.1 hqn).1 (List.mem_map.2 ⟨p, hpq', e.symm⟩)
                  rw [List.filter_cons, List.filter_cons, hset, if_neg hne]
                  split <;> (try simp only [List.length_cons]) <;> omega
            exact h1 rem hn hp
          omega
end
theorem VF.stab1 {f : Nat → Option Value} {g : Nat → Value → World → Prop} {j : Nat} {v : Value} {w w' : World} (h : f j = none → g j v w → g j v w') (hv : VF f g j v w) : VF f g j v w' := by
  unfold VF at hv ⊢
  cases hf : f j with
  | none => rw [hf] at hv; exact h hf hv
  | some c => rw [hf] at hv; exact hv
end Go.Proofs.YtleckhbmciiooaaDoor
namespace Go.Proofs.YtleckhbmciiooaaDoor
open Go.RowKit Go.ChangeShapes Go.WideShapes Go.ChangeAt Go.Deep

set_option maxRecDepth 100000 in
theorem ibs1_run (u : World) (x : Int) : (Instr.buildSlice 22 1 #[(0, .int .i64 x)]).run Tryd.prog u = .ok (.slice (some ⟨u.heap.size, 0, none⟩) 1 1) (u.alloc (.cells #[.int .i64 x] 3)) := by go_simp
end Go.Proofs.YtleckhbmciiooaaDoor
namespace Go.Proofs.YtleckhbmciiooaaDoor
open Go.RowKit Go.ChangeShapes Go.WideShapes Go.ChangeAt Go.Deep

theorem check_kind {i : InstP} (h : checkP i = 0) : i.kind = 1 ∨ i.kind = 2 ∨ i.kind = 3 := by
  unfold checkP at h
  by_cases hs : sizeP i.kind i.n = 0
  · exact sizeP_kind hs
  · rw [if_neg hs] at h
    exact absurd h hs
theorem rtakes_kind {i : InstP} : rtakesP i 0 = if i.kind = 2 then takesP i 2 else if i.kind = 3 then takesP i 3 else if checkP i ≠ 0 then checkP i else takesP i 1 := by
  unfold rtakesP takesP
  by_cases hc : checkP i = 0
  · rcases check_kind hc with h | h | h <;> simp [hc, h]
  · by_cases h2 : i.kind = 2
    · simp [hc, h2]
    · by_cases h3 : i.kind = 3 <;> simp [hc, h2, h3]
set_option maxRecDepth 100000 in
set_option maxHeartbeats 1000000 in
theorem best_ex (i : InstP) (us : List Value) (w : World) (H : RInst w us i) (lw : i.weight.length ≤ 1000000000) (lv : i.value.length ≤ 1000000000) (hT : Tab w) :
    Calls Tryd.prog 12 #[.agg (List.toArray us)] w (ExPost i (rtakesP i 0) w) := by
  have CH := fun (W : World) (x : Ext w W) => check_any i us W (H.ext x) lw lv
  have KX := fun (W : World) (x : Ext w W) => knap_ex i us W (H.ext x) lw lv (hT.ext x)
  have AX := fun (W : World) (x : Ext w W) => asg_ex i us W (H.ext x) lw lv
  have TX := fun (W : World) (x : Ext w W) => tour_ex i us W (H.ext x) lw lv
  have RK := rtakes_kind (i := i)
  have PK : ∀ (t : Int) (W W' : World) (e : Ending), Ext w W → ExPost i t W e W' → ∃ A n c v r, e = .returned (.tuple #[.slice A n c, .int .i64 v, .int .i64 r]) ∧ (∀ W2, Ext W' W2 → ExPost i t w e W2) := by
    rintro t W W' e X (⟨h, rfl, x⟩ | ⟨h, A, xs, c, v, rfl, h1, h2, h3, h4, x⟩)
    · exact ⟨none, 0, 0, 0, t, rfl, fun W2 y => .inl ⟨h, rfl, (X.tr x).tr y⟩⟩
    · exact ⟨A, xs.length, c, v, 0, rfl, fun W2 y => .inr ⟨h, A, xs, c, v, rfl, h1.ext y, h2, h3, h4, (X.tr x).tr y⟩⟩
  generalize rtakesP i 0 = t0 at *
  obtain ⟨t1, ht1⟩ : ∃ t1, Hid (takesP i 1 = t1) := ⟨_, rfl⟩
  obtain ⟨t2, ht2⟩ : ∃ t2, Hid (takesP i 2 = t2) := ⟨_, rfl⟩
  obtain ⟨t3, ht3⟩ : ∃ t3, Hid (takesP i 3 = t3) := ⟨_, rfl⟩
  obtain ⟨cc, hcc⟩ : ∃ cc, Hid (checkP i = cc) := ⟨_, rfl⟩
  rw [ht1.out] at KX
  rw [ht2.out] at AX
  rw [ht3.out] at TX
  rw [hcc.out] at CH
  rw [ht1.out, ht2.out, ht3.out, hcc.out] at RK
  obtain ⟨P, hP⟩ : ∃ P : Int → World → Ending → World → Prop, P = ExPost i := ⟨_, rfl⟩
  rw [← hP] at KX AX TX PK ⊢
  have BAD : Hid (∀ t W, t ≠ 0 → Ext w W → P t w (.returned (.tuple #[.slice none 0 0, .int .i64 0, .int .i64 t])) W) := fun t W h x => by rw [hP]; exact .inl ⟨h, rfl, x⟩
  clear ht1 ht2 ht3 hcc hP lw lv hT
  obtain ⟨kind, nn, cap, xw, xv, co⟩ := i
  obtain ⟨A, a, B, b, D, d, rfl, -, -, -⟩ := H
  simp only at *
  have B1 : Hid (Blk (w.alloc (.cells #[.int .i64 kind, .int .i64 nn, .int .i64 cap, .slice A xw.length a, .slice B xv.length b, .slice D co.length d] 25)) w.heap.size 25 #[.int .i64 kind, .int .i64 nn, .int .i64 cap, .slice A xw.length a, .slice B xv.length b, .slice D co.length d]) := .new rfl
  replace CH := Lib.hid CH
  replace KX := Lib.hid KX
  replace AX := Lib.hid AX
  replace TX := Lib.hid TX
  replace PK := Lib.hid PK
  go_enter Tryd.func12, Tryd.ntmps12
  by_cases h2 : kind = 2
  · rw [if_pos h2] at RK
    subst RK
    have e2 : (kind == 2) = true := by simpa using h2
    clear h2
    go_wp2_with (fail)
    refine (AX.out _ (by (repeat (first | assumption | exact Ext.rf _ | apply Ext.drew | apply Ext.drewN | apply Ext.alloc)))).mono ?_
    intro e w1 hp
    obtain ⟨A9, n9, c9, v9, r9, rfl, hq⟩ := PK.out _ _ _ _ (by (repeat (first | assumption | exact Ext.rf _ | apply Ext.drew | apply Ext.drewN | apply Ext.alloc))) hp
    replace hq := Lib.hid hq
    clear hp
    go_wp2_with (fail)
    go_ret3
    exact hq.out _ (by (repeat (first | assumption | exact Ext.rf _ | apply Ext.drew | apply Ext.drewN | apply Ext.alloc)))
  · rw [if_neg h2] at RK
    have e2 : (kind == 2) = false := by simpa using h2
    clear h2
    by_cases h3 : kind = 3
    · rw [if_pos h3] at RK
      subst RK
      have e3 : (kind == 3) = true := by simpa using h3
      clear h3
      go_wp2_with (fail)
      refine (TX.out _ (by (repeat (first | assumption | exact Ext.rf _ | apply Ext.drew | apply Ext.drewN | apply Ext.alloc)))).mono ?_
      intro e w1 hp
      obtain ⟨A9, n9, c9, v9, r9, rfl, hq⟩ := PK.out _ _ _ _ (by (repeat (first | assumption | exact Ext.rf _ | apply Ext.drew | apply Ext.drewN | apply Ext.alloc))) hp
      replace hq := Lib.hid hq
      clear hp
      go_wp2_with (fail)
      go_ret3
      exact hq.out _ (by (repeat (first | assumption | exact Ext.rf _ | apply Ext.drew | apply Ext.drewN | apply Ext.alloc)))
    · rw [if_neg h3] at RK
      have e3 : (kind == 3) = false := by simpa using h3
      clear h3
      replace RK := Lib.hid RK
      go_wp2_with (fail)
      refine (CH.out _ (by (repeat (first | assumption | exact Ext.rf _ | apply Ext.drew | apply Ext.drewN | apply Ext.alloc)))).mono ?_
      rintro e w1 ⟨rfl, x1⟩
      replace RK := RK.out
      have X1 := Lib.hid (Ext.tr (a := w) (by (repeat (first | assumption | exact Ext.rf _ | apply Ext.drew | apply Ext.drewN | apply Ext.alloc))) x1)
      have b1 := Lib.hid (B1.out.ext x1)
      by_cases hc : cc = 0
      · rw [if_neg (by simpa using hc)] at RK
        subst RK hc
        have y0 : w1.cell? ⟨w.heap.size, 0, none⟩ = some (.int .i64 kind) := b1.out.cell 0
        have y1 : w1.cell? ⟨w.heap.size, 1, none⟩ = some (.int .i64 nn) := b1.out.cell 1
        have y2 : w1.cell? ⟨w.heap.size, 2, none⟩ = some (.int .i64 cap) := b1.out.cell 2
        have y3 : w1.cell? ⟨w.heap.size, 3, none⟩ = some (.slice A xw.length a) := b1.out.cell 3
        have y4 : w1.cell? ⟨w.heap.size, 4, none⟩ = some (.slice B xv.length b) := b1.out.cell 4
        have y5 : w1.cell? ⟨w.heap.size, 5, none⟩ = some (.slice D co.length d) := b1.out.cell 5
        clear x1 B1
        go_wp2_with (fail)
        refine (KX.out _ (X1.out.tr (by (repeat (first | assumption | exact Ext.rf _ | apply Ext.drew | apply Ext.drewN | apply Ext.alloc))))).mono ?_
        intro e w2 hp
        obtain ⟨A9, n9, c9, v9, r9, rfl, hq⟩ := PK.out _ _ _ _ (X1.out.tr (by (repeat (first | assumption | exact Ext.rf _ | apply Ext.drew | apply Ext.drewN | apply Ext.alloc)))) hp
        replace hq := Lib.hid hq
        clear hp y0 y1 y2 y3 y4 y5
        go_wp2_with (fail)
        go_ret3
        exact hq.out _ (by (repeat (first | assumption | exact Ext.rf _ | apply Ext.drew | apply Ext.drewN | apply Ext.alloc)))
      · rw [if_pos hc] at RK
        subst RK
        have e4 : (t0 != 0) = true := by simpa using hc
        clear x1 B1
        replace hc := Lib.hid hc
        go_wp2_with (fail)
        go_ret3
        exact BAD.out _ _ hc.out (X1.out.tr (by (repeat (first | assumption | exact Ext.rf _ | apply Ext.drew | apply Ext.drewN | apply Ext.alloc))))
end Go.Proofs.YtleckhbmciiooaaDoor
namespace Go.Proofs.YtleckhbmciiooaaDoor
open Go.RowKit Go.ChangeShapes Go.WideShapes Go.ChangeAt Go.Deep

set_option maxRecDepth 100000 in
theorem aaddf_any (a b : Int) (ha : 0 ≤ a) (ha' : a ≤ 2147483647) (hb : 0 ≤ b) (hb' : b ≤ 2147483647) (w : World) : Calls Tryd.prog 37 #[.int .i64 a, .int .i64 b] w fun e w' => e = .returned (.tuple #[.int .i64 (a + b), .bool true]) ∧ Ext w w' := by
  have wr : ∀ z : Int, 0 ≤ z → z ≤ 4294967294 → IntKind.u64.wrap z = z := fun z h1 h2 => by
    simp only [IntKind.wrap, IntKind.signed, IntKind.bits]
    simp
    omega
  have u1 := wr a ha (by omega)
  have u2 := wr b hb (by omega)
  have u3 := wr (a + b) (by omega) (by omega)
  have u4 : IntKind.i64.wrap (a + b) = a + b := IntWalk.i64_in _ (by omega)
  have e1 : ¬ a < 0 := by omega
  have e2 : ¬ b < 0 := by omega
  have e3 : ¬ a + b < 0 := by omega
  clear wr
  go_enter Tryd.func37, Tryd.ntmps37
  go_wp2
  go_ret2
  exact ⟨rfl, by (repeat (first | assumption | exact Ext.rf _ | apply Ext.drew | apply Ext.drewN | apply Ext.alloc))⟩
set_option maxRecDepth 100000 in
set_option maxHeartbeats 1000000 in
theorem stands_any (w : World) : Calls Tryd.prog 9 #[] w fun e w' => e = .returned (.bool true) ∧ Ext w w' := by
  go_enter Tryd.func9, Tryd.ntmps9
  go_wp2_with (fail)
  refine (aaddf_any 2 3 (by omega) (by omega) (by omega) (by omega) _).mono ?_
  rintro e w1 ⟨rfl, x1⟩
  go_wp2_with (fail)
  go_ret
  exact ⟨rfl, Ext.tr (a := w) (by (repeat (first | assumption | exact Ext.rf _ | apply Ext.drew | apply Ext.drewN | apply Ext.alloc))) x1⟩
/-- few items -/
def fewP (i : InstP) : Bool := decide (checkP i = 0) && decide (i.n ≤ if i.kind = 1 then 8 else 5)
theorem few_takes {i : InstP} (h : fewP i = true) : checkP i = 0 ∧ rtakesP i 0 = 0 ∧ i.n ≤ 8 := by
  unfold fewP at h
  simp only [Bool.and_eq_true, decide_eq_true_eq] at h
  obtain ⟨h1, h2⟩ := h
  have h8 : i.n ≤ 8 := by split at h2 <;> omega
  refine ⟨h1, ?_, h8⟩
  unfold rtakesP
  rw [if_neg (by simpa using h1), if_neg (by simp), if_neg]
  rintro (⟨h3, h4⟩ | ⟨h3, h4⟩) <;> omega
set_option maxRecDepth 100000 in
set_option maxHeartbeats 1000000 in
theorem few_any (i : InstP) (us : List Value) (w : World) (H : RInst w us i) (lw : i.weight.length ≤ maxLen) (lv : i.value.length ≤ maxLen) (lwv : i.weight.length + i.value.length ≤ maxLen) :
    Calls Tryd.prog 10 #[.agg (List.toArray us)] w fun e w' => e = .returned (.bool (fewP i)) ∧ Ext w w' := by
  have CH := fun (W : World) (x : Ext w W) => check_gen i us W (H.ext x) lw lv lwv
  obtain ⟨c, hcc⟩ : ∃ c, Hid (checkP i = c) := ⟨_, rfl⟩
  have TP : Hid (∀ b, (decide (c = 0) && decide (i.n ≤ if i.kind = 1 then 8 else 5)) = b → fewP i = b) := fun b h => by
    unfold fewP
    rw [hcc.out]
    exact h
  generalize fewP i = tp at *
  rw [hcc.out] at CH
  obtain ⟨kind, nn, cap, xw, xv, co⟩ := i
  obtain ⟨A, a, B, b, D, d, rfl, -, -, -⟩ := H
  simp only at *
  have B1 : Hid (Blk (w.alloc (.cells #[.int .i64 kind, .int .i64 nn, .int .i64 cap, .slice A xw.length a, .slice B xv.length b, .slice D co.length d] 25)) w.heap.size 25 #[.int .i64 kind, .int .i64 nn, .int .i64 cap, .slice A xw.length a, .slice B xv.length b, .slice D co.length d]) := .new rfl
  replace CH := Lib.hid CH
  clear hcc lw lv lwv
  go_enter Tryd.func10, Tryd.ntmps10
  go_wp2_with (fail)
  refine (CH.out _ (by (repeat (first | assumption | exact Ext.rf _ | apply Ext.drew | apply Ext.drewN | apply Ext.alloc)))).mono ?_
  rintro e w1 ⟨rfl, x1⟩
  have X1 := Lib.hid (Ext.tr (a := w) (by (repeat (first | assumption | exact Ext.rf _ | apply Ext.drew | apply Ext.drewN | apply Ext.alloc))) x1)
  have b1 := Lib.hid (B1.out.ext x1)
  have t0 : w1.cell? ⟨w.heap.size, 0, none⟩ = some (.int .i64 kind) := b1.out.cell 0
  have t1 : w1.cell? ⟨w.heap.size, 1, none⟩ = some (.int .i64 nn) := b1.out.cell 1
  clear x1 B1
  by_cases hc : c = 0
  · subst hc
    by_cases k1 : kind = 1
    · subst k1
      by_cases h8 : nn ≤ 8
      · have T5 := TP.out true (by simp [h8])
        clear TP
        go_wp2_with (fail)
        go_ret
        exact ⟨by rw [T5]; first | rfl | simp [*], X1.out.tr (by (repeat (first | assumption | exact Ext.rf _ | apply Ext.drew | apply Ext.drewN | apply Ext.alloc)))⟩
      · have T5 := TP.out false (by simp [h8])
        have h5 : ¬ nn ≤ 5 := by omega
        clear TP
        go_wp2_with (fail)
        go_ret
        exact ⟨by rw [T5]; first | rfl | simp [*], X1.out.tr (by (repeat (first | assumption | exact Ext.rf _ | apply Ext.drew | apply Ext.drewN | apply Ext.alloc)))⟩
    · have e1 : (kind == 1) = false := by simpa using k1
      by_cases h5 : nn ≤ 5
      · have T5 := TP.out true (by simp [k1, h5])
        clear TP
        go_wp2_with (fail)
        go_ret
        exact ⟨by rw [T5]; first | rfl | simp [*], X1.out.tr (by (repeat (first | assumption | exact Ext.rf _ | apply Ext.drew | apply Ext.drewN | apply Ext.alloc)))⟩
      · have T5 := TP.out false (by simp [k1, h5])
        clear TP
        go_wp2_with (fail)
        go_ret
        exact ⟨by rw [T5]; first | rfl | simp [*], X1.out.tr (by (repeat (first | assumption | exact Ext.rf _ | apply Ext.drew | apply Ext.drewN | apply Ext.alloc)))⟩
  · have T5 := TP.out false (by simp [hc])
    have e1 : (c == 0) = false := by simpa using hc
    clear TP
    go_wp2_with (fail)
    go_ret
    exact ⟨by rw [T5]; first | rfl | simp [*], X1.out.tr (by (repeat (first | assumption | exact Ext.rf _ | apply Ext.drew | apply Ext.drewN | apply Ext.alloc)))⟩
end Go.Proofs.YtleckhbmciiooaaDoor
namespace Go.Proofs.YtleckhbmciiooaaDoor
open Go.RowKit Go.ChangeShapes Go.WideShapes Go.ChangeAt Go.Deep

/-- so many ints lie in block g, which may hold more -/
def RowA (w : World) (g n : Nat) (u : Nat → Int) : Prop := ∃ cur, Blk w g 3 cur ∧ ∀ k, k < n → cur[k]? = some (.int .i64 (u k))
section
variable {w w' : World} {g n : Nat} {u v : Nat → Int}
theorem RowA.cell (h : RowA w g n u) {k : Nat} (hk : k < n) : w.cell? ⟨g, k, none⟩ = some (.int .i64 (u k)) := by
  obtain ⟨cur, h1, h2⟩ := h
  rw [h1.cell]
  exact h2 k hk
theorem RowA.free (h : RowA w g n u) (k : Nat) : w.frozen? ⟨g, k, none⟩ = false := by
  obtain ⟨cur, h1, _⟩ := h
  exact h1.free k
theorem RowA.lt (h : RowA w g n u) : g < w.heap.size := by
  obtain ⟨cur, h1, _⟩ := h
  exact h1.lt
theorem RowA.ext (h : RowA w g n u) (x : Ext w w') : RowA w' g n u := by
  obtain ⟨cur, h1, h2⟩ := h
  exact ⟨cur, h1.ext x, h2⟩
theorem RowA.mod {S : Nat → Prop} (h : RowA w g n u) (m : Mod S w w') (hS : ¬ S g) : RowA w' g n u := by
  obtain ⟨cur, h1, h2⟩ := h
  exact ⟨cur, h1.mod m hS, h2⟩
theorem RowA.far (h : RowA w g n u) {a : Addr} (hp : g ≠ a.block) (x : Value) : RowA (w.setCell a x) g n u := by
  obtain ⟨cur, h1, h2⟩ := h
  exact ⟨cur, h1.far hp x, h2⟩
theorem RowA.set (h : RowA w g n u) (k : Nat) (x : Int) : RowA (w.setCell ⟨g, k, none⟩ (.int .i64 x)) g n (fun i => if i = k then x else u i) := by
  obtain ⟨cur, h1, h2⟩ := h
  refine ⟨_, h1.set k _, fun i hi => ?_⟩
  rw [Array.getElem?_setIfInBounds]
  by_cases e : k = i
  · subst e
    have := h2 k hi
    have hlt := (Array.getElem?_eq_some_iff.1 this).1
    simp [hlt]
  · have e' : ¬ i = k := fun h => e h.symm
    simp only [if_neg e, if_neg e']
    exact h2 i hi
theorem RowA.congr (h : RowA w g n u) (e : ∀ i, i < n → u i = v i) : RowA w g n v := by
  obtain ⟨cur, h1, h2⟩ := h
  exact ⟨cur, h1, fun k hk => by rw [← e k hk]; exact h2 k hk⟩
theorem RowA.rdI (h : RowA w g n u) : RdI w (some ⟨g, 0, none⟩) ((List.range n).map u) := by
  refine .inr ⟨g, 0, rfl, h.lt, fun j x hj => ?_⟩
  rw [Nat.zero_add]
  obtain ⟨hl, e⟩ := List.getElem?_eq_some_iff.1 hj
  have hjn : j < n := by simpa using hl
  rw [h.cell hjn]
  simp at e
  rw [e]
theorem RowA.of_own {base c : Nat} {xs : List Int} (h : OwI w base (some ⟨g, 0, none⟩) c xs) : RowA w g xs.length (fun k => xs.getD k 0) := by
  rcases h.cases with ⟨e, _⟩ | ⟨g', cur, e, _, hg, _, _, hs, ht⟩
  · cases e
  · obtain rfl : g = g' := by simpa using e
    refine ⟨cur, hg, fun k hk => ?_⟩
    have h1 : (cur.toList.take (xs.length * 1))[k]? = some (.int .i64 (xs.getD k 0)) := by
      rw [ht, List.getElem?_map, List.getElem?_eq_getElem hk, getD_some (List.getElem?_eq_getElem hk)]
      rfl
    rw [List.getElem?_take_of_lt (by omega)] at h1
    simpa using h1
end
/-- a square of numbers: the list of its rows in block cb, row k in block g k; all between lo and hi -/
structure MatS (w : World) (lo hi cb c n : Nat) (us : List Value) (g cp : Nat → Nat) (f : Nat → Nat → Int) : Prop where
  own : OwV w lo 22 1 (some ⟨cb, 0, none⟩) n c us
  ownlt : lo ≤ cb ∧ cb < hi
  at' : ∀ k, k < n → us[k]? = some (.slice (some ⟨g k, 0, none⟩) n (cp k)) ∧ n ≤ cp k ∧ cp k ≤ maxLen
  row : ∀ k, k < n → lo ≤ g k ∧ g k < hi ∧ RowA w (g k) n (f k)
  inj : ∀ k l, k < n → l < n → g k = g l → k = l
section
variable {w w' : World} {lo hi cb c n : Nat} {us : List Value} {g cp : Nat → Nat} {f : Nat → Nat → Int}
theorem MatS.cell (h : MatS w lo hi cb c n us g cp f) {k : Nat} (hk : k < n) : w.cell? ⟨cb, k, none⟩ = some (.slice (some ⟨g k, 0, none⟩) n (cp k)) := by
  have hl := h.own.len
  obtain ⟨b, off, v, e, _, h1, h2⟩ := h.own.read.at (j := k) (by omega)
  have e2 : cb = b ∧ 0 = off := by simpa using e
  obtain ⟨rfl, rfl⟩ := e2
  rw [Nat.zero_add] at h1
  rw [h1, ← h2.out, (h.at' k hk).1]
theorem MatS.ext (h : MatS w lo hi cb c n us g cp f) (x : Ext w w') : MatS w' lo hi cb c n us g cp f :=
  ⟨h.own.ext x, h.ownlt, h.at', fun k hk => ⟨(h.row k hk).1, (h.row k hk).2.1, (h.row k hk).2.2.ext x⟩, h.inj⟩
theorem MatS.mod {S : Nat → Prop} (h : MatS w lo hi cb c n us g cp f) (m : Mod S w w') (hS : ∀ k, lo ≤ k → k < hi → ¬ S k) : MatS w' lo hi cb c n us g cp f :=
  ⟨h.own.mod m fun b hb => by
      obtain rfl : cb = b := by simpa [bl] using hb
      exact hS cb h.ownlt.1 h.ownlt.2, h.ownlt, h.at', fun k hk => ⟨(h.row k hk).1, (h.row k hk).2.1, (h.row k hk).2.2.mod m (hS _ (h.row k hk).1 (h.row k hk).2.1)⟩, h.inj⟩
theorem MatS.congr {f' : Nat → Nat → Int} (h : MatS w lo hi cb c n us g cp f) (e : ∀ i j, i < n → j < n → f i j = f' i j) : MatS w lo hi cb c n us g cp f' :=
  ⟨h.own, h.ownlt, h.at', fun k hk => ⟨(h.row k hk).1, (h.row k hk).2.1, (h.row k hk).2.2.congr (fun i hi => e k i hk hi)⟩, h.inj⟩
theorem MatS.set (h : MatS w lo hi cb c n us g cp f) {a : Nat} (ha : a < n) (b : Nat) (x : Int) : MatS (w.setCell ⟨g a, b, none⟩ (.int .i64 x)) lo hi cb c n us g cp (fun i j => if i = a ∧ j = b then x else f i j) := by
  refine ⟨?_, h.ownlt, h.at', fun k hk => ⟨(h.row k hk).1, (h.row k hk).2.1, ?_⟩, h.inj⟩
  · obtain ⟨cur, h1, _⟩ := (h.row a ha).2.2
    have hne := h.own.ne h1 (by decide)
    exact h.own.mod (S := fun k => k = g a) ((Mod.rf (S := fun k => k = g a) w).set (p := ⟨g a, b, none⟩) (.inl rfl) _) fun q hq => hne q hq
  · by_cases e : k = a
    · subst e
      exact ((h.row k hk).2.2.set b x).congr fun i _ => by
        by_cases e2 : i = b
        · rw [if_pos e2, if_pos ⟨rfl, e2⟩]
        · rw [if_neg e2, if_neg (fun h => e2 h.2)]
    · exact ((h.row k hk).2.2.far (fun e2 => e (h.inj k a hk ha e2)) _).congr fun i _ => by rw [if_neg (fun h => e h.1)]
def rowsF (n : Nat) (f : Nat → Nat → Int) : List (List Int) := (List.range n).map fun k => (List.range n).map (f k)
theorem rowsF_len (n : Nat) (f : Nat → Nat → Int) : (rowsF n f).length = n := by simp [rowsF]
theorem rowsF_at {k : Nat} (hk : k < n) : (rowsF n f)[k]? = some ((List.range n).map (f k)) := by
  rw [rowsF, List.getElem?_map, List.getElem?_range hk]
  rfl
theorem MatS.rd (h : MatS w lo hi cb c n us g cp f) (hb : ∀ i j, i < n → j < n → -9223372036854775808 ≤ f i j ∧ f i j ≤ 9223372036854775807) : RdE 1 RInts w (some ⟨cb, 0, none⟩) (rowsF n f) := by
  by_cases h0 : n = 0
  · subst h0
    exact .inl rfl
  have z := (h.own.lt cb rfl).2
  refine .inr ⟨cb, 0, rfl, z, fun k r hr => ?_⟩
  have hk : k < n := by
    have := (List.getElem?_eq_some_iff.1 hr).1
    rwa [rowsF_len] at this
  rw [rowsF_at hk] at hr
  obtain rfl := Option.some.inj hr
  obtain ⟨a1, a2, a3⟩ := h.at' k hk
  refine ⟨[.slice (some ⟨g k, 0, none⟩) n (cp k)], ⟨some ⟨g k, 0, none⟩, cp k, by simp, (h.row k hk).2.2.rdI, fun x hx => ?_, by simpa using a2, a3⟩, rfl, fun j v hj => ?_⟩
  · obtain ⟨j, hj, rfl⟩ := List.mem_map.1 hx
    exact hb k j hk (List.mem_range.1 hj)
  · cases j with
    | zero =>
      simp at hj
      subst hj
      rw [Nat.mul_one, Nat.zero_add, Nat.add_zero]
      exact h.cell hk
    | succ j => simp at hj
end
/-- a copied square -/
theorem MatS.of {w : World} {base c n : Nat} {C : Option Addr} {us : List Value} {rows : List (List Int)} (hl : rows.length = n) (hr : ∀ r ∈ rows, r.length = n) (n1 : 1 ≤ n) (hC : OwV w base 22 1 C n c us) (hR : RowsO w base us rows) (hD : RowsD us) :
    ∃ cb g cp, C = some ⟨cb, 0, none⟩ ∧ MatS w base w.heap.size cb c n us g cp (costAt rows) ∧ rows = rowsF n (costAt rows) := by
  have ex : ∀ k, ∃ (p : Nat × Nat), k < n → us[k]? = some (.slice (some ⟨p.1, 0, none⟩) n p.2) ∧ n ≤ p.2 ∧ p.2 ≤ maxLen ∧ base ≤ p.1 ∧ p.1 < w.heap.size ∧ RowA w p.1 n (costAt rows k) := fun k => by
    by_cases hk : k < n
    · obtain ⟨r, e1⟩ : ∃ r, rows[k]? = some r := ⟨rows[k]'(by omega), List.getElem?_eq_getElem _⟩
      obtain ⟨A, c', h1, h2⟩ := hR.2 k _ e1
      have lr := hr _ (List.mem_of_getElem? e1)
      have e3 : (fun j => r.getD j 0) = costAt rows k := by
        funext j
        unfold costAt
        rw [getD_some e1]
      rcases h2.cases with ⟨_, _, h⟩ | ⟨gk, cur, rfl, h3, h4, h5, h6, _⟩
      · exfalso
        subst h
        simp at lr
        omega
      · refine ⟨(gk, c'), fun _ => ⟨by rw [h1, lr], by omega, h6, h3, (Array.getElem?_eq_some_iff.1 h4).1, ?_⟩⟩
        have := RowA.of_own h2
        rw [lr, e3] at this
        exact this
    · exact ⟨(0, 0), fun h => absurd h hk⟩
  have hp : ∃ p : Nat → Nat × Nat, ∀ k, k < n → us[k]? = some (.slice (some ⟨(p k).1, 0, none⟩) n (p k).2) ∧ n ≤ (p k).2 ∧ (p k).2 ≤ maxLen ∧ base ≤ (p k).1 ∧ (p k).1 < w.heap.size ∧ RowA w (p k).1 n (costAt rows k) :=
    ⟨fun k => Classical.choose (ex k), fun k hk => Classical.choose_spec (ex k) hk⟩
  obtain ⟨p, hp⟩ := hp
  rcases hC.cases with ⟨_, _, h, _⟩ | ⟨cb, cur, rfl, h1, h2, _⟩
  · omega
  · refine ⟨cb, fun k => (p k).1, fun k => (p k).2, rfl, ⟨hC, ⟨h1, (Array.getElem?_eq_some_iff.1 h2).1⟩, fun k hk => ⟨(hp k hk).1, (hp k hk).2.1, (hp k hk).2.2.1⟩, fun k hk => ⟨(hp k hk).2.2.2.1, (hp k hk).2.2.2.2.1, (hp k hk).2.2.2.2.2⟩, fun k l hk hl e => ?_⟩, ?_⟩
    · have hne : ∀ a b, a < n → b < n → a < b → (p a).1 ≠ (p b).1 := fun a b ha hb hab e => hD a b _ _ hab (hp a ha).1 (hp b hb).1 (p a).1 rfl (by rw [e]; rfl)
      rcases Nat.lt_trichotomy k l with h | h | h
      · exact absurd e (hne k l hk hl h)
      · exact h
      · exact absurd e.symm (hne l k hl hk h)
    · refine List.ext_getElem (by rw [rowsF_len, hl]) fun i h1 h2 => ?_
      have hi : i < n := by omega
      have e1 := rowsF_at (f := costAt rows) hi
      rw [List.getElem?_eq_getElem h2] at e1
      rw [Option.some.inj e1]
      have lr := hr _ (List.getElem_mem h1)
      refine List.ext_getElem (by simp [lr]) fun j h3 h4 => ?_
      simp only [List.getElem_map, List.getElem_range]
      unfold costAt
      rw [getD_some (List.getElem?_eq_getElem h1), getD_some (List.getElem?_eq_getElem h3)]
end Go.Proofs.YtleckhbmciiooaaDoor
namespace Go.Proofs.YtleckhbmciiooaaDoor
open Go.RowKit Go.ChangeShapes Go.WideShapes Go.ChangeAt Go.Deep

/-- a problem's parts, all of the call's own -/
structure Prt (base : Nat) (i : InstP) (A3 : Option Addr) (c3 : Nat) (B3 : Option Addr) (d3 : Nat) (C : Option Addr) (cc : Nat) (us : List Value) (W : World) : Prop where
  a : OwI W base A3 c3 i.weight
  b : OwI W base B3 d3 i.value
  dj : ∀ g, bl A3 = some g → bl B3 ≠ some g
  c : OwV W base 22 1 C i.cost.length cc us
  r : RowsO W base us i.cost
  d : RowsD us
section
variable {base : Nat} {i : InstP} {A3 : Option Addr} {c3 : Nat} {B3 : Option Addr} {d3 : Nat} {C : Option Addr} {cc : Nat} {us : List Value} {W W' : World}
theorem Prt.ext (h : Prt base i A3 c3 B3 d3 C cc us W) (x : Ext W W') : Prt base i A3 c3 B3 d3 C cc us W' := ⟨h.a.ext x, h.b.ext x, h.dj, h.c.ext x, h.r.ext x, h.d⟩
theorem Prt.modT {base' : Nat} {ts : List TypeId} (h : Prt base i A3 c3 B3 d3 C cc us W) (k : ModT base' ts W W') (h1 : 3 ∉ ts) (h2 : 22 ∉ ts) : Prt base i A3 c3 B3 d3 C cc us W' := ⟨h.a.modT k h1, h.b.modT k h1, h.dj, h.c.modT k h2, h.r.modT k h1, h.d⟩
theorem Prt.rinst (h : Prt base i A3 c3 B3 d3 C cc us W) (hi : InstInts i) : RInst W [.int .i64 i.kind, .int .i64 i.n, .int .i64 i.cap, .slice A3 i.weight.length c3, .slice B3 i.value.length d3, .slice C i.cost.length cc] i :=
  InstO.rinst (base := base) ⟨A3, c3, B3, d3, C, cc, us, rfl, h.a, h.b, h.c, h.r⟩ hi
end
theorem sumL_in31 {l : List Int} (h : ∀ x ∈ l, 0 ≤ x ∧ x ≤ 2147483647) : 0 ≤ sumL l ∧ sumL l ≤ (l.length : Int) * 2147483647 := by
  induction l with
  | nil => simp [sumL]
  | cons x l ih =>
    have h1 := h x (by simp)
    have h2 := ih fun y hy => h y (by simp [hy])
    simp only [sumL, List.length_cons]
    omega
theorem ans_bd {i : InstP} (hc : checkP i = 0) (hn : i.n ≤ 8) {x : List Int} {v : Int} (ha : AnsOk i x v) : 0 ≤ v ∧ v ≤ 40000000000 := by
  rcases ha with ⟨hk, n, m, hn', rfl, h1, h2, rfl, h3⟩ | ⟨hk, l, rfl, h1, rfl, h2⟩ | ⟨hk, q, rfl, h1, rfl, h2⟩
  · have ok := knap_ok hc hk
    have := (sums_bd (f := atF i.value) (n := n) (fun j _ => atF_bd ok.sv j) m n (Nat.le_refl n)).2
    omega
  · have sq := square_ok hc (by omega)
    have rok := rows_ok sq
    have hl : l.length = i.cost.length := by rw [h1.length_eq, List.length_range]
    rw [costF_range hl.symm]
    have hb := sumL_in31 (l := (List.range l.length).map fun k => costAt i.cost k (l.getD k 0)) (fun x hx => by
      obtain ⟨k, hk, rfl⟩ := List.mem_map.1 hx
      have hk' := List.mem_range.1 hk
      have e : l[k]? = some (l[k]'hk') := List.getElem?_eq_getElem hk'
      rw [getD_some e]
      exact ends_num rok k _ (by omega) (List.mem_range.1 (h1.mem_iff.1 (List.getElem_mem hk'))))
    rw [List.length_map, List.length_range] at hb
    have := sq.len
    omega
  · have sq := square_ok hc (by omega)
    have rok := rows_ok sq
    have hl : (0 :: q).length = i.cost.length := by rw [h1.length_eq, List.length_range]
    have n1 := rok.n1
    have hb := pathT_bd (fun a b ha hb => ends_num rok a b ha hb) q 0 (by omega) (fun y hy => List.mem_range.1 (h1.mem_iff.1 (by simp [hy])))
    rw [List.length_cons] at hl
    have := sq.len
    omega
/-- the first k of them so many times -/
def mulTo (z : Int) (k : Nat) (xs : List Int) : List Int := (xs.take k).map (· * z) ++ xs.drop k
theorem mulTo_len (z : Int) (k : Nat) (xs : List Int) : (mulTo z k xs).length = xs.length := by
  unfold mulTo
  simp
  omega
theorem mulTo_at {z : Int} {k : Nat} {xs : List Int} {x : Int} (h : xs[k]? = some x) : (mulTo z k xs)[k]? = some x := by
  have hk := (List.getElem?_eq_some_iff.1 h).1
  unfold mulTo
  rw [List.getElem?_append_right (by simp; omega)]
  simp only [List.length_map, List.length_take, List.getElem?_drop]
  rw [show k + (k - min k xs.length) = k by omega]
  exact h
theorem mulTo_set {z : Int} {k : Nat} {xs : List Int} {x : Int} (h : xs[k]? = some x) : (mulTo z k xs).set k (x * z) = mulTo z (k + 1) xs := by
  obtain ⟨hk, e⟩ := List.getElem?_eq_some_iff.1 h
  unfold mulTo
  rw [List.drop_eq_getElem_cons hk, e, List.set_append_right _ _ (by simp; omega), List.take_add_one, h]
  simp only [List.length_map, List.length_take, List.map_append]
  rw [show k - min k xs.length = 0 by omega]
  simp
theorem mulTo_all (z : Int) (xs : List Int) : mulTo z xs.length xs = xs.map (· * z) := by simp [mulTo]
theorem mulTo_zero (z : Int) (xs : List Int) : mulTo z 0 xs = xs := by simp [mulTo]
theorem scaled_rows {rows : List (List Int)} {n : Nat} {z : Int} (h : rows = rowsF n (costAt rows)) : (rows.map fun r => r.map (· * z)) = rowsF n fun a b => costAt rows a b * z := by
  have h2 : (rows.map fun r => r.map (· * z)) = (rowsF n (costAt rows)).map fun r => r.map (· * z) := by rw [← h]
  rw [h2]
  unfold rowsF
  rw [List.map_map]
  refine List.map_congr_left fun a _ => ?_
  simp
end Go.Proofs.YtleckhbmciiooaaDoor
namespace Go.Proofs.YtleckhbmciiooaaDoor
open Go.RowKit Go.ChangeShapes Go.WideShapes Go.ChangeAt Go.Deep

section
variable {H : Type} {enc : TypeId × Value → H} {W : World}
theorem ints_size {fuel : Nat} {c : Value} {A : Option Addr} {n cap : Nat} {x : DataW H × List MemPlace} (h : DataW.trod enc Tryd.prog W 0 (fun _ => true) true fuel 22 [c] = some x) (hc : [c] = [Value.slice A n cap]) : ∃ m, n ≤ m ∧ (n = 0 ∨ m * Tryd.prog.bytesOf 3 ∈ x.1.weights Tryd.prog 22) := by
  rcases open_ints Tryd.underlying22 Tryd.underlying3 cells_int h with ⟨hcs, hx⟩ | ⟨a, len', cap', zs, hcs, _, hl, hm, hz, hx, hcell, hwz⟩
  · rw [hcs] at hc
    simp at hc
    exact ⟨0, by omega, .inl (by omega)⟩
  · rw [hcs] at hc
    simp at hc
    obtain ⟨_, rfl, _⟩ := hc
    simp only [if_true] at hz
    refine ⟨len' + (zs.length - len'), by omega, .inr ?_⟩
    rw [hx]
    have e1 : (lits (H := H) .i64 (zs.take len')).length = len' := by simp [lits]; omega
    have e2 : (lits (H := H) .i64 (zs.drop len')).length = zs.length - len' := by simp [lits]
    simp only [DataW.weights, Tryd.underlying22, e1, e2]
    exact List.mem_cons_self
set_option maxRecDepth 100000 in
theorem open_InstS {base : Nat} {v : Value} {d : DataW H} {p : List MemPlace} (hd : DataW.Trod enc Tryd.prog W 0 (fun _ => true) true 25 v d p) (hv : Value.okWide Tryd.prog W .any base 25 v) :
    ∃ vs i, v = .agg (List.toArray vs) ∧ RInst W vs i ∧ InstOk i ∧ ∀ R, (∀ n ∈ d.weights Tryd.prog 25, n ≤ R) → i.weight.length * 8 ≤ R ∧ i.value.length * 8 ≤ R := by
  obtain ⟨cs, rfl, hsz⟩ := okWide_struct Tryd.underlying25 hv
  rw [cells_inst] at hsz
  obtain ⟨l⟩ := cs
  match l, hsz with
  | [c0, c1, c2, c3, c4, c5], _ =>
    obtain ⟨fuel, h⟩ := hd
    obtain ⟨n0, y0, h0⟩ := field_at Tryd.underlying25 h 0 3 0 1 rfl cells_int
    obtain ⟨n1, y1, h1⟩ := field_at Tryd.underlying25 h 1 3 1 1 rfl cells_int
    obtain ⟨n2, y2, h2⟩ := field_at Tryd.underlying25 h 2 3 2 1 rfl cells_int
    obtain ⟨n5, y5, h5⟩ := field_at Tryd.underlying25 h 5 23 5 1 rfl cells_iss
    obtain ⟨xs, n, rfl, hx, _, hlen, hf⟩ := DataW.trod_struct Tryd.underlying25 h
    have f3 := hf 3 _ rfl
    have f4 := hf 4 _ rfl
    simp only [List.size_toArray, List.length_cons, List.length_nil] at hlen
    obtain ⟨y3, e3x⟩ : ∃ y3, xs[3]? = some y3 := ⟨xs[3]'(by omega), List.getElem?_eq_getElem _⟩
    obtain ⟨y4, e4x⟩ : ∃ y4, xs[4]? = some y4 := ⟨xs[4]'(by omega), List.getElem?_eq_getElem _⟩
    have h3 : DataW.trod enc Tryd.prog W 0 (fun _ => true) true n 22 [c3] = some y3 := by rw [← e3x, ← f3]; rfl
    have h4 : DataW.trod enc Tryd.prog W 0 (fun _ => true) true n 22 [c4] = some y4 := by rw [← e4x, ← f4]; rfl
    obtain ⟨x0, e0, b0⟩ := opens_int _ _ _ h0
    obtain ⟨x1, e1, b1⟩ := opens_int _ _ _ h1
    obtain ⟨x2, e2, b2⟩ := opens_int _ _ _ h2
    obtain ⟨l3, A3, a3, e3, r3⟩ := opens_ints _ _ _ h3
    obtain ⟨l4, A4, a4, e4, r4⟩ := opens_ints _ _ _ h4
    obtain ⟨A5, l5, a5, e5, r5⟩ := open_E Tryd.underlying23 cells_is (by omega) opens_ints h5
    obtain ⟨m3, s3, s3'⟩ := ints_size h3 e3
    obtain ⟨m4, s4, s4'⟩ := ints_size h4 e4
    have hd9 : d = .agg (xs.map (·.1)) := by have := congrArg Prod.fst hx; exact this
    injection e0 with e0
    injection e1 with e1
    injection e2 with e2
    injection e3 with e3
    injection e4 with e4
    injection e5 with e5
    subst e0 e1 e2 e3 e4 e5
    refine ⟨_, ⟨x0, x1, x2, l3, l4, l5⟩, rfl, ⟨A3, a3, A4, a4, A5, a5, rfl, r3, r4, r5⟩, ⟨b0, b1, b2⟩, fun R hR => ?_⟩
    have by8 : Tryd.prog.bytesOf 3 = 8 := by kernel_rfl
    have MEM : ∀ (j : Nat) (y : DataW H × List MemPlace) (t : TypeId), xs[j]? = some y → ([3, 3, 3, 22, 22, 23] : List TypeId)[j]? = some t → ∀ z ∈ y.1.weights Tryd.prog t, z ≤ R := fun j y t hj ht z hz => by
      refine hR z ?_
      rw [hd9]
      simp only [DataW.weights, Tryd.underlying25]
      exact DataW.weights_mem_each (j := j) (t := t) (d := y.1) ht (by rw [List.getElem?_map, hj]; rfl) z hz
    constructor
    · rcases s3' with h | h
      · simp only at h ⊢; omega
      · have := MEM 3 y3 _ e3x rfl _ h
        rw [by8] at this
        simp only
        omega
    · rcases s4' with h | h
      · simp only at h ⊢; omega
      · have := MEM 4 y4 _ e4x rfl _ h
        rw [by8] at this
        simp only
        omega
end
end Go.Proofs.YtleckhbmciiooaaDoor
namespace Go.Proofs.YtleckhbmciiooaaDoor
open Go.RowKit Go.ChangeShapes Go.WideShapes Go.ChangeAt

set_option maxRecDepth 100000 in
theorem app1_keep (w : World) (base : Nat) (ty : TypeId) (g c : Nat) (xs : List Int) (y : Int) (h : Nat) (hown : OwI w base (some ⟨g, 0, none⟩) c xs) (hb : Blk w h 3 #[.int .i64 y]) (hlen : xs.length ≤ 1000000) (hbase : base ≤ w.heap.size) :
    ∃ A' c' w', (Builtin.append_ #[22, 22] ty #[.slice (some ⟨g, 0, none⟩) xs.length c, .slice (some ⟨h, 0, none⟩) 1 1]).run Tryd.prog w = .ok (.slice A' (xs.length + 1) c') w' ∧ OwI w' base A' c' (xs ++ [y]) ∧ OwI w' base (some ⟨g, 0, none⟩) c xs ∧ Mod (fun b => b = g) w w' ∧ ∀ k, bl A' = some k → k = g ∨ w.heap.size ≤ k := by
  obtain ⟨i0, hi, hz0, hz1, hz2⟩ := info_parts int_info
  have hnews : ∀ j u, ([Value.int .i64 y])[j]? = some u → w.cell? ((⟨h, 0, none⟩ : Addr).add j) = some u := by
    intro j u hu
    cases j with
    | zero =>
      simp at hu
      subst hu
      rw [add_plain, hb.cell]
      rfl
    | succ j => simp at hu
  have O := hown
  rcases hown.cases with ⟨e, _⟩ | ⟨g', cur, e, hbg, hg, hn, hm, hs, ht⟩
  · cases e
  obtain rfl : g = g' := by simpa using e
  have hblk : Blk w g 3 cur := hg
  have hs' : cur.size = c := by simpa using hs
  have ht' : cur.toList.take xs.length = xs.map (Value.int .i64) := by simpa using ht
  by_cases hroom : xs.length + 1 ≤ c
  · have hrun := run_append_room_cells (P := Tryd.prog) w 22 ty 3 i0 Tryd.underlying22 hi g 0 xs.length c ⟨h, 0, none⟩ 1 1 [.int .i64 y] (by simp [hz1]) hnews (by simp [Value.oneCell']) hroom
      (fun j hj => by
        obtain rfl : j = 0 := by simpa using hj
        rw [hz1, hblk.cell, Array.getElem?_eq_getElem (by omega)]
        rfl)
      (fun j hj => by
        obtain rfl : j = 0 := by simpa using hj
        exact hblk.free _)
    have e1 : w.setCells g (0 + xs.length * i0.size) [.int .i64 y] = w.setCell ⟨g, xs.length, none⟩ (.int .i64 y) := by
      rw [hz1, Nat.zero_add, Nat.mul_one]
      simp [World.setCells]
    rw [e1] at hrun
    have hset := hblk.set xs.length (.int .i64 y)
    refine ⟨some ⟨g, 0, none⟩, c, _, hrun, ?_, ?_, (Mod.rf (S := fun b => b = g) w).set (p := ⟨g, xs.length, none⟩) (.inl rfl) _, fun k hk => .inl (by simpa [bl] using hk.symm)⟩
    · refine .mk (cur := cur.setIfInBounds xs.length (.int .i64 y)) hbg hset (by simpa using hroom) hm (by simpa using hs) ?_
      rw [Nat.mul_one, List.length_append, List.length_singleton, Array.toList_setIfInBounds, List.take_set, List.take_add_one, ht']
      have h2 : cur.toList[xs.length]? = some (cur.toList[xs.length]'(by simp; omega)) := List.getElem?_eq_getElem _
      rw [h2]
      simp [List.set_append_right]
    · refine .mk (cur := cur.setIfInBounds xs.length (.int .i64 y)) hbg hset hn hm (by simpa using hs) ?_
      rw [Nat.mul_one, Array.toList_setIfInBounds, List.take_set, ht']
      exact List.set_eq_of_length_le (by simp)
  · obtain ⟨v', w', hrun, h2, h3⟩ := run_append_arg_grows (P := Tryd.prog) w 22 ty 3 i0 _ 1 8 Tryd.underlying22 hi hz0 hz1 hz2 rfl (by decide) ⟨g, 0, none⟩ xs.length c (xs.map (Value.int .i64)) (by simp)
      (fun j u hu => by
        have h9 : (cur.toList.take xs.length)[j]? = some u := by rw [ht']; exact hu
        rw [add_plain, Nat.zero_add, hblk.cell]
        have hj : j < xs.length := by simpa using (List.getElem?_eq_some_iff.1 hu).1
        rw [List.getElem?_take_of_lt hj] at h9
        simpa using h9)
      ⟨h, 0, none⟩ 1 1 [.int .i64 y] (by simp) hnews (by omega) (by simp only [maxLen]; omega) (by omega)
    have x3 := (Ext.rf w).grownNone h3
    rcases h2.2 with ⟨rfl, h0⟩ | ⟨g2, cap, cur2, rfl, hb2, hrest⟩
    · omega
    · refine ⟨some ⟨g2, 0, none⟩, cap, w', hrun, OwI.more (base := w.heap.size) (by simpa [OwI] using h2) hbase, O.ext x3, Mod.of_ext x3, fun k hk => .inr ?_⟩
      have : g2 = k := by simpa [bl] using hk
      omega
end Go.Proofs.YtleckhbmciiooaaDoor
namespace Go.Proofs.YtleckhbmciiooaaDoor
open Go.RowKit Go.ChangeShapes Go.WideShapes Go.ChangeAt

/-- the variables that the row lists -/
def tabL : List (String × DataW Unit) := [("math/bits.deBruijn64tab", Rows.laid_math_bits_deBruijn64tab)]
theorem tabData : (Rows.laid_math_bits_deBruijn64tab : DataW Unit) = .agg (Lib.deBruijn64tab.map fun n : Nat => .lit (.int .u8 (n : Int))) := by kernel_rfl
theorem tab_of_laid {W : World} (h : laidMetH Tryd.prog tabL W) : Tab W := by
  rw [MakeChecks.laidMetH_plain _ _ _ (by kernel_rfl)] at h
  obtain ⟨ps, ⟨g, t, cs, fuel, p, q, hg, ht, hv, hd, _, _⟩, _, _⟩ := h
  obtain rfl := Option.some.inj ((show Tryd.prog.globalNamed "math/bits.deBruijn64tab" = some 1 by kernel_rfl).symm.trans hg)
  obtain rfl := Option.some.inj ((show (Tryd.prog.globals[1]?).map (·.type) = some 171 by kernel_rfl).symm.trans ht)
  rw [show (Rows.laid_math_bits_deBruijn64tab : DataW Unit) = .agg (Lib.deBruijn64tab.map fun n : Nat => .lit (.int .u8 (n : Int))) from tabData] at hd
  obtain ⟨xs, m, _, ex, _, hl, hel⟩ := DataW.trod_array Tryd.underlying171 hd
  intro r hr
  have hlen : Lib.deBruijn64tab.length = 64 := by kernel_rfl
  rw [hlen] at hr
  have c5 : Tryd.prog.cellsOf 5 = 1 := by kernel_rfl
  have hE := hel r hr
  rw [c5, Nat.mul_one, List.getElem?_eq_getElem (by omega)] at hE
  obtain ⟨z, e1, e2, _⟩ := DataW.trod_int Tryd.underlying5 hE
  have e3 : (xs.map (·.1)) = Lib.deBruijn64tab.map fun n : Nat => .lit (.int .u8 (n : Int)) := (DataW.agg.inj (Prod.mk.inj ex).1).symm
  have e4 : (xs.map (·.1))[r]? = (Lib.deBruijn64tab.map fun n : Nat => (DataW.lit (.int .u8 (n : Int)) : DataW Unit))[r]? := by rw [e3]
  rw [List.getElem?_map, List.getElem?_map, List.getElem?_eq_getElem (by omega : r < xs.length), List.getElem?_eq_getElem (by omega : r < Lib.deBruijn64tab.length), e2] at e4
  have hz : z = ((Lib.deBruijn64tab.getD r 0 : Nat) : Int) := by
    simp only [Option.map_some, Option.some.injEq, DataW.lit.injEq, Lit.int.injEq, true_and] at e4
    rw [e4, List.getD, List.getElem?_eq_getElem (by omega : r < Lib.deBruijn64tab.length)]; rfl
  rw [World.var?_cell hg hv r, ← hz]
  have : cs.toList[r]? = some (.int .u8 z) := by
    have h0 : ((cs.toList.drop r).take 1)[0]? = some (.int .u8 z) := by rw [e1]; rfl
    simpa using h0
  simpa using this
end Go.Proofs.YtleckhbmciiooaaDoor
