/-
  A knapsack's kernel: how deep it goes, where a beginning has come to, what may follow.
  A knapsack's kernel: Part; what the rest may bring; Kids.
-/
import Derived.Test.YtleckhbmciiooaaKnapD
namespace Go.Proofs.Ytleckhbmciiooaa
open Go.RowKit Go.ChangeShapes Go.WideShapes Go.ChangeAt Go.Deep

structure KOk (cap : Int) (l : List Nat) (ws vs bs : List Int) : Prop where
  cap : 0 ≤ cap ∧ cap ≤ 2147483647
  l64 : l.length ≤ 64
  lw : ws.length = l.length
  lv : vs.length = l.length
  lb : bs.length = l.length + 1
  sw : Small31 ws
  sv : Small31 vs
set_option maxRecDepth 100000 in
theorem depth_any {base g : Nat} {cap : Int} {l : List Nat} {ws vs bs : List Int} (w : World) (H : KernB w base g cap l ws vs bs) :
    Calls Try.prog 19 #[.pointer (some ⟨g, 0, none⟩)] w fun e w' => e = .returned (.int .i64 l.length) ∧ Ext w w' := by
  obtain ⟨PA, pc, WA, wc, VA, vc, HA, hc, hB, -⟩ := H
  have c1 : w.cell? ⟨g, 1, none⟩ = some (.slice PA l.length pc) := hB.cell 1
  replace hB := Lib.hid hB
  go_enter Try.func19, Try.ntmps19
  go_wp2
  go_ret
  exact ⟨rfl, Ext.rf _⟩
/-- what state tells -/
def stVal : Option (Int × Int) → Value
  | some (r, o) => .tuple #[.int .i64 r, .int .i64 o, .bool true]
  | none => .tuple #[.int .i64 0, .int .i64 0, .bool false]
theorem ret_st {a b : Option (Int × Int)} (h : a = b) : Ending.returned (stVal a) = .returned (stVal b) := by rw [h]
set_option maxRecDepth 100000 in
set_option maxHeartbeats 2000000 in
theorem state_any {base g : Nat} {cap : Int} {l : List Nat} {ws vs bs : List Int} (P : Option Addr) (c : Nat) (p : List Int) (w : World) (H : KernB w base g cap l ws vs bs) (ok : KOk cap l ws vs bs) (hP : RdI w P p) (lp : p.length ≤ 1000000000) :
    Calls Try.prog 67 #[.pointer (some ⟨g, 0, none⟩), .slice P p.length c] w fun e w' => e = .returned (stVal (stP cap 0 ws vs p)) ∧ Ext w w' := by
  obtain ⟨PA, pc, WA, wc, VA, vc, HA, hc, hB, -, -, ⟨rW, -⟩, ⟨rV, -⟩, -⟩ := H
  obtain ⟨okc, l64, lw, lv, lb, sw, sv⟩ := ok
  have c0 : w.cell? ⟨g, 0, none⟩ = some (.int .i64 cap) := hB.cell 0
  have c1 : w.cell? ⟨g, 1, none⟩ = some (.slice PA l.length pc) := hB.cell 1
  have c2 : w.cell? ⟨g, 2, none⟩ = some (.slice WA ws.length wc) := hB.cell 2
  have c3 : w.cell? ⟨g, 3, none⟩ = some (.slice VA vs.length vc) := hB.cell 3
  have zg := hB.lt
  replace hB := Lib.hid hB
  replace lw := Lib.hid lw
  replace lv := Lib.hid lv
  replace lb := Lib.hid lb
  by_cases hlen : l.length < p.length
  · have HN : Hid (stP cap 0 ws vs p = none) := stP_long (by rw [lw.out]; exact hlen)
    have hgt : decide (l.length < p.length) = true := by simpa using hlen
    go_enter Try.func67, Try.ntmps67
    go_wp2
    go_ret3
    exact ⟨by rw [HN.out]; rfl, Ext.rf _⟩
  · have hgt : decide (l.length < p.length) = false := by simpa using hlen
    go_enter Try.func67, Try.ntmps67
    go_wp2_with (fail)
    go_loopw [4, 5, 27] (fun r o i wr => ∃ (k : Nat) (room out : Int), i = .int .i64 k ∧ r = .int .i64 room ∧ o = .int .i64 out ∧ k ≤ p.length ∧ 0 ≤ room ∧ room ≤ 2147483647 ∧ 0 ≤ out ∧ out ≤ 2147483647 * (k : Int) ∧ Hid (stP cap 0 ws vs p = stP room out (ws.drop k) (vs.drop k) (p.drop k)) ∧ Ext w wr) (fun _ _ i _ => p.length - (intOf i).toNat)
    case atStart => exact ⟨0, cap, 0, rfl, rfl, rfl, by omega, okc.1, okc.2, by omega, by omega, by exact rfl, Ext.rf _⟩
    case round =>
      obtain ⟨k, room, out, rfl, rfl, rfl, hk, b1, b2, b3, b4, HS, Y⟩ := hrel
      by_cases hlt : k < p.length
      · obtain ⟨pb, po, x, rfl, _, cx, ex, dx⟩ := (hP.ext Y).at hlt
        have hkw : k < ws.length := by rw [lw.out]; omega
        have hkv : k < vs.length := by rw [lv.out]; omega
        obtain ⟨wb, wo, u, rfl, _, cu, eu, du⟩ := (rW.ext Y).at hkw
        obtain ⟨vb, vo, v, rfl, _, cv, ev, dv⟩ := (rV.ext Y).at hkv
        have bu := sw.get eu.out
        have bv := sv.get ev.out
        have k0 := keepEL Y zg c0
        have k2 := keepEL Y zg c2
        have k3 := keepEL Y zg c3
        have HT : Hid (stP cap 0 ws vs p = if x = 1 then (if room - u < 0 then none else stP (room - u) out (ws.drop (k + 1)) (vs.drop (k + 1)) (p.drop (k + 1))) else if x = 0 then (if room < 0 then none else stP room (out + v) (ws.drop (k + 1)) (vs.drop (k + 1)) (p.drop (k + 1))) else none) := by
          have h := HS.out
          rw [dx.out, du.out, dv.out] at h
          exact h
        clear HS ex eu ev dx du dv sw sv
        by_cases x1 : x = 1
        · subst x1
          by_cases hneg : room - u < 0
          · have HN : Hid (stP cap 0 ws vs p = none) := by
              have h := HT.out
              rw [if_pos rfl, if_pos hneg] at h
              exact h
            go_wp2
            go_ret3
            exact ⟨by rw [HN.out]; rfl, Y⟩
          · have HN : Hid (stP cap 0 ws vs p = stP (room - u) out (ws.drop (k + 1)) (vs.drop (k + 1)) (p.drop (k + 1))) := by
              have h := HT.out
              rw [if_pos rfl, if_neg hneg] at h
              exact h
            go_wp2
            go_roundw
            case rel => exact ⟨k + 1, room - u, out, by go_num, rfl, rfl, by omega, by omega, by omega, by omega, by omega, HN, Y⟩
            case measure => simp [intOf]; omega
        · have x1' : (x == 1) = false := by simpa using x1
          by_cases x0 : x = 0
          · subst x0
            have HN : Hid (stP cap 0 ws vs p = stP room (out + v) (ws.drop (k + 1)) (vs.drop (k + 1)) (p.drop (k + 1))) := by
              have h := HT.out
              rw [if_neg x1, if_pos rfl, if_neg (by omega)] at h
              exact h
            clear x1
            go_wp2
            go_roundw
            case rel => exact ⟨k + 1, room, out + v, by go_num, rfl, rfl, by omega, by omega, by omega, by omega, by omega, HN, Y⟩
            case measure => simp [intOf]; omega
          · have x0' : (x == 0) = false := by simpa using x0
            have HN : Hid (stP cap 0 ws vs p = none) := by
              have h := HT.out
              rw [if_neg x1, if_neg x0] at h
              exact h
            clear x1 x0
            go_wp2
            go_ret3
            exact ⟨by rw [HN.out]; rfl, Y⟩
      · have HN : Hid (stP cap 0 ws vs p = some (room, out)) := by
          have h := HS.out
          rw [List.drop_of_length_le (l := p) (by omega)] at h
          rw [h]
          cases ws.drop k <;> cases vs.drop k <;> rfl
        clear HS sw sv
        go_wp2
        go_ret3
        exact ⟨by rw [HN.out]; rfl, Y⟩
end Go.Proofs.Ytleckhbmciiooaa
namespace Go.Proofs.Ytleckhbmciiooaa
open Go.RowKit Go.ChangeShapes Go.WideShapes Go.ChangeAt Go.Deep

set_option maxRecDepth 100000 in
theorem div64_any (x y : Int) (w : World) (hx : 0 ≤ x) (hx' : x ≤ 4611686014132420609) (hy : 1 ≤ y) (hy' : y ≤ 2147483647) :
    Calls Try.prog 147 #[.int .u64 0, .int .u64 x, .int .u64 y] w fun e w' => e = .returned (.tuple #[.int .u64 (x / y), .int .u64 (x % y)]) ∧ Ext w w' := by
  have y0 : (y == 0) = false := by rw [beq_eq_false_iff_ne]; omega
  have y1 : decide (y ≤ 0) = false := by simp; omega
  go_enter Try.func147, Try.ntmps147
  go_wp2_with (go_quiet (fail))
  go_ret2
  exact ⟨rfl, by (repeat (first | assumption | exact Ext.rf _ | apply Ext.drew | apply Ext.drewN | apply Ext.alloc))⟩
set_option maxRecDepth 100000 in
set_option maxHeartbeats 1000000 in
theorem part_any (a b c : Int) (w : World) (ha : 0 ≤ a ∧ a ≤ 2147483647) (hb : 0 ≤ b ∧ b ≤ 2147483647) (hc : 1 ≤ c ∧ c ≤ 2147483647) :
    Calls Try.prog 109 #[.int .i64 a, .int .i64 b, .int .i64 c] w fun e w' => e = .returned (.tuple #[.int .i64 (a * b / c), .bool true]) ∧ Ext w w' := by
  obtain ⟨ha, ha'⟩ := ha
  obtain ⟨hb, hb'⟩ := hb
  obtain ⟨hc, hc'⟩ := hc
  have hm := mul_bd ha ha' hb hb'
  have wa : IntKind.u64.wrap a = a := wraps_u64 _ ha (by omega)
  have wb : IntKind.u64.wrap b = b := wraps_u64 _ hb (by omega)
  have wc : IntKind.u64.wrap c = c := wraps_u64 _ (by omega) (by omega)
  have M := mul64_any a b
  have D := div64_any (a * b) c
  have hq : 0 ≤ a * b / c ∧ a * b / c ≤ 4611686014132420609 := by
    refine ⟨Int.ediv_nonneg hm.1 (by omega), ?_⟩
    have := Int.ediv_le_self c hm.1
    omega
  have na : decide (a < 0) = false := by simpa using ha
  have nb : decide (b < 0) = false := by simpa using hb
  have nc : decide (c ≤ 0) = false := by simp; omega
  generalize a * b = p at *
  generalize p / c = q at *
  generalize p % c = r at *
  obtain ⟨hm1, hm2⟩ := hm
  obtain ⟨hq1, hq2⟩ := hq
  have wq : IntKind.i64.wrap q = q := IntWalk.i64_in _ (by omega)
  have hcc : decide (c ≤ 0) = false := nc
  have ng : ¬ (9223372036854775807 < q) := by omega
  replace M := Lib.hid M
  replace D := Lib.hid D
  go_enter Try.func109, Try.ntmps109
  go_wp2_with (fail)
  refine (M.out _ ha ha' hb hb').mono ?_
  rintro e w1 ⟨rfl, x1⟩
  go_wp2_with (fail)
  refine (D.out _ hm1 hm2 hc hc').mono ?_
  rintro e w2 ⟨rfl, x2⟩
  go_wp2
  go_ret2
  exact ⟨rfl, Ext.tr x1 x2⟩
def KidsPost (ks : List Int) (err : Int) (w : World) (e : Ending) (w' : World) : Prop := ∃ A c, e = .returned (.tuple #[.slice A ks.length c, .int .i64 err]) ∧ RdI w' A ks ∧ ks.length ≤ c ∧ c ≤ 9223372036854775807 ∧ Ext w w'
set_option maxRecDepth 100000 in
set_option maxHeartbeats 2000000 in
theorem kids_any {base g : Nat} {cap : Int} {l : List Nat} {ws vs bs : List Int} (P : Option Addr) (c : Nat) (p : List Int) (w : World) (H : KernB w base g cap l ws vs bs) (ok : KOk cap l ws vs bs) (hP : RdI w P p) (lp : p.length ≤ 1000000000) :
    Calls Try.prog 15 #[.pointer (some ⟨g, 0, none⟩), .slice P p.length c] w (KidsPost (kidsP cap ws vs p).1 (kidsP cap ws vs p).2 w) := by
  have ST := state_any P c p w H ok hP lp
  have HD := fun W (x : Ext w W) => depth_any W (H.ext x)
  obtain ⟨PA, pc, WA, wc, VA, vc, HA, hc, hB, -, -, ⟨rW, -⟩, -, -⟩ := H
  obtain ⟨okc, l64, lw, lv, lb, sw, sv⟩ := ok
  have c2 : w.cell? ⟨g, 2, none⟩ = some (.slice WA ws.length wc) := hB.cell 2
  have zg := hB.lt
  replace hB := Lib.hid hB
  replace ST := Lib.hid ST
  replace HD := Lib.hid HD
  have HL : ∀ q, stP cap 0 ws vs p = some q → p.length ≤ ws.length := fun q hq => by
    by_cases h : ws.length < p.length
    · rw [stP_long h] at hq; cases hq
    · omega
  have HK : ∀ o, stP cap 0 ws vs p = o → kidsP cap ws vs p = (match o with
    | none => ([], 1)
    | some (room, _) => match ws.drop p.length with
      | [] => ([], 0)
      | u :: _ => if u ≤ room then ([1, 0], 0) else ([0], 0)) := fun o ho => by subst ho; rfl
  replace HL := Lib.hid HL
  replace HK := Lib.hid HK
  obtain ⟨st, hst⟩ : ∃ st, Hid (stP cap 0 ws vs p = st) := ⟨_, rfl⟩
  rw [hst.out] at ST
  have HK2 := HK.out _ hst.out
  clear HK
  rcases st with _ | ⟨room, out⟩
  · rw [HK2]
    clear HK2
    go_enter Try.func15, Try.ntmps15
    go_wp2_with (fail)
    refine ST.out.mono ?_
    rintro e w1 ⟨rfl, x1⟩
    unfold stVal
    go_wp2
    go_ret2
    exact ⟨none, 0, rfl, .inl rfl, by simp, by omega, x1⟩
  · have hle := HL.out _ hst.out
    by_cases hpl : p.length = l.length
    · have hd : ws.drop p.length = [] := List.drop_of_length_le (by omega)
      rw [hd] at HK2
      simp only at HK2
      rw [HK2]
      have hpl' : ((p.length : Int) == (l.length : Int)) = true := by rw [beq_iff_eq]; omega
      clear HK2 hd
      replace hpl := Lib.hid hpl
      replace lw := Lib.hid lw
      replace lv := Lib.hid lv
      replace lb := Lib.hid lb
      go_enter Try.func15, Try.ntmps15
      go_wp2_with (fail)
      refine ST.out.mono ?_
      rintro e w1 ⟨rfl, x1⟩
      unfold stVal
      go_wp2_with (fail)
      refine (HD.out _ x1).mono ?_
      rintro e w2 ⟨rfl, x2⟩
      go_wp2
      go_ret2
      exact ⟨none, 0, rfl, .inl rfl, by simp, by omega, Ext.tr x1 x2⟩
    · have hlt : p.length < ws.length := by omega
      obtain ⟨wb, wo, u, rfl, zu, cu, eu, du⟩ := rW.at hlt
      rw [du.out] at HK2
      simp only at HK2
      have hpl' : ((p.length : Int) == (l.length : Int)) = false := by rw [beq_eq_false_iff_ne]; omega
      replace lw := Lib.hid lw
      replace lv := Lib.hid lv
      replace lb := Lib.hid lb
      by_cases hu : u ≤ room
      · rw [if_pos hu] at HK2
        rw [HK2]
        clear HK2 hpl eu du
        go_enter Try.func15, Try.ntmps15
        go_wp2_with (fail)
        refine ST.out.mono ?_
        rintro e w1 ⟨rfl, x1⟩
        unfold stVal
        go_wp2_with (fail)
        refine (HD.out _ x1).mono ?_
        rintro e w2 ⟨rfl, x2⟩
        have X2 := Ext.tr x1 x2
        have k2 := keepEL X2 zg c2
        have ku := keepEL X2 zu cu
        go_wp2
        go_ret2
        exact ⟨some ⟨w2.heap.size, 0, none⟩, 2, rfl, .blk (.new rfl) rfl, by simp, by omega, X2.alloc _⟩
      · rw [if_neg hu] at HK2
        rw [HK2]
        clear HK2 hpl eu du
        go_enter Try.func15, Try.ntmps15
        go_wp2_with (fail)
        refine ST.out.mono ?_
        rintro e w1 ⟨rfl, x1⟩
        unfold stVal
        go_wp2_with (fail)
        refine (HD.out _ x1).mono ?_
        rintro e w2 ⟨rfl, x2⟩
        have X2 := Ext.tr x1 x2
        have k2 := keepEL X2 zg c2
        have ku := keepEL X2 zu cu
        go_wp2
        go_ret2
        exact ⟨some ⟨w2.heap.size, 0, none⟩, 1, rfl, .blk (.new rfl) rfl, by simp, by omega, X2.alloc _⟩
end Go.Proofs.Ytleckhbmciiooaa
