/-
  An assignment by prices: what a row and a column cost beyond their prices; a way is turned.
-/
import Derived.Test.YtleckhbmciiooaaHungR
import Derived.Test.YtleckhbmciiooaaCostW
namespace Go.Proofs.Ytleckhbmciiooaa
open Go.RowKit Go.ChangeShapes Go.WideShapes Go.ChangeAt Go.Deep

/-- the prices' own cells -/
def PB (w : World) (gp : Nat) (D : Option Addr) (d n N gu gv gh gf : Nat) : Prop :=
  Blk w gp 96 #[.slice D n d, .slice (some ⟨gu, 0, none⟩) N N, .slice (some ⟨gv, 0, none⟩) N N, .slice (some ⟨gh, 0, none⟩) N N, .slice (some ⟨gf, 0, none⟩) N N]
set_option maxRecDepth 100000 in
set_option maxHeartbeats 1000000 in
theorem slack_any {w : World} {gp d n N gu gv gh gf : Nat} {D : Option Addr} {rows : List (List Int)} {u v : Nat → Int} (hP : PB w gp D d n N gu gv gh gf) (hu : Arr w gu N u) (hv : Arr w gv N v)
    (hC : RdE 1 RInts w D rows) (rok : RowsOk rows) (hn : rows.length = n) (hN : N = n + 1) {r c : Nat} (r1 : 1 ≤ r) (r2 : r ≤ n) (c1 : 1 ≤ c) (c2 : c ≤ n) (bu : 0 ≤ u r ∧ u r ≤ 2147483647) (bv : -2147483647 ≤ v c ∧ v c ≤ 0) :
    Calls Try.prog 97 #[.pointer (some ⟨gp, 0, none⟩), .int .i64 r, .int .i64 c] w fun e w' => e = .returned (.int .i64 (costAt rows (r - 1) (c - 1) - u r - v c)) ∧ Ext w w' := by
  subst hn
  obtain ⟨rp, hrp⟩ : ∃ rp, Hid (r - 1 = rp) := ⟨_, rfl⟩
  obtain ⟨cp, hcp⟩ : ∃ cp, Hid (c - 1 = cp) := ⟨_, rfl⟩
  rw [hrp.out, hcp.out]
  have e1 : (r : Int) - 1 = (rp : Int) := by rw [← hrp.out]; omega
  have e2 : (c : Int) - 1 = (cp : Int) := by rw [← hcp.out]; omega
  have w1 : IntKind.i64.wrap ((r : Int) - 1) = (rp : Int) := by rw [e1]; exact IntWalk.i64_in _ (by have := rok.n2; omega)
  have w2 : IntKind.i64.wrap ((c : Int) - 1) = (cp : Int) := by rw [e2]; exact IntWalk.i64_in _ (by have := rok.n2; omega)
  have z1 : rp < rows.length := by rw [← hrp.out]; omega
  have z2 : cp < rows.length := by rw [← hcp.out]; omega
  obtain ⟨cb, cof, rb, ro, d', rfl, k1, k2⟩ := cost_at rok hC z1 z2
  have bc := ends_num rok rp cp z1 z2
  have ku := hu.cell (k := r) (by omega)
  have kv := hv.cell (k := c) (by omega)
  generalize costAt rows rp cp = x at *
  generalize u r = ur at *
  generalize v c = vc at *
  have p0 : w.cell? ⟨gp, 0, none⟩ = some (.slice (some ⟨cb, cof, none⟩) rows.length d) := hP.cell 0
  have p1 : w.cell? ⟨gp, 1, none⟩ = some (.slice (some ⟨gu, 0, none⟩) N N) := hP.cell 1
  have p2 : w.cell? ⟨gp, 2, none⟩ = some (.slice (some ⟨gv, 0, none⟩) N N) := hP.cell 2
  have w3 : IntKind.i64.wrap (x - ur) = x - ur := IntWalk.i64_in _ (by omega)
  have w4 : IntKind.i64.wrap (x - ur - vc) = x - ur - vc := IntWalk.i64_in _ (by omega)
  have q1 : (r : Int) < (N : Int) := by omega
  have q2 : (c : Int) < (N : Int) := by omega
  have q3 : (rp : Int) < (rows.length : Int) := by omega
  have q4 : (cp : Int) < (rows.length : Int) := by omega
  replace hN := Lib.hid hN
  clear hP hu hv hC rok e1 e2 bu bv bc
  go_enter Try.func97, Try.ntmps97
  go_wp2_with (fail)
  go_quiet (fail)
  go_wp2_with (fail)
  go_ret
  exact ⟨rfl, by (repeat (first | assumption | exact Ext.rf _ | apply Ext.drew | apply Ext.drewN | apply Ext.alloc))⟩
/-- which blocks a way turns -/
def PS (gu gv gh gf : Nat) (k : Nat) : Prop := k = gu ∨ k = gv ∨ k = gh ∨ k = gf
set_option maxRecDepth 100000 in
set_option maxHeartbeats 1000000 in
theorem turn_any {w : World} {gp d n N R gu gv gh gf : Nat} {D : Option Addr} {cst : Nat → Nat → Int} {far : Int} {has frm : Nat → Nat} {L : List Nat} {a : Nat} {u v least : Nat → Int}
    (hP : PB w gp D d n N gu gv gh gf) (hh : Arr w gh N fun c => (has c : Int)) (hf : Arr w gf N fun c => (frm c : Int)) (hne : gh ≠ gf) (hN : N = n + 1) (hn : n ≤ 1000)
    (hG : GI n cst far R has L a u v least frm) (ho : HasOk n R has) (ha : has a = 0) :
    Calls Try.prog 62 #[.pointer (some ⟨gp, 0, none⟩), .int .i64 a] w fun e w' => e = .returned (.tuple #[]) ∧ (∃ hs, Arr w' gh N (fun c => (hs c : Int)) ∧ HI n cst R u v hs) ∧ Mod (fun k => k = gh) w w' := by
  have hgp : gp ≠ gh := fun e => hh.ne hP (by decide) e.symm
  have T0 := hG.turn ho ha
  have B0 : BackI n has (L ++ [a]) has a := ⟨⟨L, [], by simp, fun _ _ => rfl⟩⟩
  have la : a ≤ n := hG.le a (by simp)
  replace hG := Lib.hid hG
  replace ho := Lib.hid ho
  replace T0 := Lib.hid T0
  replace B0 := Lib.hid B0
  replace hP := Lib.hid hP
  replace hh := Lib.hid hh
  replace hf := Lib.hid hf
  replace hN := Lib.hid hN
  clear ha
  go_enter Try.func62, Try.ntmps62
  go_wp2_with (fail)
  go_loopw [1] (fun v1 wr => ∃ (hole : Nat) (hs : Nat → Nat), v1 = .int .i64 hole ∧ hole ≤ n ∧ Hid (Arr wr gh N (fun c => (hs c : Int)) ∧ TI n cst R u v hs hole ∧ BackI n has (L ++ [a]) hs hole) ∧ Hid (Mod (fun k => k = gh) w wr)) (fun v1 _ => (L ++ [a]).idxOf (intOf v1).toNat)
  case atStart => exact ⟨a, has, rfl, la, ⟨hh.out, T0.out, B0.out⟩, Mod.rf _⟩
  case round =>
    obtain ⟨wo, rfl⟩ : ∃ wo : World, wo = wr := ⟨_, rfl⟩
    obtain ⟨hole, hs, rfl, hle, HH, HM⟩ := hrel
    by_cases h0 : hole = 0
    · subst h0
      go_wp2_with (fail)
      go_end0
      exact ⟨rfl, ⟨hs, HH.out.1, HH.out.2.1.done hG.out.slack hG.out.neg hG.out.pos hG.out.fresh⟩, HM.out⟩
    · obtain ⟨HA, HT, HB⟩ := HH.out
      obtain ⟨f1, f2, f3, A, B, f4, f5⟩ := hG.out.back ho.out HB HT h0 (has' := fun c => if c = hole then hs (frm hole) else hs c) (fun c => rfl)
      have hP1 : PB wo gp D d n N gu gv gh gf := hP.out.mod HM.out hgp
      have hF1 := hf.out.mod HM.out (fun e => hne e.symm)
      have kf := hF1.cell (k := hole) (by have := hN.out; omega)
      have kh := HA.cell (k := frm hole) (by have := hN.out; omega)
      have fh := HA.free hole
      have S1 := HA.set hole (hs (frm hole) : Int)
      have p3 : wo.cell? ⟨gp, 3, none⟩ = some (.slice (some ⟨gh, 0, none⟩) N N) := hP1.cell 3
      have p4 : wo.cell? ⟨gp, 4, none⟩ = some (.slice (some ⟨gf, 0, none⟩) N N) := hP1.cell 4
      have kh0 := HA.cell (k := hole) (by have := hN.out; omega)
      have S1' : Arr (wo.setCell ⟨gh, hole, none⟩ (.int .i64 (hs (frm hole)))) gh N (fun c => ((if c = hole then hs (frm hole) else hs c : Nat) : Int)) := S1.congr fun i _ => by split <;> rfl
      have FIN := Lib.hid (And.intro S1' (And.intro f2 f3))
      have MM : Hid (Mod (fun k => k = gh) w (wo.setCell ⟨gh, hole, none⟩ (.int .i64 (hs (frm hole))))) := HM.out.set (p := ⟨gh, hole, none⟩) (.inl rfl) _
      have ML : Hid ((L ++ [a]).idxOf (frm hole) < (L ++ [a]).idxOf hole) := by
        have nd := hG.out.nodup
        have h : (L ++ [a]).idxOf (frm hole) < (L ++ [a]).idxOf hole := by
          rw [f4] at nd ⊢
          have h1 : hole ∉ A := fun hm => (List.nodup_append.1 nd).2.2 hole hm hole (by simp) rfl
          rw [List.idxOf_append, if_pos f5, List.idxOf_append, if_neg h1]
          have := List.idxOf_lt_length_of_mem f5
          omega
        exact h
      have q0 : ((hole : Int) != 0) = true := by simp; omega
      have q1 : (hole : Int) < (N : Int) := by have := hN.out; omega
      have q2 : ((frm hole : Nat) : Int) < (N : Int) := by have := hN.out; omega
      clear HA HT HB hF1 hP1 S1 S1' f2 f3 f4 f5 HH HM
      replace f1 := Lib.hid f1
      generalize frm hole = p at *
      generalize hs p = x at *
      go_wp2_with (fail)
      refine wp_region_any (by kernel_rfl) ?_
      change wpAny _ _ _ _ _ _ _ (World.drew _)
      refine wpAny_T (i := 0) (op := Op.move (Operand.tmp 0)) (t := 94) (d := some 14) (v := ?_) rfl (by decide +kernel) (by decide +kernel) (by decide +kernel) (fun _ _ _ h => h) ?_ ?_
      case refine_2 => (intro _; unfold exec2; go_simp; try with_reducible rfl)
      try simp only [Act.put, List.setIfInBounds_toArray, List.set_cons_zero, List.set_cons_succ]
      refine wpAny_T (i := 1) (op := Op.nilCheck (Operand.tmp 14)) (t := 0) (d := some 15) (v := ?_) rfl (by decide +kernel) (by decide +kernel) (by decide +kernel) (fun _ _ _ h => h) ?_ ?_
      case refine_2 => (intro _; unfold exec2; go_simp; try with_reducible rfl)
      try simp only [Act.put, List.setIfInBounds_toArray, List.set_cons_zero, List.set_cons_succ]
      refine wpAny_T (i := 2) (op := Op.fieldAddr 96 (Operand.tmp 15) 3) (t := 0) (d := some 16) (v := ?_) rfl (by decide +kernel) (by decide +kernel) (by decide +kernel) (fun _ _ _ h => h) ?_ ?_
      case refine_2 => (intro _; unfold exec2; go_simp; try with_reducible rfl)
      try simp only [Act.put, List.setIfInBounds_toArray, List.set_cons_zero, List.set_cons_succ]
      refine wpAny_T (i := 4) (op := Op.move (Operand.tmp 1)) (t := 3) (d := some 18) (v := ?_) rfl (by decide +kernel) (by decide +kernel) (by decide +kernel) (fun _ _ _ h => h) ?_ ?_
      case refine_2 => (intro _; unfold exec2; go_simp; try with_reducible rfl)
      try simp only [Act.put, List.setIfInBounds_toArray, List.set_cons_zero, List.set_cons_succ]
      refine wpAny_T (i := 5) (op := Op.move (Operand.tmp 0)) (t := 94) (d := some 19) (v := ?_) rfl (by decide +kernel) (by decide +kernel) (by decide +kernel) (fun _ _ _ h => h) ?_ ?_
      case refine_2 => (intro _; unfold exec2; go_simp; try with_reducible rfl)
      try simp only [Act.put, List.setIfInBounds_toArray, List.set_cons_zero, List.set_cons_succ]
      refine wpAny_T (i := 6) (op := Op.nilCheck (Operand.tmp 19)) (t := 0) (d := some 20) (v := ?_) rfl (by decide +kernel) (by decide +kernel) (by decide +kernel) (fun _ _ _ h => h) ?_ ?_
      case refine_2 => (intro _; unfold exec2; go_simp; try with_reducible rfl)
      try simp only [Act.put, List.setIfInBounds_toArray, List.set_cons_zero, List.set_cons_succ]
      refine wpAny_T (i := 7) (op := Op.fieldAddr 96 (Operand.tmp 20) 3) (t := 0) (d := some 21) (v := ?_) rfl (by decide +kernel) (by decide +kernel) (by decide +kernel) (fun _ _ _ h => h) ?_ ?_
      case refine_2 => (intro _; unfold exec2; go_simp; try with_reducible rfl)
      try simp only [Act.put, List.setIfInBounds_toArray, List.set_cons_zero, List.set_cons_succ]
      refine wpAny_T (i := 9) (op := Op.move (Operand.tmp 4)) (t := 3) (d := some 23) (v := ?_) rfl (by decide +kernel) (by decide +kernel) (by decide +kernel) (fun _ _ _ h => h) ?_ ?_
      case refine_2 => (intro _; unfold exec2; go_simp; try with_reducible rfl)
      try simp only [Act.put, List.setIfInBounds_toArray, List.set_cons_zero, List.set_cons_succ]
      refine wpAny_reads (n := 2) [(3, some 17), (8, some 22), (10, some 24), (11, some 25)] (fun | 3 => .slice (some ⟨gh, 0, none⟩) N N | 8 => .slice (some ⟨gh, 0, none⟩) N N | 10 => .pointer (some ⟨gh, p, none⟩) | 11 => .int .i64 x | _ => undef) #[true, true, true, true, true, true, true, true, true, true, true, true, false, false] (by decide +kernel) ?_ ?_
      · intro pS hpm uS hD K hK
        simp only [List.mem_cons, List.not_mem_nil, or_false] at hpm
        rcases hpm with rfl | rfl | rfl | rfl
        · exact op_ld (T := 22) (x := Operand.tmp 16) (t := 22) (d := some 17) rfl (.pointer (some ⟨gp, 3, none⟩)) (by kernel_rfl) (.slice (some ⟨gh, 0, none⟩) N N) (by go_simp) hK
        · exact op_ld (T := 22) (x := Operand.tmp 21) (t := 22) (d := some 22) rfl (.pointer (some ⟨gp, 3, none⟩)) (by kernel_rfl) (.slice (some ⟨gh, 0, none⟩) N N) (by go_simp) hK
        · exact op_ix (T := 22) (x := Operand.tmp 22) (y := Operand.tmp 23) (t := 0) (d := some 24) rfl (.slice (some ⟨gh, 0, none⟩) N N) (.int .i64 p) (Eq.trans (b := uS 8) (by kernel_rfl) (hD 8 (depIn (by kernel_rfl)))) (by kernel_rfl) (.pointer (some ⟨gh, p, none⟩)) (by go_simp) hK
        · exact op_ld (T := 3) (x := Operand.tmp 24) (t := 3) (d := some 25) rfl (.pointer (some ⟨gh, p, none⟩)) (Eq.trans (b := uS 10) (by kernel_rfl) (hD 10 (depIn (by kernel_rfl)))) (.int .i64 x) (by go_simp) hK
      simp only [putAll, Act.put, List.setIfInBounds_toArray, List.set_cons_zero, List.set_cons_succ]
      refine wpAny_T (i := 12) (op := Op.indexAddr 22 (Operand.tmp 17) (Operand.tmp 18)) (t := 0) (d := some 26) (v := ?_) rfl (by decide +kernel) (by decide +kernel) (by decide +kernel) (fun _ _ _ h => h) ?_ ?_
      case refine_2 => (intro _; unfold exec2; go_simp; try with_reducible rfl)
      try simp only [Act.put, List.setIfInBounds_toArray, List.set_cons_zero, List.set_cons_succ]
      refine wpAny_next 13 (by decide +kernel) (op_st rfl (.pointer (some ⟨gh, hole, none⟩)) (.int .i64 x) (by kernel_rfl) (by kernel_rfl) (by go_simp; rfl) ?_)
      refine wpAny_done (by kernel_rfl) ?_ _
      clear kf kh kh0 fh p3 p4
      generalize wo.setCell ⟨gh, hole, none⟩ (.int .i64 x) = w4 at *
      go_wp2_with (fail)
      go_roundw
      case rel => exact ⟨p, _, rfl, f1.out, ⟨FIN.out.1.ext ((Ext.rf _).drew), FIN.out.2.1, FIN.out.2.2⟩, MM.out.drew⟩
      case measure => exact ML.out
end Go.Proofs.Ytleckhbmciiooaa
