/-
  The document's mound: Pop.
-/
import Derived.Test.YthmjeajfchpdoaaRefB
import Derived.Test.YthmjeajfchpdoaaMoundF
namespace Go.Proofs.Ythmjeajfchpdoaa
open Go.RowKit Go.ChangeShapes Go.WideShapes Go.ChangeAt

/-- no place of the block of heads h leads to block z -/
def Off (w : World) (h z : Nat) : Prop := ∀ (i n c : Nat) (A : Option Addr), w.cell? ⟨h, i, none⟩ = some (.slice A n c) → n ≠ 0 → ∀ b, bl A = some b → b ≠ z
theorem Off.ext {w w' : World} {h z : Nat} (H : Off w h z) (hh : h < w.heap.size) (hx : Ext w w') : Off w' h z := fun i n c A hc hn => H i n c A (by rw [← hx.cells.1 h i hh]; exact hc) hn
theorem flat_ne {l : List It} (h : l.length ≠ 0) : flat l ≠ [] := fun e => by
  have := congrArg List.length e
  rw [flat_len, List.length_nil] at this
  omega
theorem Off.fresh {w : World} {E SE : TypeId} {h z : Nat} {ls : Ls} (H : HeadsAt w E SE h ls) (hz : w.heap.size ≤ z) : Off w h z := by
  obtain ⟨cs, hb, hs, hc⟩ := H
  intro i n c A hcell hn b hbA hbz
  rw [hb.cell] at hcell
  have hi : i < ls.length := by rw [← hs]; exact (Array.getElem?_eq_some_iff.1 hcell).1
  obtain ⟨A', c', h1, h2, _⟩ := hc i ls[i] (List.getElem?_eq_getElem hi)
  rw [hcell] at h1
  injection h1 with h1
  injection h1 with h1 h3 h4
  subst h1
  have := h2.lt (flat_ne (by rw [← h3]; exact hn)) b hbA
  omega
theorem Off.set {w : World} {h z i : Nat} {t : TypeId} {cs : Array Value} (H : Off w h z) (hb : Blk w h t cs) {A : Option Addr} {n c : Nat} (hA : n ≠ 0 → ∀ b, bl A = some b → b ≠ z) : Off (w.setCell ⟨h, i, none⟩ (.slice A n c)) h z := by
  intro j m d B hcell hm
  rw [(hb.set i _).cell, Array.getElem?_setIfInBounds] at hcell
  split at hcell
  · split at hcell
    · injection hcell with hcell
      injection hcell with h1 h2 h3
      subst h1 h2
      exact hA hm
    · cases hcell
  · exact H j m d B (by rw [hb.cell]; exact hcell) hm
/-- a store aside from all lists -/
theorem HeadsAt.aside {w : World} {E SE : TypeId} {h z : Nat} {ls : Ls} {zs : Array Value} (H : HeadsAt w E SE h ls) (U : Off w h z) (hz : Blk w z E zs) (hne : E ≠ SE) (i : Nat) (u : Value) : HeadsAt (w.setCell ⟨z, i, none⟩ u) E SE h ls ∧ Off (w.setCell ⟨z, i, none⟩ u) h z := by
  obtain ⟨cs, hb, hs, hc⟩ := H
  have hm : Mod (fun k => k = z) w (w.setCell ⟨z, i, none⟩ u) := Mod.set (S := fun k => k = z) (p := ⟨z, i, none⟩) (Mod.rf w) (.inl rfl) _
  have hzh : ¬ h = z := fun e => by
    subst e
    exact Blk.ne hz hb hne rfl
  refine ⟨⟨cs, hb.mod hm hzh, hs, fun j l hl => ?_⟩, fun j n c A hcell => U j n c A (by rw [hb.cell, ← (hb.mod hm hzh).cell]; exact hcell)⟩
  obtain ⟨A, c, h1, h2, h3⟩ := hc j l hl
  refine ⟨A, c, h1, ?_, h3⟩
  by_cases hl0 : l.length = 0
  · left
    rw [List.eq_nil_of_length_eq_zero hl0]
    rfl
  · exact h2.keep fun b hb' => hm.block b (h2.lt (flat_ne hl0) b hb') (U j l.length c A (by rw [hb.cell]; exact h1) hl0 b hb')

theorem rpop_empty (g base : Nat) (ls : Ls) (lv : Int) (w : World) (H : RefRep w base g ls lv) (hl : 2 ≤ ls.length) (hl64 : ls.length ≤ 64) (h1 : ls.getD 1 [] = []) :
    Calls Try.prog 48 #[.pointer (some ⟨g, 0, none⟩)] w fun e w' => e = .returned (.tuple #[.agg #[.int .i64 0, .int .i64 0], .bool false]) ∧ Ext w w' := by
  obtain ⟨h, hb, _, _, hH⟩ := H
  have c0 := hb.cell 1
  simp at c0
  have zg := hb.lt
  have zh := hH.lt
  clear hb
  rcases hH.look (i := 1) (by omega) with ⟨hn, A, c, hc⟩ | ⟨p, l, b, off, c, hn, hc, k0, k1, hlc⟩
  · have h2 : ¬ (ls.length : Int) < 2 := by omega
    go_enter Try.func48, Try.ntmps48
    go_wp2_with (fail)
    exact bodyPost_ret (v := .tuple #[.agg #[.int .i64 0, .int .i64 0], .bool false]) (by simp [results, Try.results48, go_sem, *]) rfl ⟨rfl, by repeat (first | assumption | exact Ext.rf _ | apply Ext.alloc | (refine Ext.setNew ?_ (by simp) _))⟩
  · rw [h1] at hn
    exact absurd hn.out (by simp)
theorem keepE {W W' : World} (x : Ext W W') {b o : Nat} {v : Value} (hb : b < W.heap.size) (hc : W.cell? ⟨b, o, none⟩ = some v) : W'.cell? ⟨b, o, none⟩ = some v := (x.cells.1 _ o hb).trans hc
theorem rswap {w : World} {base hh z i k : Nat} {ls : Ls} {A B : Option Addr} {c d : Nat} {l m : List It} (hbh : base ≤ hh) (hH : HeadsAt w 73 109 hh ls) (hO : Off w hh z)
    (hi : ls.getD i [] = l) (hk : ls.getD k [] = m) (hr : RdV w 73 A (flat l)) (hl : l.length ≤ c) (hs : RdV w 73 B (flat m)) (hm : m.length ≤ d)
    (hcA : w.cell? ⟨hh, i, none⟩ = some (.slice A l.length c)) (hcB : w.cell? ⟨hh, k, none⟩ = some (.slice B m.length d)) :
    HeadsAt ((w.setCell ⟨hh, i, none⟩ (.slice B m.length d)).setCell ⟨hh, k, none⟩ (.slice A l.length c)) 73 109 hh (swapP ls i k) ∧
    Off ((w.setCell ⟨hh, i, none⟩ (.slice B m.length d)).setCell ⟨hh, k, none⟩ (.slice A l.length c)) hh z ∧
    ModT base TSR w ((w.setCell ⟨hh, i, none⟩ (.slice B m.length d)).setCell ⟨hh, k, none⟩ (.slice A l.length c)) := by
  have hH0 := hH
  obtain ⟨cs, hb2, _, _⟩ := hH0
  have k1 : ModT base TSR w (w.setCell ⟨hh, i, none⟩ (.slice B m.length d)) := ModT.set w hb2 (by simp) hbh i _
  have hH1 := hH.set (by decide) i hs hm
  have hH2 := hH1.set (by decide) k (hr.modT k1 (by decide)) hl
  refine ⟨?_, (hO.set hb2 (hO k _ _ _ hcB)).set (hb2.set i _) (hO i _ _ _ hcA), k1.tr (ModT.set _ (hb2.set i _) (by simp) hbh k _)⟩
  rw [swapP, hi, hk]
  exact hH2
/-- the result's box is filled -/
theorem rdone {w : World} {base g hh z : Nat} {ls : Ls} {lv : Int} {n : Nat} (hn : n = ls.length) (hbg : base ≤ g) (hbh : base ≤ hh) (hM : Blk w g 108 #[.int .i64 lv, .slice (some ⟨hh, 0, none⟩) n n]) (hH : HeadsAt w 73 109 hh ls) (hO : Off w hh z) {zs : Array Value} (hz : Blk w z 73 zs) (p : It) :
    RefRep ((w.setCell ⟨z, 0, none⟩ (.int .i64 p.1)).setCell ⟨z, 1, none⟩ (.int .i64 p.2)) base g ls lv := by
  subst hn
  have h1 := hH.aside hO hz (by decide) 0 (.int .i64 p.1)
  have h2 := h1.1.aside h1.2 (hz.set 0 _) (by decide) 1 (.int .i64 p.2)
  have hne : g ≠ z := Blk.ne hM hz (by decide)
  exact ⟨hh, (hM.far hne _).far hne _, hbg, hbh, h2.1⟩
theorem rmod {w w' : World} {base z : Nat} (h : ModT base TSR w w') (hz : w.heap.size ≤ z) (u v : Value) : ModT base TSR w ((w'.setCell ⟨z, 0, none⟩ u).setCell ⟨z, 1, none⟩ v) :=
  Mod.set (p := ⟨z, 1, none⟩) (Mod.set (p := ⟨z, 0, none⟩) h (.inr hz) _) (.inr hz) _

set_option maxRecDepth 100000 in
set_option maxHeartbeats 4000000 in
theorem rpop_any (g base n : Nat) (ls : Ls) (lv : Int) (p : It) (l : List It) (w : World) (H : RefRep w base g ls lv) (hn : ls.length = 2 * n) (hn1 : 1 ≤ n) (h32 : n ≤ 32) (h1 : ls.getD 1 [] = p :: l) (hlm : l.length ≤ 2 ^ 40) :
    Calls Try.prog 48 #[.pointer (some ⟨g, 0, none⟩)] w fun e w' => e = .returned (.tuple #[.agg #[.int .i64 p.1, .int .i64 p.2], .bool true]) ∧ RefRep w' base g (sinkP (2 * n) (ls.set 1 l) 1) lv ∧ ModT base TSR w w' := by
  have h1lt : 1 < ls.length := by omega
  have hl1 : ls[1]? = some (p :: l) := by
    have := List.getElem?_eq_getElem h1lt
    rw [getD_nil this] at h1
    rw [this, h1]
  have hgl := (show g < w.heap.size by obtain ⟨h, hb, _⟩ := H; exact hb.lt)
  obtain ⟨hh, hb, hbg, hbh, hH⟩ := H
  obtain ⟨A, c, hcA, hfA, hrA, hlA⟩ := hH.at hl1
  have hhl := hH.lt
  have hW : Ext w ((w.alloc (.cells #[.int .i64 0, .int .i64 0] 73)).alloc (.cells #[.int .i64 p.1, .int .i64 p.2] 73)) := ((Ext.rf _).alloc _).alloc _
  have hBz : Blk ((w.alloc (.cells #[.int .i64 0, .int .i64 0] 73)).alloc (.cells #[.int .i64 p.1, .int .i64 p.2] 73)) w.heap.size 73 #[.int .i64 0, .int .i64 0] := .alloc (.new rfl) _
  have hBx : Blk ((w.alloc (.cells #[.int .i64 0, .int .i64 0] 73)).alloc (.cells #[.int .i64 p.1, .int .i64 p.2] 73)) (w.heap.size + 1) 73 #[.int .i64 p.1, .int .i64 p.2] := .new (by simp)
  obtain ⟨b, off, rfl, hbl, hcc⟩ := (flat_cons p l ▸ hrA).form (by simp)
  have k0 := hcc 0 _ rfl
  have k1 := hcc 1 _ rfl
  rw [Nat.add_zero] at k0
  have c0 := hb.cell 1
  simp at c0
  have hO := Off.fresh hH (Nat.le_refl _)
  have hl2 : ¬ (ls.length : Int) < 2 := by omega
  have h1i : (1 : Int) < (ls.length : Int) := by omega
  have hne : (((l.length : Int) + 1) == 0) = false := by simp; omega
  simp only [List.length_cons] at hcA hlA
  replace hb := Lib.hid hb
  replace hH := Lib.hid hH
  replace hrA := Lib.hid hrA
  replace hl1 := Lib.hid hl1
  replace h1 := Lib.hid h1
  replace hn := Lib.hid hn
  replace hW := Lib.hid hW
  replace hBz := Lib.hid hBz
  replace hBx := Lib.hid hBx
  replace hO := Lib.hid hO
  clear hcc
  go_enter Try.func48, Try.ntmps48
  go_wp2_with (fail)
  generalize (w.alloc (.cells #[.int .i64 0, .int .i64 0] 73)).alloc (.cells #[.int .i64 p.1, .int .i64 p.2] 73) = wr at *
  have c0 := keepE hW.out hgl c0
  have hcA := keepE hW.out hhl hcA
  have hfA := (hW.out.cells.2 _ 1 hhl).trans hfA
  have zg : g < wr.heap.size := by have := hW.out.size; omega
  have zh : hh < wr.heap.size := by have := hW.out.size; omega
  have zz := hBz.out.lt
  clear k0 k1 hl2 hne
  have hbs0 : ∀ u : World, (Instr.buildSlice 109 0 #[]).run Try.prog u = .ok (.slice (some ⟨u.heap.size, 0, none⟩) 0 0) (u.alloc (.cells #[] 73)) := fun u => by go_simp
  obtain ⟨i0, hi, hz0, hz1, hz2⟩ := info_parts ritem_info
  have hsl := run_from Try.underlying109 hi hz1 (some ⟨b, off, none⟩) (l.length + 1) c 1 1 rfl (by omega) hlA
  have hrB : RdV w 73 (if c = 1 then some ⟨b, off, none⟩ else (some (⟨b, off, none⟩ : Addr)).map (·.add (1 * 2))) (flat l) := by
    by_cases hc1 : c = 1
    · have : l = [] := List.eq_nil_of_length_eq_zero (by omega)
      subst this
      exact .inl rfl
    · rw [if_neg hc1]
      have := hrA.out.drop 2
      simpa [flat_cons] using this
  have hrB := hrB.ext hW.out
  have hcB : l.length ≤ c - 1 := by omega
  rw [show l.length + 1 - 1 = l.length by omega] at hsl
  generalize (if c = 1 then some (⟨b, off, none⟩ : Addr) else (some (⟨b, off, none⟩ : Addr)).map (·.add (1 * 2))) = B at *
  replace hrB := Lib.hid hrB
  replace hsl := Lib.hid hsl
  replace hbs0 := Lib.hid hbs0
  replace hz0 := Lib.hid hz0
  replace hz1 := Lib.hid hz1
  replace hz2 := Lib.hid hz2
  replace hi := Lib.hid hi
  refine wp_region_any (by kernel_rfl) ?_
  change wpAny _ _ _ _ _ _ _ (World.drew _)
  refine wpAny_T (i := 0) (op := Op.move (Operand.tmp 0)) (t := 71) (d := some 32) (v := ?_) rfl (by decide +kernel) (by decide +kernel) (by decide +kernel) (fun _ _ _ h => h) ?_ ?_
  case refine_2 => (intro _; unfold exec2; go_simp; try with_reducible rfl)
  try simp only [Act.put, List.setIfInBounds_toArray, List.set_cons_zero, List.set_cons_succ]
  refine wpAny_T (i := 1) (op := Op.nilCheck (Operand.tmp 32)) (t := 0) (d := some 33) (v := ?_) rfl (by decide +kernel) (by decide +kernel) (by decide +kernel) (fun _ _ _ h => h) ?_ ?_
  case refine_2 => (intro _; unfold exec2; go_simp; try with_reducible rfl)
  try simp only [Act.put, List.setIfInBounds_toArray, List.set_cons_zero, List.set_cons_succ]
  refine wpAny_T (i := 2) (op := Op.fieldAddr 108 (Operand.tmp 33) 1) (t := 0) (d := some 34) (v := ?_) rfl (by decide +kernel) (by decide +kernel) (by decide +kernel) (fun _ _ _ h => h) ?_ ?_
  case refine_2 => (intro _; unfold exec2; go_simp; try with_reducible rfl)
  try simp only [Act.put, List.setIfInBounds_toArray, List.set_cons_zero, List.set_cons_succ]
  refine wpAny_T (i := 5) (op := Op.move (Operand.tmp 0)) (t := 71) (d := some 37) (v := ?_) rfl (by decide +kernel) (by decide +kernel) (by decide +kernel) (fun _ _ _ h => h) ?_ ?_
  case refine_2 => (intro _; unfold exec2; go_simp; try with_reducible rfl)
  try simp only [Act.put, List.setIfInBounds_toArray, List.set_cons_zero, List.set_cons_succ]
  refine wpAny_T (i := 6) (op := Op.nilCheck (Operand.tmp 37)) (t := 0) (d := some 38) (v := ?_) rfl (by decide +kernel) (by decide +kernel) (by decide +kernel) (fun _ _ _ h => h) ?_ ?_
  case refine_2 => (intro _; unfold exec2; go_simp; try with_reducible rfl)
  try simp only [Act.put, List.setIfInBounds_toArray, List.set_cons_zero, List.set_cons_succ]
  refine wpAny_T (i := 7) (op := Op.fieldAddr 108 (Operand.tmp 38) 1) (t := 0) (d := some 39) (v := ?_) rfl (by decide +kernel) (by decide +kernel) (by decide +kernel) (fun _ _ _ h => h) ?_ ?_
  case refine_2 => (intro _; unfold exec2; go_simp; try with_reducible rfl)
  try simp only [Act.put, List.setIfInBounds_toArray, List.set_cons_zero, List.set_cons_succ]
  refine wpAny_core (n := 2) [(3, some 35), (4, some 36), (8, some 40), (9, some 41), (10, some 42), (11, some 43), (12, some 44)] (Ext wr)
    (VF (fun | 3 => some (.slice (some ⟨hh, 0, none⟩) ls.length ls.length) | 8 => some (.slice (some ⟨hh, 0, none⟩) ls.length ls.length) | 9 => some (.pointer (some ⟨hh, 1, none⟩)) | 10 => some (.slice (some ⟨b, off, none⟩) (l.length + 1) c) | 11 => some (.slice B l.length (c - 1)) | _ => none)
      (fun i v W => (i = 4 → ∃ q, v = .slice (some ⟨q, 0, none⟩) 0 0 ∧ Blk W q 73 #[] ∧ w.heap.size < q) ∧ (i = 12 → ∃ A3 c3, v = .slice A3 l.length c3 ∧ RdV W 73 A3 (flat l) ∧ l.length ≤ c3 ∧ ∀ k, bl A3 = some k → w.heap.size < k)))
    Ext #[true, true, true, true, true, true, true, true, true, true, true, true, true, false, false] (by kernel_rfl) (VF.stab ?_) ?_ ?_ ((Ext.rf _).drew)
  · intro j v W W' _ ⟨g6, g14⟩ hx
    refine ⟨fun h => ?_, fun h => ?_⟩
    · obtain ⟨q, q1, q2, q3⟩ := g6 h
      exact ⟨q, q1, q2.ext hx, q3⟩
    · obtain ⟨A3, c3, q1, q2, q3⟩ := g14 h
      exact ⟨A3, c3, q1, q2.ext hx, q3⟩
  · intro pq hpm u w2 hR hD K hK
    have r0 := (hR.cells.1 _ 1 zg).trans c0
    have r2 := (hR.cells.1 _ 1 zh).trans hcA
    have z2 := hR.size
    simp only [List.mem_cons, List.not_mem_nil, or_false] at hpm
    rcases hpm with rfl | rfl | rfl | rfl | rfl | rfl | rfl
    · exact op_ld (T := 106) rfl (.pointer (some ⟨g, 1, none⟩)) (by kernel_rfl) (.slice (some ⟨hh, 0, none⟩) ls.length ls.length) (by go_simp) (hK _ _ (VF.mk rfl) hR (Ext.rf _))
    · exact op_bs0 rfl _ (hbs0.out _) (hK _ _ (VF.mg rfl ⟨fun _ => ⟨_, rfl, .new rfl, by omega⟩, (fun h => by cases h)⟩) (hR.alloc _) ((Ext.rf _).alloc _))
    · exact op_ld (T := 106) rfl (.pointer (some ⟨g, 1, none⟩)) (by kernel_rfl) (.slice (some ⟨hh, 0, none⟩) ls.length ls.length) (by go_simp) (hK _ _ (VF.mk rfl) hR (Ext.rf _))
    · have h8 := (hD 8 (depIn (by kernel_rfl))).k rfl
      exact op_ix (T := 106) rfl _ (.int .i64 1) (Eq.trans (b := u 8) (by kernel_rfl) h8) (by kernel_rfl) (.pointer (some ⟨hh, 1, none⟩)) (by go_simp) (hK _ _ (VF.mk rfl) hR (Ext.rf _))
    · have h9 := (hD 9 (depIn (by kernel_rfl))).k rfl
      exact op_ld (T := 109) rfl _ (Eq.trans (b := u 9) (by kernel_rfl) h9) (.slice (some ⟨b, off, none⟩) (l.length + 1) c) (by go_simp) (hK _ _ (VF.mk rfl) hR (Ext.rf _))
    · have h10 := (hD 10 (depIn (by kernel_rfl))).k rfl
      exact op_run (op := .slice 109 (.tmp 42) (some (.const (.int .i64 1))) none none) rfl _ (yield_from (Eq.trans (b := u 10) (by kernel_rfl) h10) (by kernel_rfl) hsl.out _) (hK _ _ (VF.mk rfl) hR (Ext.rf _))
    · have h11 := (hD 11 (depIn (by kernel_rfl))).k rfl
      obtain ⟨q, h4, hq, hqz⟩ := ((hD 4 (depIn (by kernel_rfl))).g rfl).1 rfl
      obtain ⟨A3, c3, w3, hrun, h3, x3⟩ := run_fresh_v w2 (e := 73) Try.underlying109 hi.out hz0.out hz1.out hz2.out (by simp [Value.cells]) (by omega) (w.heap.size + 1) 109 q 0 #[] B l.length (c - 1) (flat l) hq (by omega) (by simp) (hrB.out.ext hR).rdC (flat_len l) (flat_one l) (by simp only [maxLen]; omega) (by omega)
      rw [Nat.zero_add] at hrun h3
      exact op_app rfl _ _ (Eq.trans (b := u 4) (by kernel_rfl) h4) (Eq.trans (b := u 11) (by kernel_rfl) h11) _ hrun (hK _ _ (VF.mg rfl ⟨(fun h => by cases h), fun _ => ⟨_, _, rfl, by simpa using h3.read, h3.le.1, fun k hk => (h3.lt k hk).1⟩⟩) (hR.tr x3) x3)
  · intro u w3 hR hV
    have h3 := (hV (3, some 35) (by simp)).k rfl
    have h8 := (hV (8, some 40) (by simp)).k rfl
    have h9 := (hV (9, some 41) (by simp)).k rfl
    have h10 := (hV (10, some 42) (by simp)).k rfl
    have h11 := (hV (11, some 43) (by simp)).k rfl
    obtain ⟨qq, h4, hqq⟩ := ((hV (4, some 36) (by simp)).g rfl).1 rfl
    obtain ⟨A3, c3, h12, q1, q2, q3⟩ := ((hV (12, some 44) (by simp)).g rfl).2 rfl
    simp only [putAll, h3, h4, h8, h9, h10, h11, h12]
    clear h3 h4 h8 h9 h10 h11 h12 hV hqq
    have m3 := (hR.cells.1 _ 1 zh).trans hcA
    have f3 := (hR.cells.2 _ 1 zh).trans hfA
    have HB := hb.out.ext (hW.out.tr hR)
    have HH0 := hH.out.ext (hW.out.tr hR)
    have OO := hO.out.ext hhl (hW.out.tr hR)
    obtain ⟨cs0, hb20, _, _⟩ := id HH0
    have M0 : ModT base TSR w (w3.setCell ⟨hh, 1, none⟩ (.slice A3 l.length c3)) := (ModT.of_ext (hW.out.tr hR)).tr (ModT.set w3 hb20 (by simp) hbh 1 _)
    have M3 : ModT base TSR w3 (w3.setCell ⟨hh, 1, none⟩ (.slice A3 l.length c3)) := ModT.set w3 hb20 (by simp) hbh 1 _
    have HM := Lib.hid (HB.modT M3 (by decide))
    have HH := Lib.hid (HH0.set (by decide) 1 q1 q2)
    have HO := Lib.hid (OO.set (i := 1) (A := A3) (n := l.length) (c := c3) hb20 (fun _ k hk => by have := q3 k hk; omega))
    have Bz := Lib.hid ((hBz.out.ext hR).modT M3 (by decide))
    have Bx := Lib.hid ((hBx.out.ext hR).modT M3 (by decide))
    clear M3 hb20 HB HH0 OO q1 q2 q3 hrB hsl hbs0 hi hz0 hz1 hz2 hrA hb hH hO hBz hBx c0 hcA hfA
    refine wpAny_T (i := 13) (op := Op.indexAddr 106 (Operand.tmp 35) (Operand.const (Value.int IntKind.i64 1))) (t := 0) (d := some 45) (v := ?_) rfl (by decide +kernel) (by decide +kernel) (by decide +kernel) (fun _ _ _ h => h) ?_ ?_
    case refine_2 => (intro _; unfold exec2; go_simp; try with_reducible rfl)
    try simp only [Act.put, List.setIfInBounds_toArray, List.set_cons_zero, List.set_cons_succ]
    refine wpAny_one 14 (by kernel_rfl) (by kernel_rfl) ?_
    refine op_st rfl (.pointer (some ⟨hh, 1, none⟩)) (.slice A3 l.length c3) (by kernel_rfl) (by kernel_rfl) (by go_simp; rfl) ?_
    go_simp
    generalize w3.setCell ⟨hh, 1, none⟩ (.slice A3 l.length c3) = w4 at *
    have hlen0 : (ls.set 1 l).length = 2 * n := by rw [List.length_set]; exact hn.out
    go_wp2_with fail
    go_loopw [5] (fun i wr => ∃ (k f : Nat) (ls' : Ls), i = .int .i64 k ∧ 1 ≤ k ∧ k < 2 * n ∧ 2 * n ≤ f + k ∧ ls'.length = 2 * n ∧ Hid (Blk wr g 108 #[.int .i64 lv, .slice (some ⟨hh, 0, none⟩) ls.length ls.length]) ∧ Hid (HeadsAt wr 73 109 hh ls') ∧ Hid (Off wr hh w.heap.size) ∧ Hid (Blk wr w.heap.size 73 #[.int .i64 0, .int .i64 0]) ∧ Hid (Blk wr (w.heap.size + 1) 73 #[.int .i64 p.1, .int .i64 p.2]) ∧ Hid (sinkP (2 * n) (ls.set 1 l) 1 = sinkP f ls' k) ∧ ModT base TSR w wr) (fun i _ => 2 * n - (intOf i).toNat)
    case atStart => exact ⟨1, 2 * n, ls.set 1 l, rfl, by omega, by omega, by omega, hlen0, HM, HH, HO, Bz, Bx, rfl, M0⟩
    case round =>
      clear HM HH HO Bz Bx M0 hlen0
      obtain ⟨k, f, ls', rfl, hk1, hk2, hf, hlen, HM, HH, HO, Bz, Bx, hS, hM⟩ := hrel
      have hl64 : ls'.length ≤ 64 := by omega
      have hlls : ls'.length = ls.length := by rw [hlen, hn.out]
      have hdiv : ls'.length / 2 = n := by omega
      have HR : RefRep wr base g ls' lv := ⟨hh, by rw [hlls]; exact HM.out, hbg, hbh, HH.out⟩
      have hzb : w.heap.size ≤ w.heap.size := Nat.le_refl _
      have zx := Bx.out.lt
      have kx0 : wr.cell? ⟨w.heap.size + 1, 0, none⟩ = some (.int .i64 p.1) := Bx.out.cell 0
      have kx1 : wr.cell? ⟨w.heap.size + 1, 1, none⟩ = some (.int .i64 p.2) := Bx.out.cell 1
      have c0 : wr.cell? ⟨g, 1, none⟩ = some (.slice (some ⟨hh, 0, none⟩) ls.length ls.length) := HM.out.cell 1
      rw [hlen] at hlls
      replace hlls := Lib.hid hlls
      by_cases hlt : k < n
      · obtain ⟨f', rfl⟩ : ∃ f', f = f' + 1 := ⟨f - 1, by omega⟩
        have L1 := fun W (h : Ext wr W) => rless_any g base ls' lv (2 * k + 1) (2 * k) W (HR.ext h) hl64 (by omega) (by omega)
        have L2 := fun W (h : Ext wr W) => rless_any g base ls' lv (kidP ls' k) k W (HR.ext h) hl64 (by rw [kidP]; split <;> omega) (by omega)
        have e1 : ((2 * k + 1 : Nat) : Int) = 2 * (k : Int) + 1 := by omega
        have e2 : ((2 * k : Nat) : Int) = 2 * (k : Int) := by omega
        have hki : 2 * (k : Int) < (ls.length : Int) := by have := hn.out; omega
        replace hlen := Lib.hid hlen
        cases hb1 : lessP ls' (2 * k + 1) (2 * k) with
        | true =>
          have hkid : kidP ls' k = 2 * k + 1 := by rw [kidP, hb1]; rfl
          rw [hb1] at L1
          rw [hkid] at L2
          simp only [e1, e2] at L1 L2
          cases hb2 : lessP ls' (2 * k + 1) k with
          | false =>
            have hdone := sinkP_done f' ls' k (by have := hlen.out; omega) (by rw [hkid]; exact hb2)
            rw [hb2] at L2
            replace L1 := Lib.hid L1
            replace L2 := Lib.hid L2
            go_wp2_with (first
              | (go_at_call 67; have hx := x1; refine (L2.out _ hx).mono ?_; rintro e w2 ⟨rfl, x2⟩; have r0 := keepE (x1.tr x2) zx kx0; have r1 := keepE (x1.tr x2) zx kx1; have s0 := (Bz.out.ext (x1.tr x2)).cell 0; have s1 := (Bz.out.ext (x1.tr x2)).cell 1; have t0 := (Bz.out.ext (x1.tr x2)).free 0; have t1 := (Bz.out.ext (x1.tr x2)).free 1)
              | (go_at_call 67; refine (L1.out _ (Ext.rf _)).mono ?_; rintro e w1 ⟨rfl, x1⟩))
            have s0 : w2.cell? ⟨w.heap.size, 0, none⟩ = some (.int .i64 0) := s0
            have s1 : w2.cell? ⟨w.heap.size, 1, none⟩ = some (.int .i64 0) := s1
            have FIN := Lib.hid (rdone (by rw [hlen.out, ← hlls.out]) hbg hbh (HM.out.ext (x1.tr x2)) (HH.out.ext (x1.tr x2)) (HO.out.ext HH.out.lt (x1.tr x2)) (Bz.out.ext (x1.tr x2)) p)
            go_wp2_with (fail)
            exact bodyPost_ret (v := .tuple #[.agg #[.int .i64 p.1, .int .i64 p.2], .bool true]) (by simp [results, Try.results48, go_sem, *]) rfl ⟨rfl, by rw [hS.out, hdone]; exact FIN.out, rmod (hM.ext (x1.tr x2)) hzb _ _⟩
          | true =>
            have hstep := sinkP_step f' ls' k (by have := hlen.out; omega) (by rw [hkid]; exact hb2)
            rw [hkid] at hstep
            rw [hb2] at L2
            replace hstep := Lib.hid hstep
            replace L1 := Lib.hid L1
            replace L2 := Lib.hid L2
            replace hkid := Lib.hid hkid
            clear hb1 hb2
            have hkk : 2 * k + 1 < 2 * n := by omega
            have hkl : k < ls'.length := by have := hlen.out; omega
            have hkl2 : 2 * k + 1 < ls'.length := by have := hlen.out; omega
            have hkL1 : k < ls.length := by have := hn.out; omega
            have hkL2 : 2 * k + 1 < ls.length := by have := hn.out; omega
            obtain ⟨lk, hl⟩ : ∃ l, ls'[k]? = some l := ⟨_, List.getElem?_eq_getElem hkl⟩
            obtain ⟨mk, hm⟩ : ∃ m, ls'[2 * k + 1]? = some m := ⟨_, List.getElem?_eq_getElem hkl2⟩
            go_wp2_with (first
              | (go_at_call 67; have hx := x1; refine (L2.out _ hx).mono ?_; rintro e w2 ⟨rfl, x2⟩)
              | (go_at_call 67; refine (L1.out _ (Ext.rf _)).mono ?_; rintro e w1 ⟨rfl, x1⟩))
            have hH := HH.out.ext (x1.tr x2)
            have hb := HM.out.ext (x1.tr x2)
            have hO := HO.out.ext HH.out.lt (x1.tr x2)
            have Bz2 := Bz.out.ext (x1.tr x2)
            have Bx2 := Bx.out.ext (x1.tr x2)
            obtain ⟨A, c, hcA, hfA, hrA, hlA⟩ := hH.at hl
            obtain ⟨B, d, hcB, hfB, hrB, hlB⟩ := hH.at hm
            have c0 := hb.cell 1
            simp at c0
            have hgh : hh ≠ g := by obtain ⟨cs, hb2, _⟩ := hH; exact fun h => Blk.ne hb hb2 (by decide) h.symm
            have XM := hM.ext (x1.tr x2)
            replace hl := Lib.hid hl
            replace hm := Lib.hid hm
            have HS := Lib.hid (rswap (w := w2.drew) (i := k) (k := 2 * k + 1) hbh (hH.ext ((Ext.rf _).drew)) (hO.ext hH.lt ((Ext.rf _).drew)) (getD_nil hl.out) (getD_nil hm.out) (hrA.ext ((Ext.rf _).drew)) hlA (hrB.ext ((Ext.rf _).drew)) hlB hcA hcB)
            have hb3 := Lib.hid hb.drew
            have Bz3 := Lib.hid Bz2.drew
            have Bx3 := Lib.hid Bx2.drew
            replace hb := Lib.hid hb
            replace hH := Lib.hid hH
            replace hO := Lib.hid hO
            replace hrA := Lib.hid hrA
            replace hrB := Lib.hid hrB
            replace Bz2 := Lib.hid Bz2
            replace Bx2 := Lib.hid Bx2
            have hk0 : k ≠ 2 * k + 1 := by omega
            generalize hKK : 2 * k + 1 = KK at *
            have hKe : 2 * (k : Int) + 1 = (KK : Int) := by rw [← hKK]; omega
            simp only [hKe]
            clear e1 e2
            replace hKe := Lib.hid hKe
            replace hKK := Lib.hid hKK
            go_region
            go_wp2_with (fail)
            go_roundw
            case rel => exact ⟨KK, f', swapP ls' k KK, by go_num, by have := hKK.out; omega, hkk, by have := hKK.out; omega, by rw [swapP_len]; exact hlen.out, hb3.out.modT HS.out.2.2 (by decide), HS.out.1, HS.out.2.1, Bz3.out.modT HS.out.2.2 (by decide), Bx3.out.modT HS.out.2.2 (by decide), Lib.hid (hS.out.trans hstep.out), (XM.ext ((Ext.rf _).drew)).tr HS.out.2.2⟩
            case measure => simp [intOf]; have := hKK.out; omega
        | false =>
          have hkid : kidP ls' k = 2 * k := by rw [kidP, hb1]; rfl
          rw [hb1] at L1
          rw [hkid] at L2
          simp only [e1, e2] at L1 L2
          cases hb2 : lessP ls' (2 * k) k with
          | false =>
            have hdone := sinkP_done f' ls' k (by have := hlen.out; omega) (by rw [hkid]; exact hb2)
            rw [hb2] at L2
            replace L1 := Lib.hid L1
            replace L2 := Lib.hid L2
            go_wp2_with (first
              | (go_at_call 67; have hx := x1; refine (L2.out _ hx).mono ?_; rintro e w2 ⟨rfl, x2⟩; have r0 := keepE (x1.tr x2) zx kx0; have r1 := keepE (x1.tr x2) zx kx1; have s0 := (Bz.out.ext (x1.tr x2)).cell 0; have s1 := (Bz.out.ext (x1.tr x2)).cell 1; have t0 := (Bz.out.ext (x1.tr x2)).free 0; have t1 := (Bz.out.ext (x1.tr x2)).free 1)
              | (go_at_call 67; refine (L1.out _ (Ext.rf _)).mono ?_; rintro e w1 ⟨rfl, x1⟩))
            have s0 : w2.cell? ⟨w.heap.size, 0, none⟩ = some (.int .i64 0) := s0
            have s1 : w2.cell? ⟨w.heap.size, 1, none⟩ = some (.int .i64 0) := s1
            have FIN := Lib.hid (rdone (by rw [hlen.out, ← hlls.out]) hbg hbh (HM.out.ext (x1.tr x2)) (HH.out.ext (x1.tr x2)) (HO.out.ext HH.out.lt (x1.tr x2)) (Bz.out.ext (x1.tr x2)) p)
            go_wp2_with (fail)
            exact bodyPost_ret (v := .tuple #[.agg #[.int .i64 p.1, .int .i64 p.2], .bool true]) (by simp [results, Try.results48, go_sem, *]) rfl ⟨rfl, by rw [hS.out, hdone]; exact FIN.out, rmod (hM.ext (x1.tr x2)) hzb _ _⟩
          | true =>
            have hstep := sinkP_step f' ls' k (by have := hlen.out; omega) (by rw [hkid]; exact hb2)
            rw [hkid] at hstep
            rw [hb2] at L2
            replace hstep := Lib.hid hstep
            replace L1 := Lib.hid L1
            replace L2 := Lib.hid L2
            replace hkid := Lib.hid hkid
            clear hb1 hb2
            have hkk : 2 * k < 2 * n := by omega
            have hkl : k < ls'.length := by have := hlen.out; omega
            have hkl2 : 2 * k < ls'.length := by have := hlen.out; omega
            have hkL1 : k < ls.length := by have := hn.out; omega
            have hkL2 : 2 * k < ls.length := by have := hn.out; omega
            obtain ⟨lk, hl⟩ : ∃ l, ls'[k]? = some l := ⟨_, List.getElem?_eq_getElem hkl⟩
            obtain ⟨mk, hm⟩ : ∃ m, ls'[2 * k]? = some m := ⟨_, List.getElem?_eq_getElem hkl2⟩
            go_wp2_with (first
              | (go_at_call 67; have hx := x1; refine (L2.out _ hx).mono ?_; rintro e w2 ⟨rfl, x2⟩)
              | (go_at_call 67; refine (L1.out _ (Ext.rf _)).mono ?_; rintro e w1 ⟨rfl, x1⟩))
            have hH := HH.out.ext (x1.tr x2)
            have hb := HM.out.ext (x1.tr x2)
            have hO := HO.out.ext HH.out.lt (x1.tr x2)
            have Bz2 := Bz.out.ext (x1.tr x2)
            have Bx2 := Bx.out.ext (x1.tr x2)
            obtain ⟨A, c, hcA, hfA, hrA, hlA⟩ := hH.at hl
            obtain ⟨B, d, hcB, hfB, hrB, hlB⟩ := hH.at hm
            have c0 := hb.cell 1
            simp at c0
            have hgh : hh ≠ g := by obtain ⟨cs, hb2, _⟩ := hH; exact fun h => Blk.ne hb hb2 (by decide) h.symm
            have XM := hM.ext (x1.tr x2)
            replace hl := Lib.hid hl
            replace hm := Lib.hid hm
            have HS := Lib.hid (rswap (w := w2.drew) (i := k) (k := 2 * k) hbh (hH.ext ((Ext.rf _).drew)) (hO.ext hH.lt ((Ext.rf _).drew)) (getD_nil hl.out) (getD_nil hm.out) (hrA.ext ((Ext.rf _).drew)) hlA (hrB.ext ((Ext.rf _).drew)) hlB hcA hcB)
            have hb3 := Lib.hid hb.drew
            have Bz3 := Lib.hid Bz2.drew
            have Bx3 := Lib.hid Bx2.drew
            replace hb := Lib.hid hb
            replace hH := Lib.hid hH
            replace hO := Lib.hid hO
            replace hrA := Lib.hid hrA
            replace hrB := Lib.hid hrB
            replace Bz2 := Lib.hid Bz2
            replace Bx2 := Lib.hid Bx2
            have hk0 : k ≠ 2 * k := by omega
            generalize hKK : 2 * k = KK at *
            have hKe : 2 * (k : Int) = (KK : Int) := by rw [← hKK]; omega
            simp only [hKe]
            clear e1 e2
            replace hKe := Lib.hid hKe
            replace hKK := Lib.hid hKK
            go_region
            go_wp2_with (fail)
            go_roundw
            case rel => exact ⟨KK, f', swapP ls' k KK, by go_num, by have := hKK.out; omega, hkk, by have := hKK.out; omega, by rw [swapP_len]; exact hlen.out, hb3.out.modT HS.out.2.2 (by decide), HS.out.1, HS.out.2.1, Bz3.out.modT HS.out.2.2 (by decide), Bx3.out.modT HS.out.2.2 (by decide), Lib.hid (hS.out.trans hstep.out), (XM.ext ((Ext.rf _).drew)).tr HS.out.2.2⟩
            case measure => simp [intOf]; have := hKK.out; omega
      · have hstop := sinkP_stop f ls' k (by omega)
        have FIN := Lib.hid (rdone (by rw [hlen, ← hlls.out]) hbg hbh HM.out HH.out HO.out Bz.out p)
        have s0 : wr.cell? ⟨w.heap.size, 0, none⟩ = some (.int .i64 0) := Bz.out.cell 0
        have s1 : wr.cell? ⟨w.heap.size, 1, none⟩ = some (.int .i64 0) := Bz.out.cell 1
        have t0 := Bz.out.free 0
        have t1 := Bz.out.free 1
        have hki : ¬ 2 * (k : Int) < (ls.length : Int) := by have := hn.out; omega
        replace hlen := Lib.hid hlen
        replace hstop := Lib.hid hstop
        go_wp2_with (fail)
        exact bodyPost_ret (v := .tuple #[.agg #[.int .i64 p.1, .int .i64 p.2], .bool true]) (by simp [results, Try.results48, go_sem, *]) rfl ⟨rfl, by rw [hS.out, hstop.out]; exact FIN.out, rmod hM hzb _ _⟩
end Go.Proofs.Ythmjeajfchpdoaa
