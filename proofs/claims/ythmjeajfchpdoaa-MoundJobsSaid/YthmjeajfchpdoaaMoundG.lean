/-
  mound: Pop: the least one goes.
-/
import Derived.Test.YthmjeajfchpdoaaMoundF
import Derived.StillTailTactics
namespace Go.Proofs.Ythmjeajfchpdoaa
open Go.RowKit Go.ChangeShapes Go.WideShapes Go.ChangeAt

theorem Und.put {w : World} {g hh top n i : Nat} {v : Value} {cs : Array Value} (U : Und w g top) (hb : Blk w g 101 #[.slice (some ⟨hh, 0, none⟩) n n, v]) (hcs : Blk w hh 82 cs) (V u : Value) (hV : ∀ (b off m d : Nat), V = .slice (some ⟨b, off, none⟩) m d → m ≠ 0 → b < top) :
    Und ((w.setCell ⟨hh, i, none⟩ V).setCell ⟨g, 1, none⟩ u) g top := by
  have hne : g ≠ hh := Blk.ne hb hcs (by decide)
  intro h' n' c' hc cs' hcs' j b off m d hj hm
  have c0 := ((hb.far (p := ⟨hh, i, none⟩) hne V).set 1 u).cell 0
  rw [hc] at c0
  simp at c0
  obtain ⟨rfl, rfl, rfl⟩ := c0
  obtain rfl := Blk.same hcs' ((hcs.set i V).far (p := ⟨g, 1, none⟩) (fun h => hne h.symm) u)
  have hu := U h' _ _ (by rw [hb.cell]; rfl) _ hcs
  rw [Array.getElem?_setIfInBounds] at hj
  split at hj
  · split at hj
    · injection hj with hj
      exact hV b off m d hj hm
    · cases hj
  · exact hu j b off m d hj hm
theorem Und.aside {w : World} {base g top z : Nat} {ls : Ls} {sz : Int} {zs : Array Value} (H : MoundRep w base g ls sz) (U : Und w g top) (hb0 : Blk w z 61 zs) (i : Nat) (u : Value) : Und (w.setCell ⟨z, i, none⟩ u) g top := by
  obtain ⟨h, hb, hbg, hbh, hH⟩ := H
  obtain ⟨cs, hc, hs, hcc⟩ := hH
  have h1 : g ≠ z := Blk.ne hb hb0 (by decide)
  have h2 : h ≠ z := Blk.ne hc hb0 (by decide)
  intro h' n' c' hh cs' hcs' j b off m d hj hm
  have c0 := (hb.far (p := ⟨z, i, none⟩) h1 u).cell 0
  rw [hh] at c0
  simp at c0
  obtain ⟨rfl, rfl, rfl⟩ := c0
  obtain rfl := Blk.same hcs' (hc.far (p := ⟨z, i, none⟩) h2 u)
  exact U h' _ _ (by rw [hb.cell]; rfl) _ hc j b off m d hj hm

theorem pop_none (w : World) : Calls Try.prog 42 #[.pointer none] w fun e w' => e = .returned (.tuple #[.agg #[.int .i64 0, .int .i64 0], .bool false]) ∧ Ext w w' := by
  go_enter Try.func42, Try.ntmps42
  go_wp2_with (fail)
  refine (min_none _).mono ?_
  rintro e w' ⟨rfl, x1⟩
  have j0 : w'.cell? ⟨w.heap.size, 0, none⟩ = some (.int .i64 0) := by rw [x1.cells.1 _ _ (by simp)]; simp
  have j1 : w'.cell? ⟨w.heap.size, 1, none⟩ = some (.int .i64 0) := by rw [x1.cells.1 _ _ (by simp)]; simp
  have jf : w'.frozen? ⟨w.heap.size, 0, none⟩ = false := by rw [x1.cells.2 _ _ (by simp)]; simp
  have jg : w'.frozen? ⟨w.heap.size, 1, none⟩ = false := by rw [x1.cells.2 _ _ (by simp)]; simp
  have jz : w.heap.size < w'.heap.size := by have := x1.size; simp at this; omega
  have y := Ext.tr (a := w) (by (repeat (first | assumption | exact Ext.rf _ | apply Ext.drew | apply Ext.drewN | apply Ext.alloc))) x1
  clear x1
  go_wp2_with (fail)
  exact bodyPost_ret (v := .tuple #[.agg #[.int .i64 0, .int .i64 0], .bool false]) (by simp [results, Try.results42, go_sem, *]) rfl ⟨rfl, by repeat (first | assumption | exact Ext.rf _ | apply Ext.alloc | (refine Ext.setNew ?_ (by simp) _))⟩

theorem pop_empty (g base : Nat) (ls : Ls) (sz : Int) (w : World) (H : MoundRep w base g ls sz) (hl : 2 ≤ ls.length) (hl64 : ls.length ≤ 64) (h1 : ls.getD 1 [] = []) :
    Calls Try.prog 42 #[.pointer (some ⟨g, 0, none⟩)] w fun e w' => e = .returned (.tuple #[.agg #[.int .i64 0, .int .i64 0], .bool false]) ∧ Ext w w' := by
  have K := fun W (h : Ext w W) => min_any g base ls sz W (H.ext h) hl hl64
  have hm : minP ls = ((0, 0), false) := by rw [minP, h1]
  rw [hm] at K
  simp only [itV] at K
  replace K := Lib.hid K
  clear hm h1 hl hl64 H
  go_enter Try.func42, Try.ntmps42
  go_wp2_with (fail)
  refine (K.out _ (by (repeat (first | assumption | exact Ext.rf _ | apply Ext.drew | apply Ext.drewN | apply Ext.alloc)))).mono ?_
  rintro e w' ⟨rfl, x1⟩
  have j0 : w'.cell? ⟨w.heap.size, 0, none⟩ = some (.int .i64 0) := by rw [x1.cells.1 _ _ (by simp)]; simp
  have j1 : w'.cell? ⟨w.heap.size, 1, none⟩ = some (.int .i64 0) := by rw [x1.cells.1 _ _ (by simp)]; simp
  have jf : w'.frozen? ⟨w.heap.size, 0, none⟩ = false := by rw [x1.cells.2 _ _ (by simp)]; simp
  have jg : w'.frozen? ⟨w.heap.size, 1, none⟩ = false := by rw [x1.cells.2 _ _ (by simp)]; simp
  have jz : w.heap.size < w'.heap.size := by have := x1.size; simp at this; omega
  have y := Ext.tr (a := w) (by (repeat (first | assumption | exact Ext.rf _ | apply Ext.drew | apply Ext.drewN | apply Ext.alloc))) x1
  clear x1
  go_wp2_with (fail)
  exact bodyPost_ret (v := .tuple #[.agg #[.int .i64 0, .int .i64 0], .bool false]) (by simp [results, Try.results42, go_sem, *]) rfl ⟨rfl, by repeat (first | assumption | exact Ext.rf _ | apply Ext.alloc | (refine Ext.setNew ?_ (by simp) _))⟩
set_option maxRecDepth 100000 in
set_option maxHeartbeats 2000000 in
theorem pop_any (g base n : Nat) (ls : Ls) (sz : Int) (p : It) (l : List It) (w : World) (H : MoundRep w base g ls sz) (hn : ls.length = 2 * n) (hn1 : 1 ≤ n) (h32 : n ≤ 32) (h1 : ls.getD 1 [] = p :: l) (hsz : 0 ≤ sz ∧ sz ≤ 2 ^ 60) :
    Calls Try.prog 42 #[.pointer (some ⟨g, 0, none⟩)] w fun e w' => e = .returned (.tuple #[.agg #[.int .i64 p.1, .int .i64 p.2], .bool true]) ∧ MoundRep w' base g (sinkP (2 * n) (ls.set 1 l) 1) (sz - 1) ∧ ModT base [101, 82] w w' := by
  have K := fun W (h : Ext w W) => min_any g base ls sz W (H.ext h) (by omega) (by omega)
  have hm : minP ls = (p, true) := by rw [minP, h1]
  rw [hm] at K
  simp only [itV] at K
  replace K := Lib.hid K
  clear hm
  have h1lt : 1 < ls.length := by omega
  have hl1 : ls[1]? = some (p :: l) := by
    have := List.getElem?_eq_getElem h1lt
    rw [getD_nil this] at h1
    rw [this, h1]
  have U := Lib.hid (Und.of H)
  have H0 := Lib.hid H
  obtain ⟨hh, hb, hbg, hbh, hH⟩ := H
  obtain ⟨A, c, hcA, hfA, hrA, hlA⟩ := hH.at hl1
  obtain ⟨b, off, rfl, hbl, hcc⟩ := (flat_cons p l ▸ hrA).form (by simp)
  have c0 := hb.cell 0
  have c1 := hb.cell 1
  have f1 := hb.free 1
  simp at c0 c1
  have hgl := hb.lt
  have hhl := hH.lt
  have hgh : hh ≠ g := by obtain ⟨cs, hb2, _⟩ := hH; exact fun h => Blk.ne hb hb2 (by decide) h.symm
  replace hb := Lib.hid hb
  replace hH := Lib.hid hH
  replace hrA := Lib.hid hrA
  replace hcc := Lib.hid hcc
  replace hl1 := Lib.hid hl1
  replace h1 := Lib.hid h1
  replace hn := Lib.hid hn
  go_enter Try.func42, Try.ntmps42
  go_wp2_with (fail)
  refine (K.out _ (by (repeat (first | assumption | exact Ext.rf _ | apply Ext.drew | apply Ext.drewN | apply Ext.alloc)))).mono ?_
  rintro e w' ⟨rfl, x1⟩
  have bx0 : Blk w' w.heap.size 61 #[.int .i64 0, .int .i64 0] := Blk.ext (.new rfl) x1
  have jf : w'.frozen? ⟨w.heap.size, 0, none⟩ = false := by rw [x1.cells.2 _ _ (by simp)]; simp
  have jg : w'.frozen? ⟨w.heap.size, 1, none⟩ = false := by rw [x1.cells.2 _ _ (by simp)]; simp
  have j0 : w'.cell? ⟨w.heap.size, 0, none⟩ = some (.int .i64 0) := by rw [x1.cells.1 _ _ (by simp)]; simp
  have j1 : w'.cell? ⟨w.heap.size, 1, none⟩ = some (.int .i64 0) := by rw [x1.cells.1 _ _ (by simp)]; simp
  have jz : w.heap.size < w'.heap.size := by have := x1.size; simp at this; omega
  have y := Ext.tr (a := w) (by (repeat (first | assumption | exact Ext.rf _ | apply Ext.drew | apply Ext.drewN | apply Ext.alloc))) x1
  clear x1
  have c0 := (y.cells.1 _ _ hgl).trans c0
  have c1 := (y.cells.1 _ _ hgl).trans c1
  have f1 := (y.cells.2 _ _ hgl).trans f1
  have hcA := (y.cells.1 _ _ hhl).trans hcA
  have hfA := (y.cells.2 _ _ hhl).trans hfA
  have hgl' : g < w'.heap.size := by have := y.size; omega
  have hhl' : hh < w'.heap.size := by have := y.size; omega
  have hll : ∀ B d, RdV w' 61 B (flat l) → l.length ≤ d → (∀ (b off m d' : Nat), Value.slice B l.length d = .slice (some ⟨b, off, none⟩) m d' → m ≠ 0 → b < w.heap.size) →
      ∀ o, MoundRep ((((w'.setCell ⟨hh, 1, none⟩ (.slice B l.length d)).setCell ⟨g, 1, none⟩ (.int .i64 (sz - 1))).alloc o).drew) base g (ls.set 1 l) (sz - 1) ∧
        ModT base [101, 82] w' ((((w'.setCell ⟨hh, 1, none⟩ (.slice B l.length d)).setCell ⟨g, 1, none⟩ (.int .i64 (sz - 1))).alloc o).drew) ∧
        Und ((((w'.setCell ⟨hh, 1, none⟩ (.slice B l.length d)).setCell ⟨g, 1, none⟩ (.int .i64 (sz - 1))).alloc o).drew) g w.heap.size := by
    intro B d hr hd hV o
    have hb' := hb.out.ext y
    have hH' := hH.out.ext y
    have R := put_rep (place := 1) (sz := sz - 1) hb' rfl hbg hbh hH' hr hd
    obtain ⟨cs, hcs, _, _⟩ := hH'
    have X : Ext ((w'.setCell ⟨hh, 1, none⟩ (.slice B l.length d)).setCell ⟨g, 1, none⟩ (.int .i64 (sz - 1))) ((((w'.setCell ⟨hh, 1, none⟩ (.slice B l.length d)).setCell ⟨g, 1, none⟩ (.int .i64 (sz - 1))).alloc o).drew) := ((Ext.rf _).alloc _).drew
    exact ⟨R.ext X, (put_mod 1 hb' hbg hbh (hH.out.ext y) (Ext.rf _) _ _).ext X, (Und.put (U.out.ext H0.out y) hb' hcs _ _ hV).ext R X⟩
  replace hll := Lib.hid hll
  replace bx0 := Lib.hid bx0
  go_wp2_with (fail)
  by_cases hc1 : c = 1
  · subst hc1
    go_region
    go_wp2_with (fail)
    have hl0 : l = [] := by
      have := hlA
      cases l with
      | nil => rfl
      | cons q l => simp at this
    have hll := hll.out (some ⟨b, off, none⟩) 0 (by rw [hl0]; exact .inl rfl) (by rw [hl0]; exact Nat.le_refl _) (by intro b' off' m d' h hm; injection h with h1 h2 h3; subst h2; rw [hl0] at hm; exact absurd rfl hm) (.cells #[.int .i64 p.1, .int .i64 p.2] 61)
    clear hl0
    replace hll := Lib.hid hll
    obtain ⟨R1, M1, U1⟩ := hll.out
    have S := sink_any w.heap.size g base (ls.set 1 l) (sz - 1) 1 n _ R1 (by rw [List.length_set]; exact hn.out) h32 (by omega) (by omega) U1
    rw [show ((1 : Nat) : Int) = 1 from rfl] at S
    refine S.mono ?_
    clear S
    rintro e w3 ⟨rfl, R3, M3, U3⟩
    have bx := (Blk.modT bx0.out M1 (by decide)).modT M3 (by decide)
    have bt : Blk w3 w'.heap.size 61 #[.int .i64 p.1, .int .i64 p.2] := Blk.modT (Blk.drew (.new (by simp))) M3 (by decide)
    have j0 := bx.cell 0
    have j1 := bx.cell 1
    have jf := bx.free 0
    have jg := bx.free 1
    have t0 := bt.cell 0
    have t1 := bt.cell 1
    simp at j0 j1 t0 t1
    have R4 := Lib.hid ((R3.aside U3 (Nat.le_refl _) bx 0 (.int .i64 p.1)).aside (U3.aside R3 bx 0 (.int .i64 p.1)) (Nat.le_refl _) (bx.set 0 (.int .i64 p.1)) 1 (.int .i64 p.2))
    have M4 : ModT base [101, 82] w ((w3.setCell ⟨w.heap.size, 0, none⟩ (.int .i64 p.1)).setCell ⟨w.heap.size, 1, none⟩ (.int .i64 p.2)) :=
      Mod.set (p := ⟨w.heap.size, 1, none⟩) (Mod.set (p := ⟨w.heap.size, 0, none⟩) (((ModT.of_ext y).tr M1).tr M3) (.inr (Nat.le_refl _)) _) (.inr (Nat.le_refl _)) _
    clear R1 M1 U1 R3 M3 U3 bx bt hll
    replace M4 := Lib.hid M4
    go_wp2_with (fail)
    exact bodyPost_ret (v := .tuple #[.agg #[.int .i64 p.1, .int .i64 p.2], .bool true]) (by simp [results, Try.results42, go_sem, *]) rfl ⟨rfl, R4.out, M4.out⟩
  · go_region
    go_wp2_with (fail)
    have hrl : RdV w' 61 (some ⟨b, off + 2, none⟩) (flat l) := by
      have := (hrA.out.drop 2).ext y
      simpa [flat_cons, Addr.add] using this
    have hll := hll.out (some ⟨b, off + 2, none⟩) (c - 1) hrl (by simp at hlA; omega) (by intro b' off' m d' h hm; injection h with h1 h2 h3; injection h1 with h1; injection h1 with h1; subst h1; exact hbl) (.cells #[.int .i64 p.1, .int .i64 p.2] 61)
    clear hrl
    replace hll := Lib.hid hll
    obtain ⟨R1, M1, U1⟩ := hll.out
    have S := sink_any w.heap.size g base (ls.set 1 l) (sz - 1) 1 n _ R1 (by rw [List.length_set]; exact hn.out) h32 (by omega) (by omega) U1
    rw [show ((1 : Nat) : Int) = 1 from rfl] at S
    refine S.mono ?_
    clear S
    rintro e w3 ⟨rfl, R3, M3, U3⟩
    have bx := (Blk.modT bx0.out M1 (by decide)).modT M3 (by decide)
    have bt : Blk w3 w'.heap.size 61 #[.int .i64 p.1, .int .i64 p.2] := Blk.modT (Blk.drew (.new (by simp))) M3 (by decide)
    have j0 := bx.cell 0
    have j1 := bx.cell 1
    have jf := bx.free 0
    have jg := bx.free 1
    have t0 := bt.cell 0
    have t1 := bt.cell 1
    simp at j0 j1 t0 t1
    have R4 := Lib.hid ((R3.aside U3 (Nat.le_refl _) bx 0 (.int .i64 p.1)).aside (U3.aside R3 bx 0 (.int .i64 p.1)) (Nat.le_refl _) (bx.set 0 (.int .i64 p.1)) 1 (.int .i64 p.2))
    have M4 : ModT base [101, 82] w ((w3.setCell ⟨w.heap.size, 0, none⟩ (.int .i64 p.1)).setCell ⟨w.heap.size, 1, none⟩ (.int .i64 p.2)) :=
      Mod.set (p := ⟨w.heap.size, 1, none⟩) (Mod.set (p := ⟨w.heap.size, 0, none⟩) (((ModT.of_ext y).tr M1).tr M3) (.inr (Nat.le_refl _)) _) (.inr (Nat.le_refl _)) _
    clear R1 M1 U1 R3 M3 U3 bx bt hll
    replace M4 := Lib.hid M4
    go_wp2_with (fail)
    exact bodyPost_ret (v := .tuple #[.agg #[.int .i64 p.1, .int .i64 p.2], .bool true]) (by simp [results, Try.results42, go_sem, *]) rfl ⟨rfl, R4.out, M4.out⟩
end Go.Proofs.Ythmjeajfchpdoaa
