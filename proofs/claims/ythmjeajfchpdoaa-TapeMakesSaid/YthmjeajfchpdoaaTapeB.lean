/-
  A tape (the program's and the document's): what it is in memory; New, Pick, Draw, Used.
-/
import Derived.Test.YthmjeajfchpdoaaTapeA
import Derived.Test.YthmjeajfchpdoaaSame
namespace Go.Proofs.Ythmjeajfchpdoaa
open Go.RowKit

/-- block g (of type T) is a tape of picks ps and draws ds, of which p and q were told -/
def TapeRep (T : TypeId) (w : World) (base g : Nat) (ps ds : List Int) (p q : Nat) : Prop :=
  ∃ A c B d, Blk w g T #[.slice A ps.length c, .slice B ds.length d, .int .i64 p, .int .i64 q] ∧ base ≤ g ∧ OwI w base A c ps ∧ OwI w base B d ds
def pickOf (ps : List Int) (p : Nat) (n : Int) : Int := modu (if p < ps.length then ps.getD p 0 else p) n
def drawOf (ds : List Int) (q : Nat) (n : Int) : Int := modu (if q < ds.length then ds.getD q 0 else 0) n

section
variable {T : TypeId} {w w' : World} {base g : Nat} {ps ds : List Int} {p q : Nat}
theorem TapeRep.lt (h : TapeRep T w base g ps ds p q) : g < w.heap.size := by obtain ⟨_, _, _, _, hb, _⟩ := h; exact hb.lt
theorem TapeRep.ge (h : TapeRep T w base g ps ds p q) : base ≤ g := by obtain ⟨_, _, _, _, _, hb, _⟩ := h; exact hb
theorem TapeRep.ext (h : TapeRep T w base g ps ds p q) (he : Ext w w') : TapeRep T w' base g ps ds p q := by
  obtain ⟨A, c, B, d, hb, hge, h1, h2⟩ := h
  exact ⟨A, c, B, d, hb.ext he, hge, h1.ext he, h2.ext he⟩
theorem TapeRep.counts (h : TapeRep T w base g ps ds p q) : w.cell? ⟨g, 2, none⟩ = some (.int .i64 p) ∧ w.cell? ⟨g, 3, none⟩ = some (.int .i64 q) := by
  obtain ⟨A, c, B, d, hb, _⟩ := h
  have h2 := hb.cell 2
  have h3 := hb.cell 3
  simp at h2 h3
  exact ⟨h2, h3⟩
theorem TapeRep.modLow {S : Nat → Prop} (h : TapeRep T w base g ps ds p q) (hm : Mod S w w') (hS : ∀ k, S k → k < base) : TapeRep T w' base g ps ds p q := by
  obtain ⟨A, c, B, d, hb, hge, h1, h2⟩ := h
  exact ⟨A, c, B, d, hb.mod hm (fun hs => by have := hS _ hs; omega), hge, h1.mod hm (fun k hk hs => by have := hS _ hs; have := (h1.lt k hk).1; omega), h2.mod hm (fun k hk hs => by have := hS _ hs; have := (h2.lt k hk).1; omega)⟩
theorem TapeRep.more {base' : Nat} (h : TapeRep T w base g ps ds p q) (hb : base' ≤ base) : TapeRep T w base' g ps ds p q := by
  obtain ⟨A, c, B, d, hb', hge, h1, h2⟩ := h
  exact ⟨A, c, B, d, hb', by omega, h1.more hb, h2.more hb⟩
/-- another tape's block has turned -/
theorem TapeRep.mod {T' : TypeId} {g' base' : Nat} {ps' ds' : List Int} {p' q' : Nat} (h : TapeRep T w base g ps ds p q) (h' : TapeRep T' w base' g' ps' ds' p' q') (hT : T ≠ T') (hT' : T' ≠ 3) (hm : Mod (fun k => k = g') w w') : TapeRep T w' base g ps ds p q := by
  obtain ⟨A, c, B, d, hb, hge, h1, h2⟩ := h
  obtain ⟨_, _, _, _, hb', _⟩ := h'
  exact ⟨A, c, B, d, hb.mod hm (hb.ne hb' hT), hge, h1.mod hm (h1.ne hb' hT'), h2.mod hm (h2.ne hb' hT')⟩
end

theorem tapeNew (A B : Option Addr) (c d : Nat) (ps ds : List Int) (w : World) (hp : RdI w A ps) (hd : RdI w B ds) (lp : ps.length ≤ 2 ^ 44) (ld : ds.length ≤ 2 ^ 44) :
    Calls Try.prog 23 #[.slice A ps.length c, .slice B ds.length d] w fun e w' => ∃ g, e = .returned (.pointer (some ⟨g, 0, none⟩)) ∧ TapeRep 89 w' w.heap.size g ps ds 0 0 ∧ Ext w w' := by
  go_enter Try.func23, Try.ntmps23
  go_wp2_with fail
  refine (clone_any A c ps _ (by exact hp) lp).mono ?_
  rintro e w1 ⟨A1, c1, rfl, h1, e1⟩
  go_wp2_with fail
  refine (clone_any B d ds _ (by exact hd.ext e1) ld).mono ?_
  rintro e w2 ⟨A2, c2, rfl, h2, e2⟩
  go_wp2
  go_ret
  exact ⟨_, rfl, ⟨A1, c1, A2, c2, .new rfl, (e1.tr e2).size, (h1.ext e2).ext ((Ext.rf _).alloc _), (h2.more e1.size).ext ((Ext.rf _).alloc _)⟩, (e1.tr e2).alloc _⟩

/-- tape.Pick of none, or of less than one -/
theorem pick_none (n : Int) (w : World) : Calls Try.prog 21 #[.pointer none, .int .i64 n] w fun e w' => e = .returned (.int .i64 0) ∧ w = w' := by
  go_enter Try.func21, Try.ntmps21
  go_wp2
  go_ret
  exact ⟨rfl, rfl⟩
theorem draw_none (n : Int) (w : World) : Calls Try.prog 22 #[.pointer none, .int .i64 n] w fun e w' => e = .returned (.int .i64 0) ∧ w = w' := by
  go_enter Try.func22, Try.ntmps22
  go_wp2
  go_ret
  exact ⟨rfl, rfl⟩
theorem used_none (w : World) : Calls Try.prog 20 #[.pointer none] w fun e w' => e = .returned (.tuple #[.int .i64 0, .int .i64 0]) ∧ w = w' := by
  go_enter Try.func20, Try.ntmps20
  go_wp2
  go_ret2
  exact ⟨rfl, rfl⟩
theorem pick_low (g : Nat) (n : Int) (w : World) (hn : n < 1) : Calls Try.prog 21 #[.pointer (some ⟨g, 0, none⟩), .int .i64 n] w fun e w' => e = .returned (.int .i64 0) ∧ w = w' := by
  go_enter Try.func21, Try.ntmps21
  go_wp2
  go_ret
  exact ⟨rfl, rfl⟩
theorem draw_low (g : Nat) (n : Int) (w : World) (hn : n < 1) : Calls Try.prog 22 #[.pointer (some ⟨g, 0, none⟩), .int .i64 n] w fun e w' => e = .returned (.int .i64 0) ∧ w = w' := by
  go_enter Try.func22, Try.ntmps22
  go_wp2
  go_ret
  exact ⟨rfl, rfl⟩
theorem used_any (g base : Nat) (ps ds : List Int) (p q : Nat) (w : World) (h : TapeRep 89 w base g ps ds p q) :
    Calls Try.prog 20 #[.pointer (some ⟨g, 0, none⟩)] w fun e w' => e = .returned (.tuple #[.int .i64 p, .int .i64 q]) ∧ Ext w w' := by
  obtain ⟨A, c, B, d, hb, hge, h1, h2⟩ := h
  have c2 := hb.cell 2
  have c3 := hb.cell 3
  simp at c2 c3
  clear hb h1 h2
  go_enter Try.func20, Try.ntmps20
  go_wp2_with (go_quiet (fail))
  go_ret2
  exact ⟨rfl, (Ext.rf _).drewN _⟩

theorem pick_any (g base : Nat) (ps ds : List Int) (p q : Nat) (n : Int) (w : World) (h : TapeRep 89 w base g ps ds p q) (hn : 1 ≤ n ∧ n ≤ 9223372036854775807) (hp : p ≤ 2 ^ 60) (hps : ps.length ≤ 2 ^ 60) :
    Calls Try.prog 21 #[.pointer (some ⟨g, 0, none⟩), .int .i64 n] w fun e w' => e = .returned (.int .i64 (pickOf ps p n)) ∧ TapeRep 89 w' base g ps ds (p + 1) q ∧ Mod (fun k => k = g) w w' := by
  obtain ⟨A, c, B, d, hb, hge, h1, h2⟩ := h
  have c0 := hb.cell 0
  have c2 := hb.cell 2
  have f2 := hb.free 2
  simp at c0 c2
  have hset := Lib.hid (hb.set 2 (.int .i64 ((p : Int) + 1)))
  have hb := Lib.hid hb
  have h1 := Lib.hid h1
  have h2 := Lib.hid h2
  have hmod := Lib.hid (fun u => Mod.set (S := fun k => k = g) (p := ⟨g, 2, none⟩) (Mod.rf w) (.inl rfl) u)
  have hfin : TapeRep 89 (w.setCell ⟨g, 2, none⟩ (.int .i64 ((p : Int) + 1))) base g ps ds (p + 1) q :=
    ⟨A, c, B, d, by simpa using hset.out, hge, h1.out.far hb.out (by decide) _ _, h2.out.far hb.out (by decide) _ _⟩
  have hfin := Lib.hid hfin
  clear hset
  by_cases hlt : p < ps.length
  · obtain ⟨g1, x, rfl, hb1, hlt1, hc1, hf1, hx1, hs1⟩ := h1.out.at hlt
    clear hs1
    go_enter Try.func21, Try.ntmps21
    go_wp2_with (go_at_call 54; refine (modulo_any _ _ _ hn).mono ?_; rintro e w' ⟨rfl, rfl⟩)
    go_ret
    exact ⟨ret_i (by rw [pickOf, if_pos hlt, getD_some hx1.out]), hfin.out, hmod.out _⟩
  · go_enter Try.func21, Try.ntmps21
    go_wp2_with (go_at_call 54; refine (modulo_any _ _ _ hn).mono ?_; rintro e w' ⟨rfl, rfl⟩)
    go_ret
    exact ⟨ret_i (by rw [pickOf, if_neg hlt]), hfin.out, hmod.out _⟩

theorem draw_any (g base : Nat) (ps ds : List Int) (p q : Nat) (n : Int) (w : World) (h : TapeRep 89 w base g ps ds p q) (hn : 1 ≤ n ∧ n ≤ 9223372036854775807) (hq : q ≤ 2 ^ 60) (hds : ds.length ≤ 2 ^ 60) :
    Calls Try.prog 22 #[.pointer (some ⟨g, 0, none⟩), .int .i64 n] w fun e w' => e = .returned (.int .i64 (drawOf ds q n)) ∧ TapeRep 89 w' base g ps ds p (q + 1) ∧ Mod (fun k => k = g) w w' := by
  obtain ⟨A, c, B, d, hb, hge, h1, h2⟩ := h
  have c1 := hb.cell 1
  have c3 := hb.cell 3
  have f3 := hb.free 3
  simp at c1 c3
  have hfin : ∀ nq, TapeRep 89 ((w.drewN nq).setCell ⟨g, 3, none⟩ (.int .i64 ((q : Int) + 1))) base g ps ds p (q + 1) := fun nq =>
    ⟨A, c, B, d, by simpa using (hb.drewN nq).set 3 (.int .i64 ((q : Int) + 1)), hge, (h1.ext ((Ext.rf _).drewN nq)).far (hb.drewN nq) (by decide) _ _, (h2.ext ((Ext.rf _).drewN nq)).far (hb.drewN nq) (by decide) _ _⟩
  have hfin := Lib.hid hfin
  have hmod := Lib.hid (fun nq u => Mod.set (S := fun k => k = g) (p := ⟨g, 3, none⟩) ((Mod.rf w).drewN nq) (.inl rfl) u)
  have h2 := Lib.hid h2
  clear hb h1
  by_cases hlt : q < ds.length
  · obtain ⟨g1, x, rfl, hb1, hlt1, hc1, hf1, hx1, hs1⟩ := h2.out.at hlt
    clear hs1
    go_enter Try.func22, Try.ntmps22
    go_wp2_with (first | (go_at_call 54; refine (modulo_any _ _ _ hn).mono ?_; rintro e w' ⟨rfl, rfl⟩) | go_quiet (fail))
    go_ret
    exact ⟨ret_i (by rw [drawOf, if_pos hlt, getD_some hx1.out]), by first | exact hfin.out _ | (simp only [World.drewN_drewN]; exact hfin.out _), by first | exact hmod.out _ _ | (simp only [World.drewN_drewN]; exact hmod.out _ _)⟩
  · go_enter Try.func22, Try.ntmps22
    go_wp2_with (first | (go_at_call 54; refine (modulo_any _ _ _ hn).mono ?_; rintro e w' ⟨rfl, rfl⟩) | go_quiet (fail))
    go_ret
    exact ⟨ret_i (by rw [drawOf, if_neg hlt]), by first | exact hfin.out _ | (simp only [World.drewN_drewN]; exact hfin.out _), by first | exact hmod.out _ _ | (simp only [World.drewN_drewN]; exact hmod.out _ _)⟩

/-! the document's -/
theorem rpick_low (g : Nat) (n : Int) (w : World) (hn : n < 1) : Calls Try.prog 24 #[.pointer (some ⟨g, 0, none⟩), .int .i64 n] w fun e w' => e = .returned (.int .i64 0) ∧ w = w' := by
  go_enter Try.func24, Try.ntmps24
  go_wp2
  go_ret
  exact ⟨rfl, rfl⟩
theorem rdraw_low (g : Nat) (n : Int) (w : World) (hn : n < 1) : Calls Try.prog 25 #[.pointer (some ⟨g, 0, none⟩), .int .i64 n] w fun e w' => e = .returned (.int .i64 0) ∧ w = w' := by
  go_enter Try.func25, Try.ntmps25
  go_wp2
  go_ret
  exact ⟨rfl, rfl⟩
theorem rpick_any (g base : Nat) (ps ds : List Int) (p q : Nat) (n : Int) (w : World) (h : TapeRep 36 w base g ps ds p q) (hn : 1 ≤ n ∧ n ≤ 9223372036854775807) (hp : p ≤ 2 ^ 60) (hps : ps.length ≤ 2 ^ 60) :
    Calls Try.prog 24 #[.pointer (some ⟨g, 0, none⟩), .int .i64 n] w fun e w' => e = .returned (.int .i64 (pickOf ps p n)) ∧ TapeRep 36 w' base g ps ds (p + 1) q ∧ Mod (fun k => k = g) w w' := by
  obtain ⟨A, c, B, d, hb, hge, h1, h2⟩ := h
  have c0 := hb.cell 0
  have c2 := hb.cell 2
  have f2 := hb.free 2
  simp at c0 c2
  have hfin : ∀ nq, TapeRep 36 ((w.drewN nq).setCell ⟨g, 2, none⟩ (.int .i64 ((p : Int) + 1))) base g ps ds (p + 1) q := fun nq =>
    ⟨A, c, B, d, by simpa using (hb.drewN nq).set 2 (.int .i64 ((p : Int) + 1)), hge, (h1.ext ((Ext.rf _).drewN nq)).far (hb.drewN nq) (by decide) _ _, (h2.ext ((Ext.rf _).drewN nq)).far (hb.drewN nq) (by decide) _ _⟩
  have hfin := Lib.hid hfin
  have hmod := Lib.hid (fun nq u => Mod.set (S := fun k => k = g) (p := ⟨g, 2, none⟩) ((Mod.rf w).drewN nq) (.inl rfl) u)
  have h1 := Lib.hid h1
  clear hb h2
  by_cases hlt : p < ps.length
  · obtain ⟨g1, x, rfl, hb1, hlt1, hc1, hf1, hx1, hs1⟩ := h1.out.at hlt
    clear hs1
    have hm := modu_bd (x := x) hn.1
    unfold modu at hm
    go_enter Try.func24, Try.ntmps24
    go_wp2_with (go_quiet (fail))
    go_ret
    exact ⟨ret_i (by rw [pickOf, if_pos hlt, getD_some hx1.out]; rfl), by first | exact hfin.out _ | (simp only [World.drewN_drewN]; exact hfin.out _), by first | exact hmod.out _ _ | (simp only [World.drewN_drewN]; exact hmod.out _ _)⟩
  · have hs := Lib.hid (modu_nat (x := (p : Int)) (n := n) (by omega) (by omega))
    have hm : 0 ≤ (p : Int) % n ∧ (p : Int) % n < n := ⟨Int.emod_nonneg _ (by omega), Int.emod_lt_of_pos _ (by omega)⟩
    go_enter Try.func24, Try.ntmps24
    go_wp2_with (go_quiet (fail))
    go_ret
    refine ⟨ret_i ?_, by first | exact hfin.out _ | (simp only [World.drewN_drewN]; exact hfin.out _), by first | exact hmod.out _ _ | (simp only [World.drewN_drewN]; exact hmod.out _ _)⟩
    rw [pickOf, if_neg hlt, hs.out]

theorem rdraw_any (g base : Nat) (ps ds : List Int) (p q : Nat) (n : Int) (w : World) (h : TapeRep 36 w base g ps ds p q) (hn : 1 ≤ n ∧ n ≤ 9223372036854775807) (hq : q ≤ 2 ^ 60) (hds : ds.length ≤ 2 ^ 60) :
    Calls Try.prog 25 #[.pointer (some ⟨g, 0, none⟩), .int .i64 n] w fun e w' => e = .returned (.int .i64 (drawOf ds q n)) ∧ TapeRep 36 w' base g ps ds p (q + 1) ∧ Mod (fun k => k = g) w w' := by
  obtain ⟨A, c, B, d, hb, hge, h1, h2⟩ := h
  have c1 := hb.cell 1
  have c3 := hb.cell 3
  have f3 := hb.free 3
  simp at c1 c3
  have hfin : ∀ nq, TapeRep 36 ((w.drewN nq).setCell ⟨g, 3, none⟩ (.int .i64 ((q : Int) + 1))) base g ps ds p (q + 1) := fun nq =>
    ⟨A, c, B, d, by simpa using (hb.drewN nq).set 3 (.int .i64 ((q : Int) + 1)), hge, (h1.ext ((Ext.rf _).drewN nq)).far (hb.drewN nq) (by decide) _ _, (h2.ext ((Ext.rf _).drewN nq)).far (hb.drewN nq) (by decide) _ _⟩
  have hfin := Lib.hid hfin
  have hmod := Lib.hid (fun nq u => Mod.set (S := fun k => k = g) (p := ⟨g, 3, none⟩) ((Mod.rf w).drewN nq) (.inl rfl) u)
  have h2 := Lib.hid h2
  clear hb h1
  by_cases hlt : q < ds.length
  · obtain ⟨g1, x, rfl, hb1, hlt1, hc1, hf1, hx1, hs1⟩ := h2.out.at hlt
    clear hs1
    have hm := modu_bd (x := x) hn.1
    unfold modu at hm
    go_enter Try.func25, Try.ntmps25
    go_wp2_with (go_quiet (fail))
    go_ret
    exact ⟨ret_i (by rw [drawOf, if_pos hlt, getD_some hx1.out]; rfl), by first | exact hfin.out _ | (simp only [World.drewN_drewN]; exact hfin.out _), by first | exact hmod.out _ _ | (simp only [World.drewN_drewN]; exact hmod.out _ _)⟩
  · go_enter Try.func25, Try.ntmps25
    go_wp2_with (go_quiet (fail))
    go_ret
    refine ⟨ret_i ?_, by first | exact hfin.out _ | (simp only [World.drewN_drewN]; exact hfin.out _), by first | exact hmod.out _ _ | (simp only [World.drewN_drewN]; exact hmod.out _ _)⟩
    rw [drawOf, if_neg hlt, modu_zero]

/-- tape.Round -/
theorem round_any (n c : Int) (w : World) :
    Calls Try.prog 16 #[.int .i64 n, .int .i64 c] w fun e w' => ∃ A' c', e = .returned (.slice A' (if favOk n 0 1 c then favL n 0 1 c.toNat else []).length c') ∧ OwI w' w.heap.size A' c' (if favOk n 0 1 c then favL n 0 1 c.toNat else []) ∧ Ext w w' := by
  cases h : favOk n 0 1 c with
  | true =>
    have h := Lib.hid h
    go_enter Try.func16, Try.ntmps16
    go_wp2_with fail
    refine (favor_yes n 0 1 c _ h.out (by decide)).mono ?_
    rintro e w1 ⟨A, d, rfl, h1, e1⟩
    go_wp2
    go_ret
    exact ⟨_, _, rfl, h1, e1⟩
  | false =>
    have h := Lib.hid h
    go_enter Try.func16, Try.ntmps16
    go_wp2_with fail
    refine (favor_no n 0 1 c _ h.out).mono ?_
    rintro e w1 ⟨rfl, rfl⟩
    go_wp2
    go_ret
    exact ⟨_, _, rfl, OwI.nil _ _, Ext.rf _⟩
/-- tape.Favor -/
theorem favor_any (n who every c : Int) (w : World) (he : every ≤ 9223372036854775807) :
    Calls Try.prog 17 #[.int .i64 n, .int .i64 who, .int .i64 every, .int .i64 c] w fun e w' => ∃ A' c', e = .returned (.slice A' (if favOk n who every c then favL n who every c.toNat else []).length c') ∧ OwI w' w.heap.size A' c' (if favOk n who every c then favL n who every c.toNat else []) ∧ Ext w w' := by
  cases h : favOk n who every c with
  | true => exact favor_yes n who every c w h he
  | false =>
    refine (favor_no n who every c w h).mono ?_
    rintro e w1 ⟨rfl, rfl⟩
    exact ⟨_, _, rfl, OwI.nil _ _, Ext.rf _⟩

theorem tapes_any (w : World) : Calls Try.prog 18 #[] w fun e w' => e = .returned (.bool true) ∧ Ext w w' := by
  go_enter Try.func18, Try.ntmps18
  go_wp2_with fail
  refine (tapeNew _ none _ 0 [5, 1] [] _ (by exact .blk (.new (by simp)) rfl) (.inl rfl) (by decide) (by decide)).mono ?_
  rintro e w1 ⟨g, rfl, h1, e1⟩
  have e1 : Ext w w1 := ((Ext.rf w).alloc _).tr e1
  have hg : w.heap.size ≤ g := Nat.le_trans (by simp) h1.ge
  have m1 : Mod (fun k => k = g) w w1 := Mod.of_ext e1
  go_wp2_with fail
  refine (pick_any g _ [5, 1] [] 0 0 3 _ h1 (by decide) (by decide) (by decide)).mono ?_
  rintro e w2 ⟨rfl, h2, m2⟩
  have p1 : pickOf [5, 1] 0 3 = 2 := by decide
  simp only [p1]
  go_wp2_with fail
  refine (pick_any g _ [5, 1] [] (0 + 1) 0 3 _ h2 (by decide) (by decide) (by decide)).mono ?_
  rintro e w3 ⟨rfl, h3, m3⟩
  have p2 : pickOf [5, 1] (0 + 1) 3 = 1 := by decide
  simp only [p2]
  go_wp2_with fail
  refine (pick_any g _ [5, 1] [] (0 + 1 + 1) 0 3 _ h3 (by decide) (by decide) (by decide)).mono ?_
  rintro e w4 ⟨rfl, h4, m4⟩
  have p3 : pickOf [5, 1] (0 + 1 + 1) 3 = 2 := by decide
  simp only [p3]
  go_wp2_with fail
  refine (draw_any g _ [5, 1] [] _ 0 5 _ h4 (by decide) (by decide) (by decide)).mono ?_
  rintro e w5 ⟨rfl, h5, m5⟩
  have p4 : drawOf [] 0 5 = 0 := by decide
  simp only [p4]
  have e5 : Ext w w5 := Mod.below (m1.tr (m2.tr (m3.tr (m4.tr m5)))) (Nat.le_refl _) (by intro k hk; omega)
  clear m1 m2 m3 m4 m5
  go_wp2_with fail
  refine (favor_any 2 1 3 7 _ (by decide)).mono ?_
  have p5 : (if favOk 2 1 3 7 then favL 2 1 3 (7 : Int).toNat else []) = [1, 1, 0, 1, 1, 1, 1] := by decide
  rw [p5]
  rintro e w6 ⟨A, c, rfl, h6, e6⟩
  go_wp2_with fail
  refine (same_any A _ c _ [1, 1, 0, 1, 1, 1, 1] [1, 1, 0, 1, 1, 1, 1] _ (by exact h6.read.ext ((Ext.rf _).alloc _)) (by exact .blk (.new (by simp)) rfl) (by decide) (by decide)).mono ?_
  rintro e w7 ⟨rfl, e7⟩
  go_wp2
  go_ret
  exact ⟨rfl, (e5.tr e6).tr (((Ext.rf _).alloc _).tr e7)⟩
end Go.Proofs.Ythmjeajfchpdoaa
