/-
  The document's cut: a list of its own, no longer than some.
  The document's Copy of a problem: lists of its own, no longer than some.
-/
import Derived.Test.YtleckhbmciiooaaInst
import Derived.Test.YtleckhbmciiooaaCore
import Derived.Deep.DeepCutAuto
namespace Go.Proofs.Ytleckhbmciiooaa
open Go.RowKit Go.ChangeShapes Go.WideShapes Go.ChangeAt Go.Deep

/-- a list of the call's own, made behind the world w -/
def CutPost (xs : List Int) (n : Nat) (w : World) (e : Ending) (w' : World) : Prop := ∃ A c, e = .returned (.slice A (xs.take n).length c) ∧ OwI w' w.heap.size A c (xs.take n) ∧ Ext w w'
set_option maxRecDepth 100000 in
theorem cut_any (A : Option Addr) (c : Nat) (xs : List Int) (w : World) (hx : RdI w A xs) (ix : Ints xs) (lx : xs.length ≤ c) (lc : c ≤ maxLen) :
    Calls Try.prog 59 #[.slice A xs.length c] w (CutPost xs 70 w) := by
  unfold maxLen at lc
  obtain ⟨ps, hp, ip, lp, lp', kp, ep⟩ := cut_min 70 hx ix
  simp only [Int.cast_ofNat_Int] at ep
  have lpd : ps.length ≤ c := by omega
  replace hp := Lib.hid hp
  clear hx ix
  go_enter Try.func59, Try.ntmps59
  go_wp2_with (at_builtin; refine wpl_copy_i _ rfl _ _ rfl w.heap.size _ ps A c rfl rfl ?_ ?_ ?_ ?_ ?_; (first | exact .new (by simp) | exact .drew (.new (by simp)) | exact .alloc (.new (by simp)) _ | exact .drew (.alloc (.new (by simp)) _) | exact .alloc (.alloc (.new (by simp)) _) _ | exact .drew (.alloc (.alloc (.new (by simp)) _) _) | (repeat (first | assumption | (refine Blk.new ?_; (focus (simp; done))) | apply Blk.drew | apply Blk.drewN | apply Blk.alloc))); (first | exact Nat.le_refl _ | omega | (focus (simp; try omega))); (refine hp.out.ext ?_; (repeat (first | assumption | exact Ext.rf _ | apply Ext.drew | apply Ext.drewN | apply Ext.alloc))); omega; rintro A7 c7 w7 o7 x7; have y7 := Ext.tr (a := w) (by (repeat (first | assumption | exact Ext.rf _ | apply Ext.drew | apply Ext.drewN | apply Ext.alloc))) x7)
  have kq := kp.out
  exact bodyPost_ret (v := .slice A7 ps.length c7) (by simp [results, Try.results59, go_sem]) rfl ⟨A7, c7, by rw [← kq], by rw [← kq]; exact o7, y7⟩
end Go.Proofs.Ytleckhbmciiooaa
namespace Go.Proofs.Ytleckhbmciiooaa
open Go.RowKit Go.ChangeShapes Go.WideShapes Go.ChangeAt Go.Deep

/-- the cells us are these rows, each of the call's own -/
def RowsO (w : World) (base : Nat) (us : List Value) (rows : List (List Int)) : Prop :=
  us.length = rows.length ∧ ∀ (i : Nat) (r : List Int), rows[i]? = some r → ∃ (A : Option Addr) (c : Nat), us[i]? = some (.slice A r.length c) ∧ OwI w base A c r
section
variable {w w' : World} {base : Nat} {us : List Value} {rows : List (List Int)}
theorem RowsO.nil (w : World) (base : Nat) : RowsO w base [] [] := ⟨rfl, fun i r h => by simp at h⟩
theorem RowsO.ext (h : RowsO w base us rows) (hx : Ext w w') : RowsO w' base us rows :=
  ⟨h.1, fun i r hr => by obtain ⟨A, c, h1, h3⟩ := h.2 i r hr; exact ⟨A, c, h1, h3.ext hx⟩⟩
theorem RowsO.more {base' : Nat} (h : RowsO w base us rows) (hb : base' ≤ base) : RowsO w base' us rows :=
  ⟨h.1, fun i r hr => by obtain ⟨A, c, h1, h3⟩ := h.2 i r hr; exact ⟨A, c, h1, h3.more hb⟩⟩
theorem RowsO.modT {base' : Nat} {ts : List TypeId} (h : RowsO w base us rows) (k : ModT base' ts w w') (ht : 3 ∉ ts) : RowsO w' base us rows :=
  ⟨h.1, fun i r hr => by obtain ⟨A, c, h1, h3⟩ := h.2 i r hr; exact ⟨A, c, h1, h3.modT k ht⟩⟩
theorem RowsO.snoc (h : RowsO w base us rows) {r : List Int} {A : Option Addr} {c : Nat} (ho : OwI w base A c r) : RowsO w base (us ++ [.slice A r.length c]) (rows ++ [r]) := by
  obtain ⟨h1, h2⟩ := h
  refine ⟨by simp [h1], fun i q hq => ?_⟩
  by_cases hi : i < rows.length
  · rw [List.getElem?_append_left hi] at hq
    obtain ⟨A', c', q1, q3⟩ := h2 i q hq
    exact ⟨A', c', by rw [List.getElem?_append_left (by omega)]; exact q1, q3⟩
  · rw [List.getElem?_append_right (by omega)] at hq
    obtain ⟨h0, hq⟩ := List.getElem?_eq_some_iff.1 hq
    have : i = rows.length := by simp at h0; omega
    subst this
    simp at hq
    subst hq
    exact ⟨A, c, by rw [List.getElem?_append_right (by omega), h1]; simp, ho⟩
end
/-- no two of these cells are rows of the same block -/
def RowsD (us : List Value) : Prop := ∀ (i j : Nat) (vi vj : Value), i < j → us[i]? = some vi → us[j]? = some vj → ∀ b, vi.ownBlock = some b → vj.ownBlock ≠ some b
theorem RowsD.nil : RowsD [] := fun i j vi vj _ h => by simp at h
theorem RowsD.snoc {w W : World} {base : Nat} {us : List Value} {rows : List (List Int)} {A : Option Addr} {c : Nat} {r : List Int} (h : RowsD us) (hR : RowsO w base us rows) (ho : OwI W w.heap.size A c r) : RowsD (us ++ [.slice A r.length c]) := by
  intro i j vi vj hij hi hj b hb e
  by_cases hjl : j < us.length
  · rw [List.getElem?_append_left hjl] at hj
    rw [List.getElem?_append_left (by omega)] at hi
    exact h i j vi vj hij hi hj b hb e
  · rw [List.getElem?_append_right (by omega)] at hj
    obtain ⟨h0, hj⟩ := List.getElem?_eq_some_iff.1 hj
    have hj' : j = us.length := by simp at h0; omega
    subst hj'
    simp at hj
    subst hj
    rw [List.getElem?_append_left hij] at hi
    obtain ⟨r', hr'⟩ : ∃ r', rows[i]? = some r' := ⟨rows[i]'(by rw [← hR.1]; exact hij), List.getElem?_eq_getElem _⟩
    obtain ⟨A', c', q1, q2⟩ := hR.2 i r' hr'
    rw [hi] at q1
    obtain rfl := Option.some.inj q1
    rw [ownBlock_bl] at hb e
    have h1 := (q2.lt b hb).2
    have h2 := (ho.lt b e).1
    omega
theorem OwV.grownT {w w' : World} {base size n c : Nat} {E : TypeId} {A : Option Addr} {xs : List Value} (h : OwV w base E size A n c xs) (hg : w.grownBy w' (bl A)) : ModT base [E] w w' := by
  refine Mod.grown hg fun g hA => ?_
  rcases h.cases with ⟨rfl, _⟩ | ⟨g', cur, rfl, hb, hh, _⟩
  · simp [bl] at hA
  · simp [bl] at hA
    subst hA
    exact ⟨hb, cur, _, hh, by simp⟩
theorem keepEL {W W' : World} (x : Ext W W') {b o : Nat} {v : Value} (hb : b < W.heap.size) (hc : W.cell? ⟨b, o, none⟩ = some v) : W'.cell? ⟨b, o, none⟩ = some v := (x.cells.1 _ o hb).trans hc

/-- a problem of the call's own -/
def InstO (w : World) (base : Nat) (vs : List Value) (i : InstP) : Prop := ∃ (A : Option Addr) (a : Nat) (B : Option Addr) (b : Nat) (C : Option Addr) (c : Nat) (us : List Value),
  vs = [.int .i64 i.kind, .int .i64 i.n, .int .i64 i.cap, .slice A i.weight.length a, .slice B i.value.length b, .slice C i.cost.length c] ∧
  OwI w base A a i.weight ∧ OwI w base B b i.value ∧ OwV w base 22 1 C i.cost.length c us ∧ RowsO w base us i.cost
/-- a problem of the call's own, no two of whose rows are one -/
def InstOD (w : World) (base : Nat) (vs : List Value) (i : InstP) : Prop := ∃ (A : Option Addr) (a : Nat) (B : Option Addr) (b : Nat) (C : Option Addr) (c : Nat) (us : List Value),
  vs = [.int .i64 i.kind, .int .i64 i.n, .int .i64 i.cap, .slice A i.weight.length a, .slice B i.value.length b, .slice C i.cost.length c] ∧
  OwI w base A a i.weight ∧ OwI w base B b i.value ∧ OwV w base 22 1 C i.cost.length c us ∧ RowsO w base us i.cost ∧ RowsD us
theorem InstOD.o {w : World} {base : Nat} {vs : List Value} {i : InstP} (h : InstOD w base vs i) : InstO w base vs i := by
  obtain ⟨A, a, B, b, C, c, us, h1, h2, h3, h4, h5, _⟩ := h
  exact ⟨A, a, B, b, C, c, us, h1, h2, h3, h4, h5⟩
def cutRow (r : List Int) : List Int := r.take 70
def wantC (rows : List (List Int)) (k : Nat) : List (List Int) := (rows.take k).map cutRow
theorem wantC_len {rows : List (List Int)} {k : Nat} (hk : k ≤ rows.length) : (wantC rows k).length = k := by simp [wantC]; omega
theorem wantC_succ {rows : List (List Int)} {k : Nat} {r : List Int} (h : rows[k]? = some r) : wantC rows (k + 1) = wantC rows k ++ [cutRow r] := by
  obtain ⟨hk, h⟩ := List.getElem?_eq_some_iff.1 h
  rw [wantC, wantC, List.take_succ_eq_append_getElem hk, List.map_append, h]
  rfl
/-- what Copy takes of a problem -/
def copyP (i : InstP) : InstP := ⟨i.kind, i.n, i.cap, i.weight.take 70, i.value.take 70, wantC i.cost (min i.cost.length 30)⟩
def CopyPostD (i : InstP) (w : World) (e : Ending) (w' : World) : Prop := ∃ vs, e = .returned (.agg (List.toArray vs)) ∧ InstOD w' w.heap.size vs (copyP i) ∧ Ext w w'
def CopyPost (i : InstP) (w : World) (e : Ending) (w' : World) : Prop := ∃ vs, e = .returned (.agg (List.toArray vs)) ∧ InstO w' w.heap.size vs (copyP i) ∧ Ext w w'
section
variable {P : Program} {ops : Array Oper} {i : Nat} {op : Op} {t : TypeId} {d : Option Tmp} {a : Act} {w w' : World} {K : Act → World → Prop} {Q : Exit → Act → World → Prop}
/-- a struct of five fields, told -/
theorem op_bld5 {T : TypeId} {x0 x1 x2 x3 x4 : Operand} (hi : opAt ops i = some (none, .build T #[(0, x0), (1, x1), (2, x2), (3, x3), (4, x4)], t, d)) (p0 p1 p2 p3 p4 : Value) (h0 : a.eval x0 = p0) (h1 : a.eval x1 = p1) (h2 : a.eval x2 = p2) (h3 : a.eval x3 = p3) (h4 : a.eval x4 = p4) (v : Value) (hrun : (Instr.build T #[(0, p0), (1, p1), (2, p2), (3, p3), (4, p4)]).run P w = .ok v w') (hK : K (a.put d v) w') : wpOp P ops Q i K a w :=
  op_run hi v (by simp [exec2, execOp, h0, h1, h2, h3, h4, hrun]) hK
end
/-- the six cells of a block, all stored -/
theorem set6 {w : World} {g base : Nat} {t : TypeId} {a0 a1 a2 a3 a4 a5 : Value} (h : Blk w g t #[a0, a1, a2, a3, a4, a5]) (hb : base ≤ g) (u0 u1 u2 u3 u4 u5 : Value) :
    Blk ((((((w.setCell ⟨g, 0, none⟩ u0).setCell ⟨g, 1, none⟩ u1).setCell ⟨g, 2, none⟩ u2).setCell ⟨g, 3, none⟩ u3).setCell ⟨g, 4, none⟩ u4).setCell ⟨g, 5, none⟩ u5) g t #[u0, u1, u2, u3, u4, u5] ∧
    ModT base [t] w ((((((w.setCell ⟨g, 0, none⟩ u0).setCell ⟨g, 1, none⟩ u1).setCell ⟨g, 2, none⟩ u2).setCell ⟨g, 3, none⟩ u3).setCell ⟨g, 4, none⟩ u4).setCell ⟨g, 5, none⟩ u5) := by
  have h0 := h.set 0 u0
  have h1 := h0.set 1 u1
  have h2 := h1.set 2 u2
  have h3 := h2.set 3 u3
  have h4 := h3.set 4 u4
  have h5 := h4.set 5 u5
  exact ⟨h5, (((((ModT.set w h (by simp) hb 0 u0).tr (ModT.set _ h0 (by simp) hb 1 u1)).tr (ModT.set _ h1 (by simp) hb 2 u2)).tr (ModT.set _ h2 (by simp) hb 3 u3)).tr (ModT.set _ h3 (by simp) hb 4 u4)).tr (ModT.set _ h4 (by simp) hb 5 u5)⟩
theorem row_info : (Try.prog.info? 22).map (fun i => (i.zero, i.size, i.bytes)) = some (some (.slice none 0 0), 1, 24) := by kernel_rfl
def CutPost2 (ys : List Int) (w : World) (e : Ending) (w' : World) : Prop := ∃ A c, e = .returned (.slice A ys.length c) ∧ OwI w' w.heap.size A c ys ∧ Ext w w'
theorem cut_any2 {xs ys : List Int} (h : ys = xs.take 70) (A : Option Addr) (c : Nat) (w : World) (hx : RdI w A xs) (ix : Ints xs) (lx : xs.length ≤ c) (lc : c ≤ maxLen) :
    Calls Try.prog 59 #[.slice A xs.length c] w (CutPost2 ys w) := by subst h; exact cut_any A c xs w hx ix lx lc
set_option maxRecDepth 100000 in
set_option maxHeartbeats 2000000 in
theorem copyD_any (vs : List Value) (i : InstP) (w : World) (H : RInst w vs i) :
    Calls Try.prog 9 #[.agg (List.toArray vs)] w (CopyPostD i w) := by
  obtain ⟨A, a, B, b, C, c, rfl, ⟨rA, iA, lA, mA⟩, ⟨rB, iB, lB, mB⟩, ⟨rC, lC, mC⟩⟩ := H
  obtain ⟨xw, exw⟩ : ∃ xw : List Int, Hid (xw = i.weight.take 70) := ⟨_, rfl⟩
  obtain ⟨xv, exv⟩ : ∃ xv : List Int, Hid (xv = i.value.take 70) := ⟨_, rfl⟩
  obtain ⟨i0, hi, hz0, hz1, hz2⟩ := info_parts row_info
  replace hi := Lib.hid hi
  replace hz0 := Lib.hid hz0
  replace hz1 := Lib.hid hz1
  replace hz2 := Lib.hid hz2
  have X : Ext w ((w.alloc (.cells #[.int .i64 i.kind, .int .i64 i.n, .int .i64 i.cap, .slice A i.weight.length a, .slice B i.value.length b, .slice C i.cost.length c] 25)).alloc (.cells #[.int .i64 0, .int .i64 0, .int .i64 0, .slice none 0 0, .slice none 0 0, .slice none 0 0] 25)) := ((Ext.rf _).alloc _).alloc _
  have B1 : Blk ((w.alloc (.cells #[.int .i64 i.kind, .int .i64 i.n, .int .i64 i.cap, .slice A i.weight.length a, .slice B i.value.length b, .slice C i.cost.length c] 25)).alloc (.cells #[.int .i64 0, .int .i64 0, .int .i64 0, .slice none 0 0, .slice none 0 0, .slice none 0 0] 25)) w.heap.size 25 #[.int .i64 i.kind, .int .i64 i.n, .int .i64 i.cap, .slice A i.weight.length a, .slice B i.value.length b, .slice C i.cost.length c] := .alloc (.new rfl) _
  have B2 : Blk ((w.alloc (.cells #[.int .i64 i.kind, .int .i64 i.n, .int .i64 i.cap, .slice A i.weight.length a, .slice B i.value.length b, .slice C i.cost.length c] 25)).alloc (.cells #[.int .i64 0, .int .i64 0, .int .i64 0, .slice none 0 0, .slice none 0 0, .slice none 0 0] 25)) (w.heap.size + 1) 25 #[.int .i64 0, .int .i64 0, .int .i64 0, .slice none 0 0, .slice none 0 0, .slice none 0 0] := .new (by simp)
  replace X := Lib.hid X
  replace B1 := Lib.hid B1
  replace B2 := Lib.hid B2
  replace rA := Lib.hid rA
  replace rB := Lib.hid rB
  replace rC := Lib.hid rC
  replace iA := Lib.hid iA
  replace iB := Lib.hid iB
  replace mA := Lib.hid mA
  replace mB := Lib.hid mB
  replace mC := Lib.hid mC
  go_enter Try.func9, Try.ntmps9
  go_wp2_with (fail)
  generalize (w.alloc (.cells #[.int .i64 i.kind, .int .i64 i.n, .int .i64 i.cap, .slice A i.weight.length a, .slice B i.value.length b, .slice C i.cost.length c] 25)).alloc (.cells #[.int .i64 0, .int .i64 0, .int .i64 0, .slice none 0 0, .slice none 0 0, .slice none 0 0] 25) = wr at *
  have z1 := B1.out.lt
  have zw := X.out.size
  refine wp_region_any (by kernel_rfl) ?_
  change wpAny _ _ _ _ _ _ _ (World.drew _)
  refine wpAny_T (i := 0) (op := Op.fieldAddr 25 (Operand.tmp 1) 0) (t := 0) (d := some 5) (v := ?_) rfl (by decide +kernel) (by decide +kernel) (by decide +kernel) (fun _ _ _ h => h) ?_ ?_
  case refine_2 => (intro _; unfold exec2; go_simp; try with_reducible rfl)
  try simp only [Act.put, List.setIfInBounds_toArray, List.set_cons_zero, List.set_cons_succ]
  refine wpAny_T (i := 2) (op := Op.fieldAddr 25 (Operand.tmp 1) 1) (t := 0) (d := some 7) (v := ?_) rfl (by decide +kernel) (by decide +kernel) (by decide +kernel) (fun _ _ _ h => h) ?_ ?_
  case refine_2 => (intro _; unfold exec2; go_simp; try with_reducible rfl)
  try simp only [Act.put, List.setIfInBounds_toArray, List.set_cons_zero, List.set_cons_succ]
  refine wpAny_T (i := 4) (op := Op.fieldAddr 25 (Operand.tmp 1) 2) (t := 0) (d := some 9) (v := ?_) rfl (by decide +kernel) (by decide +kernel) (by decide +kernel) (fun _ _ _ h => h) ?_ ?_
  case refine_2 => (intro _; unfold exec2; go_simp; try with_reducible rfl)
  try simp only [Act.put, List.setIfInBounds_toArray, List.set_cons_zero, List.set_cons_succ]
  refine wpAny_T (i := 6) (op := Op.fieldAddr 25 (Operand.tmp 1) 3) (t := 0) (d := some 11) (v := ?_) rfl (by decide +kernel) (by decide +kernel) (by decide +kernel) (fun _ _ _ h => h) ?_ ?_
  case refine_2 => (intro _; unfold exec2; go_simp; try with_reducible rfl)
  try simp only [Act.put, List.setIfInBounds_toArray, List.set_cons_zero, List.set_cons_succ]
  refine wpAny_T (i := 9) (op := Op.fieldAddr 25 (Operand.tmp 1) 4) (t := 0) (d := some 14) (v := ?_) rfl (by decide +kernel) (by decide +kernel) (by decide +kernel) (fun _ _ _ h => h) ?_ ?_
  case refine_2 => (intro _; unfold exec2; go_simp; try with_reducible rfl)
  try simp only [Act.put, List.setIfInBounds_toArray, List.set_cons_zero, List.set_cons_succ]
  refine wpAny_core (n := 1) [(1, some 6), (3, some 8), (5, some 10), (7, some 12), (8, some 13), (10, some 15), (11, some 16), (12, some 17), (13, some 3)] (Ext wr)
    (VF (fun | 1 => some (.int .i64 i.kind) | 3 => some (.int .i64 i.n) | 5 => some (.int .i64 i.cap) | 7 => some (.slice A i.weight.length a) | 10 => some (.slice B i.value.length b) | _ => none)
      (fun j v W => (j = 8 → ∃ A' c', v = .slice A' xw.length c' ∧ OwI W wr.heap.size A' c' xw) ∧ (j = 11 → ∃ A' c', v = .slice A' xv.length c' ∧ OwI W wr.heap.size A' c' xv) ∧ (j = 12 → ∃ A' c' B' d', v = .agg #[.int .i64 i.kind, .int .i64 i.n, .int .i64 i.cap, .slice A' xw.length c', .slice B' xv.length d', .slice none 0 0] ∧ OwI W wr.heap.size A' c' xw ∧ OwI W wr.heap.size B' d' xv) ∧ (j = 13 → ∃ h, v = .pointer (some ⟨h, 0, none⟩) ∧ wr.heap.size ≤ h ∧ Blk W h 25 #[.int .i64 0, .int .i64 0, .int .i64 0, .slice none 0 0, .slice none 0 0, .slice none 0 0])))
    Ext #[true, true, true, true, true, true, true, true, true, true, true, true, true, true, false] (by kernel_rfl) (VF.stab ?_) ?_ ?_ ((Ext.rf _).drew)
  · intro j v W W' _ ⟨g8, g11, g12, g13⟩ hx
    refine ⟨fun h => ?_, fun h => ?_, fun h => ?_, fun h => ?_⟩
    · obtain ⟨A', c', q1, q2⟩ := g8 h
      exact ⟨A', c', q1, q2.ext hx⟩
    · obtain ⟨A', c', q1, q2⟩ := g11 h
      exact ⟨A', c', q1, q2.ext hx⟩
    · obtain ⟨A', c', B', d', q1, q2, q3⟩ := g12 h
      exact ⟨A', c', B', d', q1, q2.ext hx, q3.ext hx⟩
    · obtain ⟨hh, q1, q2, q3⟩ := g13 h
      exact ⟨hh, q1, q2, q3.ext hx⟩
  · intro pq hpm u w2 hRW hD K hK
    have b2 := B1.out.ext hRW
    have r0 : w2.cell? ⟨w.heap.size, 0, none⟩ = some (.int .i64 i.kind) := b2.cell 0
    have r1 : w2.cell? ⟨w.heap.size, 1, none⟩ = some (.int .i64 i.n) := b2.cell 1
    have r2 : w2.cell? ⟨w.heap.size, 2, none⟩ = some (.int .i64 i.cap) := b2.cell 2
    have r3 : w2.cell? ⟨w.heap.size, 3, none⟩ = some (.slice A i.weight.length a) := b2.cell 3
    have r4 : w2.cell? ⟨w.heap.size, 4, none⟩ = some (.slice B i.value.length b) := b2.cell 4
    have z2 := hRW.size
    have xe := X.out.tr hRW
    simp only [List.mem_cons, List.not_mem_nil, or_false] at hpm
    rcases hpm with rfl | rfl | rfl | rfl | rfl | rfl | rfl | rfl | rfl
    · exact op_ld (T := 3) rfl (.pointer (some ⟨w.heap.size, 0, none⟩)) (by kernel_rfl) (.int .i64 i.kind) (by go_simp) (hK _ _ (VF.mk rfl) hRW (Ext.rf _))
    · exact op_ld (T := 3) rfl (.pointer (some ⟨w.heap.size, 1, none⟩)) (by kernel_rfl) (.int .i64 i.n) (by go_simp) (hK _ _ (VF.mk rfl) hRW (Ext.rf _))
    · exact op_ld (T := 3) rfl (.pointer (some ⟨w.heap.size, 2, none⟩)) (by kernel_rfl) (.int .i64 i.cap) (by go_simp) (hK _ _ (VF.mk rfl) hRW (Ext.rf _))
    · exact op_ld (T := 22) rfl (.pointer (some ⟨w.heap.size, 3, none⟩)) (by kernel_rfl) (.slice A i.weight.length a) (by go_simp) (hK _ _ (VF.mk rfl) hRW (Ext.rf _))
    · refine op_call rfl #[.slice A i.weight.length a] (by go_simp) (Eq.trans (b := #[u 7]) (by kernel_rfl) (by rw [(hD 7 (depIn (by kernel_rfl))).k rfl])) _ (cut_any2 exw.out A a w2 (rA.out.ext xe) iA.out lA mA.out) ?_
      rintro e w3 ⟨A3, c3, rfl, o3, x3⟩
      exact ⟨_, rfl, hK _ _ (VF.mg rfl ⟨fun _ => ⟨A3, c3, rfl, o3.more z2⟩, (fun h => by cases h), (fun h => by cases h), (fun h => by cases h)⟩) (hRW.tr x3) x3⟩
    · exact op_ld (T := 22) rfl (.pointer (some ⟨w.heap.size, 4, none⟩)) (by kernel_rfl) (.slice B i.value.length b) (by go_simp) (hK _ _ (VF.mk rfl) hRW (Ext.rf _))
    · refine op_call rfl #[.slice B i.value.length b] (by go_simp) (Eq.trans (b := #[u 10]) (by kernel_rfl) (by rw [(hD 10 (depIn (by kernel_rfl))).k rfl])) _ (cut_any2 exv.out B b w2 (rB.out.ext xe) iB.out lB mB.out) ?_
      rintro e w3 ⟨A3, c3, rfl, o3, x3⟩
      exact ⟨_, rfl, hK _ _ (VF.mg rfl ⟨(fun h => by cases h), fun _ => ⟨A3, c3, rfl, o3.more z2⟩, (fun h => by cases h), (fun h => by cases h)⟩) (hRW.tr x3) x3⟩
    · have h1 := (hD 1 (depIn (by kernel_rfl))).k rfl
      have h3 := (hD 3 (depIn (by kernel_rfl))).k rfl
      have h5 := (hD 5 (depIn (by kernel_rfl))).k rfl
      obtain ⟨A3, c3, h8, o8⟩ := ((hD 8 (depIn (by kernel_rfl))).g rfl).1 rfl
      obtain ⟨B3, d3, h11, o11⟩ := ((hD 11 (depIn (by kernel_rfl))).g rfl).2.1 rfl
      exact op_bld5 rfl _ _ _ _ _ (Eq.trans (b := u 1) (by kernel_rfl) h1) (Eq.trans (b := u 3) (by kernel_rfl) h3) (Eq.trans (b := u 5) (by kernel_rfl) h5) (Eq.trans (b := u 8) (by kernel_rfl) h8) (Eq.trans (b := u 11) (by kernel_rfl) h11) (.agg #[.int .i64 i.kind, .int .i64 i.n, .int .i64 i.cap, .slice A3 xw.length c3, .slice B3 xv.length d3, .slice none 0 0]) (by go_simp) (hK _ _ (VF.mg rfl ⟨(fun h => by cases h), (fun h => by cases h), fun _ => ⟨A3, c3, B3, d3, rfl, o8, o11⟩, (fun h => by cases h)⟩) hRW (Ext.rf _))
    · refine op_run rfl (.pointer (some ⟨w2.heap.size, 0, none⟩)) (w' := w2.alloc (.cells #[.int .i64 0, .int .i64 0, .int .i64 0, .slice none 0 0, .slice none 0 0, .slice none 0 0] 25)) ?_ (hK _ _ (VF.mg rfl ⟨(fun h => by cases h), (fun h => by cases h), (fun h => by cases h), fun _ => ⟨_, rfl, z2, .new rfl⟩⟩) (hRW.alloc _) ((Ext.rf _).alloc _))
      unfold exec2
      go_simp
  · intro u w3 hRW hV
    have h1 := (hV (1, some 6) (by simp)).k rfl
    have h3 := (hV (3, some 8) (by simp)).k rfl
    have h5 := (hV (5, some 10) (by simp)).k rfl
    have h7 := (hV (7, some 12) (by simp)).k rfl
    have h10 := (hV (10, some 15) (by simp)).k rfl
    obtain ⟨_, _, h8, _⟩ := ((hV (8, some 13) (by simp)).g rfl).1 rfl
    obtain ⟨_, _, h11, _⟩ := ((hV (11, some 16) (by simp)).g rfl).2.1 rfl
    obtain ⟨A3, c3, B3, d3, h12, o8, o11⟩ := ((hV (12, some 17) (by simp)).g rfl).2.2.1 rfl
    obtain ⟨h, h13, zh, b13⟩ := ((hV (13, some 3) (by simp)).g rfl).2.2.2 rfl
    simp only [putAll, h1, h3, h5, h7, h8, h10, h11, h12, h13]
    have t0 : w3.cell? ⟨h, 0, none⟩ = some (.int .i64 0) := b13.cell 0
    have t1 : w3.cell? ⟨h, 1, none⟩ = some (.int .i64 0) := b13.cell 1
    have t2 : w3.cell? ⟨h, 2, none⟩ = some (.int .i64 0) := b13.cell 2
    have t3 : w3.cell? ⟨h, 3, none⟩ = some (.slice none 0 0) := b13.cell 3
    have t4 : w3.cell? ⟨h, 4, none⟩ = some (.slice none 0 0) := b13.cell 4
    have t5 : w3.cell? ⟨h, 5, none⟩ = some (.slice none 0 0) := b13.cell 5
    have f0 := b13.free 0
    have f1 := b13.free 1
    have f2 := b13.free 2
    have f3 := b13.free 3
    have f4 := b13.free 4
    have f5 := b13.free 5
    replace b13 := Lib.hid b13
    replace o8 := Lib.hid o8
    replace o11 := Lib.hid o11
    clear h1 h3 h5 h7 h8 h10 h11 h12 h13 hV
    refine wpAny_next 14 (by kernel_rfl) (op_st rfl (.pointer (some ⟨h, 0, none⟩)) (.agg #[.int .i64 i.kind, .int .i64 i.n, .int .i64 i.cap, .slice A3 xw.length c3, .slice B3 xv.length d3, .slice none 0 0]) (by kernel_rfl) (by kernel_rfl) (by go_simp; rfl) ?_)
    refine wpAny_done (by kernel_rfl) ?_ _
    obtain ⟨b14, M14⟩ := set6 b13.out (base := wr.heap.size) zh (.int .i64 i.kind) (.int .i64 i.n) (.int .i64 i.cap) (.slice A3 xw.length c3) (.slice B3 xv.length d3) (.slice none 0 0)
    have FIN := Lib.hid (And.intro b14 (And.intro (o8.out.modT M14 (by decide)) (And.intro (o11.out.modT M14 (by decide)) (hRW.modT M14 (Nat.le_refl _)))))
    clear b14 M14 t0 t1 t2 t3 t4 t5 f0 f1 f2 f3 f4 f5 b13 o8 o11 hRW
    generalize ((((((w3.setCell ⟨h, 0, none⟩ (.int .i64 i.kind)).setCell ⟨h, 1, none⟩ (.int .i64 i.n)).setCell ⟨h, 2, none⟩ (.int .i64 i.cap)).setCell ⟨h, 3, none⟩ (.slice A3 xw.length c3)).setCell ⟨h, 4, none⟩ (.slice B3 xv.length d3)).setCell ⟨h, 5, none⟩ (.slice none 0 0)) = w5 at FIN ⊢
    go_simp
    obtain ⟨b3, o8, o11, x3⟩ := FIN.out
    clear FIN
    obtain ⟨w3, rfl⟩ : ∃ w3 : World, w3 = w5 := ⟨_, rfl⟩
    have B1' := Lib.hid (B1.out.ext x3)
    have B2' := Lib.hid (B2.out.ext x3)
    have X3 := Lib.hid (X.out.tr x3)
    have zx := x3.size
    have zb2 := B2.out.lt
    replace b3 := Lib.hid b3
    replace o8 := Lib.hid (o8.more zw)
    replace o11 := Lib.hid (o11.more zw)
    clear X B1 B2 x3 rA rB iA iB mA mB
    go_wp2_with (fail)
    go_loopw [4] (fun v wq => ∃ (k : Nat) (C' : Option Addr) (cc : Nat) (us : List Value), v = .int .i64 k ∧ k ≤ i.cost.length ∧ k ≤ 30 ∧ Hid (Blk wq h 25 #[.int .i64 i.kind, .int .i64 i.n, .int .i64 i.cap, .slice A3 xw.length c3, .slice B3 xv.length d3, .slice C' k cc]) ∧ Hid (Blk wq w.heap.size 25 #[.int .i64 i.kind, .int .i64 i.n, .int .i64 i.cap, .slice A i.weight.length a, .slice B i.value.length b, .slice C i.cost.length c]) ∧ Hid (Blk wq (w.heap.size + 1) 25 #[.int .i64 0, .int .i64 0, .int .i64 0, .slice none 0 0, .slice none 0 0, .slice none 0 0]) ∧ Hid (OwI wq w.heap.size A3 c3 xw) ∧ Hid (OwI wq w.heap.size B3 d3 xv) ∧ Hid (OwV wq w.heap.size 22 1 C' k cc us) ∧ Hid (RowsO wq w.heap.size us (wantC i.cost k)) ∧ Hid (Ext w wq) ∧ Hid (RowsD us)) (fun v _ => 30 - (intOf v).toNat)
    case atStart =>
      exact ⟨0, none, 0, [], rfl, by omega, by omega, b3, B1', B2', o8, o11, OwV.nil _ _ _ _, RowsO.nil _ _, X3, RowsD.nil⟩
    case round =>
      obtain ⟨wo, rfl⟩ : ∃ wo : World, wo = wr := ⟨_, rfl⟩
      clear b3 B1' B2' X3
      obtain ⟨k, C', cc, us, rfl, hk, hk30, b4, B1, B2, p8, p11, oV, oR, X, oD⟩ := hrel
      have zb := B1.out.lt
      have c5 : wo.cell? ⟨w.heap.size, 5, none⟩ = some (.slice C i.cost.length c) := B1.out.cell 5
      by_cases hlt : k < i.cost.length ∧ k < 30
      · obtain ⟨h1, h2⟩ := hlt
        obtain ⟨b', off, cs, r, rfl, hb, ⟨D, d, rfl, hd, id, ld, ld'⟩, _, hcs, hr⟩ := (rC.out.ext X.out (fun cs j h => by obtain ⟨A, c, q1, q2, q3⟩ := h; exact ⟨A, c, q1, q2.ext X.out, q3⟩)).at h1
        have a0 := hcs 0 _ rfl
        rw [Nat.add_zero, Nat.mul_one] at a0
        clear hcs
        have hsn := Lib.hid (wantC_succ hr.out)
        clear hr
        obtain ⟨xr, exr⟩ : ∃ xr : List Int, Hid (xr = r.take 70) := ⟨_, rfl⟩
        have d5 : wo.cell? ⟨h, 5, none⟩ = some (.slice C' k cc) := b4.out.cell 5
        have zh2 := b4.out.lt
        have hbs : ∀ (u : World) (A' : Option Addr) (c' : Nat), (Instr.buildSlice 23 1 #[(0, .slice A' xr.length c')]).run Try.prog u = .ok (.slice (some ⟨u.heap.size, 0, none⟩) 1 1) (u.alloc (.cells #[.slice A' xr.length c'] 22)) := fun u A' c' => by go_simp
        replace hbs := Lib.hid hbs
        replace hd := Lib.hid hd
        replace id := Lib.hid id
        replace ld' := Lib.hid ld'
        unfold maxLen at mC
        have mC' := mC.out
        clear mC
        go_upto_region 5 with (fail)
        refine wp_region_any (by kernel_rfl) ?_
        change wpAny _ _ _ _ _ _ _ (World.drew _)
        refine wpAny_T (i := 0) (op := Op.fieldAddr 25 (Operand.tmp 3) 5) (t := 0) (d := some 29) (v := ?_) rfl (by decide +kernel) (by decide +kernel) (by decide +kernel) (fun _ _ _ h => h) ?_ ?_
        case refine_2 => (intro _; unfold exec2; go_simp; try with_reducible rfl)
        try simp only [Act.put, List.setIfInBounds_toArray, List.set_cons_zero, List.set_cons_succ]
        refine wpAny_T (i := 2) (op := Op.fieldAddr 25 (Operand.tmp 1) 5) (t := 0) (d := some 31) (v := ?_) rfl (by decide +kernel) (by decide +kernel) (by decide +kernel) (fun _ _ _ h => h) ?_ ?_
        case refine_2 => (intro _; unfold exec2; go_simp; try with_reducible rfl)
        try simp only [Act.put, List.setIfInBounds_toArray, List.set_cons_zero, List.set_cons_succ]
        refine wpAny_T (i := 4) (op := Op.move (Operand.tmp 4)) (t := 3) (d := some 33) (v := ?_) rfl (by decide +kernel) (by decide +kernel) (by decide +kernel) (fun _ _ _ h => h) ?_ ?_
        case refine_2 => (intro _; unfold exec2; go_simp; try with_reducible rfl)
        try simp only [Act.put, List.setIfInBounds_toArray, List.set_cons_zero, List.set_cons_succ]
        refine wpAny_core2 (n := 3) [(1, some 30), (3, some 32), (5, some 34), (6, some 35), (7, some 36), (8, some 37)] (Ext wo)
          (VF (fun | 1 => some (.slice C' k cc) | 3 => some (.slice (some ⟨b', off, none⟩) i.cost.length c) | 5 => some (.pointer (some ⟨b', off + k, none⟩)) | 6 => some (.slice D r.length d) | _ => none)
            (fun j v W => (j = 7 → ∃ A' c', v = .slice A' xr.length c' ∧ OwI W wo.heap.size A' c' xr) ∧ (j = 8 → ∃ q A' c', v = .slice (some ⟨q, 0, none⟩) 1 1 ∧ Blk W q 22 #[.slice A' xr.length c'] ∧ OwI W wo.heap.size A' c' xr)))
          Ext #[true, true, true, true, true, true, true, true, true, false, false, false] (by kernel_rfl) (VF.stab ?_) ?_ ?_ ((Ext.rf _).drew)
        · intro j v W W' _ ⟨g6, g14⟩ hx
          refine ⟨fun h => ?_, fun h => ?_⟩
          · obtain ⟨A', c', q1, q2⟩ := g6 h
            exact ⟨A', c', q1, q2.ext hx⟩
          · obtain ⟨q, A', c', q1, q2, q3⟩ := g14 h
            exact ⟨q, A', c', q1, q2.ext hx, q3.ext hx⟩
        · intro pq hpm u w2 hRW hD K hK
          have r5 := keepEL hRW zb c5
          have rd := keepEL hRW zh2 d5
          have ra := keepEL hRW hb a0
          have z2 := hRW.size
          simp only [List.mem_cons, List.not_mem_nil, or_false] at hpm
          rcases hpm with rfl | rfl | rfl | rfl | rfl | rfl
          · exact op_ld (T := 23) rfl (.pointer (some ⟨h, 5, none⟩)) (by kernel_rfl) (.slice C' k cc) (by go_simp) (hK _ _ (VF.mk rfl) hRW (Ext.rf _))
          · exact op_ld (T := 23) rfl (.pointer (some ⟨w.heap.size, 5, none⟩)) (by kernel_rfl) (.slice (some ⟨b', off, none⟩) i.cost.length c) (by go_simp) (hK _ _ (VF.mk rfl) hRW (Ext.rf _))
          · have h3 := (hD 3 (depIn (by kernel_rfl))).k rfl
            exact op_ix (T := 23) rfl _ (.int .i64 (k : Int)) (Eq.trans (b := u 3) (by kernel_rfl) h3) (by kernel_rfl) (.pointer (some ⟨b', off + k, none⟩)) (by go_simp) (hK _ _ (VF.mk rfl) hRW (Ext.rf _))
          · have h5 := (hD 5 (depIn (by kernel_rfl))).k rfl
            exact op_ld (T := 22) rfl _ (Eq.trans (b := u 5) (by kernel_rfl) h5) (.slice D r.length d) (by go_simp) (hK _ _ (VF.mk rfl) hRW (Ext.rf _))
          · refine op_call rfl #[.slice D r.length d] (by go_simp) (Eq.trans (b := #[u 6]) (by kernel_rfl) (by rw [(hD 6 (depIn (by kernel_rfl))).k rfl])) _ (cut_any2 exr.out D d w2 (hd.out.ext hRW) id.out ld ld'.out) ?_
            rintro e w3 ⟨A3, c3, rfl, o3, x3⟩
            exact ⟨_, rfl, hK _ _ (VF.mg rfl ⟨fun _ => ⟨A3, c3, rfl, o3.more z2⟩, (fun h => by cases h)⟩) (hRW.tr x3) x3⟩
          · obtain ⟨A3, c3, h8, o3⟩ := ((hD 7 (depIn (by kernel_rfl))).g rfl).1 rfl
            exact op_bs1 rfl _ (Eq.trans (b := u 7) (by kernel_rfl) h8) _ (hbs.out _ _ _) (hK _ _ (VF.mg rfl ⟨(fun h => by cases h), fun _ => ⟨_, A3, c3, rfl, .new rfl, o3.ext ((Ext.rf _).alloc _)⟩⟩) (hRW.alloc _) ((Ext.rf _).alloc _))
        · intro u w7 hRW hV
          have h1' := (hV (1, some 30) (by simp)).k rfl
          have h3' := (hV (3, some 32) (by simp)).k rfl
          have h5' := (hV (5, some 34) (by simp)).k rfl
          have h6' := (hV (6, some 35) (by simp)).k rfl
          obtain ⟨_, _, h7', _⟩ := ((hV (7, some 36) (by simp)).g rfl).1 rfl
          obtain ⟨q, A7, c7, h8', b8, o7⟩ := ((hV (8, some 37) (by simp)).g rfl).2 rfl
          simp only [putAll, h1', h3', h5', h6', h7', h8']
          have oV7 := oV.out.ext hRW
          have zwo := X.out.size
          have z7 := hRW.size
          obtain ⟨A4, c4, w4, hrun, o4, g4, _⟩ := run_app_v w7 (e := 22) Try.underlying23 hi.out hz0.out hz1.out hz2.out (by simp [Value.cells]) (by omega) w.heap.size 23 C' k cc us (some ⟨q, 0, none⟩) 1 1 [.slice A7 xr.length c7] oV7 ((RdV.blk b8).rdC) (by simp) (by simp [Value.oneCell']) (by simp only [maxLen]; omega) (by omega) (by omega)
          have M4 := oV7.grownT g4
          have e4 := (b4.out.ext hRW).modT M4 (by decide)
          have f5 := e4.free 5
          have e5 : w4.cell? ⟨h, 5, none⟩ = some (.slice C' k cc) := e4.cell 5
          have M5 : ModT w.heap.size [25] w4 (w4.setCell ⟨h, 5, none⟩ (.slice A4 (k + 1) c4)) := ModT.set w4 e4 (by simp) (by omega) 5 _
          have hne : w.heap.size ≠ h := by omega
          have hne1 : w.heap.size + 1 ≠ h := by omega
          have b5 := e4.set 5 (.slice A4 (k + 1) c4)
          have B15 := ((B1.out.ext hRW).modT M4 (by decide)).far (p := ⟨h, 5, none⟩) hne (.slice A4 (k + 1) c4)
          have B25 := ((B2.out.ext hRW).modT M4 (by decide)).far (p := ⟨h, 5, none⟩) hne1 (.slice A4 (k + 1) c4)
          have q8 := ((p8.out.ext hRW).modT M4 (by decide)).modT M5 (by decide)
          have q11 := ((p11.out.ext hRW).modT M4 (by decide)).modT M5 (by decide)
          have oV5 := o4.modT M5 (by decide)
          have oR5 := ((((oR.out.ext hRW).modT M4 (by decide)).modT M5 (by decide)).snoc (((o7.more zwo).modT M4 (by decide)).modT M5 (by decide)))
          have oD5 := Lib.hid (oD.out.snoc oR.out o7)
          have X5 := ((X.out.tr hRW).modT M4 (Nat.le_refl _)).modT M5 (Nat.le_refl _)
          rw [show wantC i.cost k ++ [xr] = wantC i.cost (k + 1) by rw [hsn.out, cutRow, exr.out]] at oR5
          have FIN := Lib.hid (And.intro b5 (And.intro B15 (And.intro B25 (And.intro q8 (And.intro q11 (And.intro oV5 (And.intro oR5 X5)))))))
          clear b5 B15 B25 q8 q11 oV5 oR5 X5 M5 M4 g4 o4 e4 oV7 h1' h3' h5' h6' h7' h8' hV b8 o7 b4 B1 B2 p8 p11 oV oR X
          refine wpAny_next 9 (by kernel_rfl) (op_app rfl (.slice C' k cc) (.slice (some ⟨q, 0, none⟩) 1 1) (by kernel_rfl) (by kernel_rfl) _ hrun ?_)
          try simp only [Act.put, List.setIfInBounds_toArray, List.set_cons_zero, List.set_cons_succ]
          refine wpAny_T (i := 10) (op := Op.fieldAddr 25 (Operand.tmp 3) 5) (t := 0) (d := some 39) (v := ?_) rfl (by decide +kernel) (by decide +kernel) (by decide +kernel) (fun _ _ _ h => h) ?_ ?_
          case refine_2 => (intro _; unfold exec2; go_simp; try with_reducible rfl)
          try simp only [Act.put, List.setIfInBounds_toArray, List.set_cons_zero, List.set_cons_succ]
          refine wpAny_next 11 (by kernel_rfl) (op_st rfl (.pointer (some ⟨h, 5, none⟩)) (.slice A4 (k + 1) c4) (by kernel_rfl) (by kernel_rfl) (by go_simp; rfl) ?_)
          refine wpAny_done (by kernel_rfl) ?_ _
          clear hrun hRW
          generalize w4.setCell ⟨h, 5, none⟩ (.slice A4 (k + 1) c4) = w5 at FIN ⊢
          go_simp
          go_wp2_with (fail)
          go_roundw
          case rel => exact ⟨k + 1, A4, c4, _, by go_num, by omega, by omega, FIN.out.1, FIN.out.2.1, FIN.out.2.2.1, FIN.out.2.2.2.1, FIN.out.2.2.2.2.1, FIN.out.2.2.2.2.2.1, FIN.out.2.2.2.2.2.2.1, FIN.out.2.2.2.2.2.2.2, oD5⟩
          case measure => simp [intOf]; omega
      · have hmin : min i.cost.length 30 = k := by omega
        have h0 : wo.cell? ⟨h, 0, none⟩ = some (.int .i64 i.kind) := b4.out.cell 0
        have h1 : wo.cell? ⟨h, 1, none⟩ = some (.int .i64 i.n) := b4.out.cell 1
        have h2 : wo.cell? ⟨h, 2, none⟩ = some (.int .i64 i.cap) := b4.out.cell 2
        have h3 : wo.cell? ⟨h, 3, none⟩ = some (.slice A3 xw.length c3) := b4.out.cell 3
        have h4 : wo.cell? ⟨h, 4, none⟩ = some (.slice B3 xv.length d3) := b4.out.cell 4
        have h5 : wo.cell? ⟨h, 5, none⟩ = some (.slice C' k cc) := b4.out.cell 5
        have t0 : wo.cell? ⟨w.heap.size + 1, 0, none⟩ = some (.int .i64 0) := B2.out.cell 0
        have t1 : wo.cell? ⟨w.heap.size + 1, 1, none⟩ = some (.int .i64 0) := B2.out.cell 1
        have t2 : wo.cell? ⟨w.heap.size + 1, 2, none⟩ = some (.int .i64 0) := B2.out.cell 2
        have t3 : wo.cell? ⟨w.heap.size + 1, 3, none⟩ = some (.slice none 0 0) := B2.out.cell 3
        have t4 : wo.cell? ⟨w.heap.size + 1, 4, none⟩ = some (.slice none 0 0) := B2.out.cell 4
        have t5 : wo.cell? ⟨w.heap.size + 1, 5, none⟩ = some (.slice none 0 0) := B2.out.cell 5
        have f0 := B2.out.free 0
        have f1 := B2.out.free 1
        have f2 := B2.out.free 2
        have f3 := B2.out.free 3
        have f4 := B2.out.free 4
        have f5 := B2.out.free 5
        obtain ⟨b6, M6⟩ := set6 B2.out (base := w.heap.size) (by omega) (.int .i64 i.kind) (.int .i64 i.n) (.int .i64 i.cap) (.slice A3 xw.length c3) (.slice B3 xv.length d3) (.slice C' k cc)
        have e1 := exw.out
        have e2 := exv.out
        have e3 : copyP i = ⟨i.kind, i.n, i.cap, xw, xv, wantC i.cost k⟩ := by rw [copyP, hmin, e1, e2]
        have hlen : (wantC i.cost k).length = k := wantC_len hk
        have I6 : InstOD ((((((wo.setCell ⟨w.heap.size + 1, 0, none⟩ (.int .i64 i.kind)).setCell ⟨w.heap.size + 1, 1, none⟩ (.int .i64 i.n)).setCell ⟨w.heap.size + 1, 2, none⟩ (.int .i64 i.cap)).setCell ⟨w.heap.size + 1, 3, none⟩ (.slice A3 xw.length c3)).setCell ⟨w.heap.size + 1, 4, none⟩ (.slice B3 xv.length d3)).setCell ⟨w.heap.size + 1, 5, none⟩ (.slice C' k cc)) w.heap.size [.int .i64 i.kind, .int .i64 i.n, .int .i64 i.cap, .slice A3 xw.length c3, .slice B3 xv.length d3, .slice C' k cc] (copyP i) := by
          rw [e3]
          refine ⟨A3, c3, B3, d3, C', cc, us, ?_, p8.out.modT M6 (by decide), p11.out.modT M6 (by decide), ?_, oR.out.modT M6 (by decide), oD.out⟩
          · simp only [hlen]
          · simp only [hlen]
            exact oV.out.modT M6 (by decide)
        have FIN : Hid (CopyPostD i w (.returned (.agg #[.int .i64 i.kind, .int .i64 i.n, .int .i64 i.cap, .slice A3 xw.length c3, .slice B3 xv.length d3, .slice C' k cc])) ((((((wo.setCell ⟨w.heap.size + 1, 0, none⟩ (.int .i64 i.kind)).setCell ⟨w.heap.size + 1, 1, none⟩ (.int .i64 i.n)).setCell ⟨w.heap.size + 1, 2, none⟩ (.int .i64 i.cap)).setCell ⟨w.heap.size + 1, 3, none⟩ (.slice A3 xw.length c3)).setCell ⟨w.heap.size + 1, 4, none⟩ (.slice B3 xv.length d3)).setCell ⟨w.heap.size + 1, 5, none⟩ (.slice C' k cc))) := ⟨_, rfl, I6, X.out.modT M6 (Nat.le_refl _)⟩
        clear I6 hlen e1 e2 e3 M6 b6 oV oR p8 p11 hmin
        by_cases h1' : k < i.cost.length
        · have h2' : ¬ k < 30 := by omega
          go_wp2_with (fail)
          exact bodyPost_ret (v := .agg #[.int .i64 i.kind, .int .i64 i.n, .int .i64 i.cap, .slice A3 xw.length c3, .slice B3 xv.length d3, .slice C' k cc]) (by simp [results, Try.results9, go_sem, *]) rfl FIN
        · go_wp2_with (fail)
          exact bodyPost_ret (v := .agg #[.int .i64 i.kind, .int .i64 i.n, .int .i64 i.cap, .slice A3 xw.length c3, .slice B3 xv.length d3, .slice C' k cc]) (by simp [results, Try.results9, go_sem, *]) rfl FIN
theorem copy_any (vs : List Value) (i : InstP) (w : World) (H : RInst w vs i) :
    Calls Try.prog 9 #[.agg (List.toArray vs)] w (CopyPost i w) :=
  (copyD_any vs i w H).mono fun _ _ ⟨vs, h1, h2, h3⟩ => ⟨vs, h1, h2.o, h3⟩
end Go.Proofs.Ytleckhbmciiooaa
